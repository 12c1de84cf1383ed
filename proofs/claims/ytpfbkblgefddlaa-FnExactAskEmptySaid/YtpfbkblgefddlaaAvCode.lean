/- Whole bodies: what they are compiled to, the rules for them. -/
import Derived.Test.YtpfbkblgefddlaaAvDrd2
namespace Go.Proofs.Ytpfbkblgefddlaa.Av
set_option linter.unusedSimpArgs false
set_option linter.unusedVariables false
open Go

def dstB (N : Nat) (ios : List IOper) : Bool := ios.all fun o => match o.dst with
  | some t => decide (t < N)
  | none => true

def comp (P : Program) (N : Nat) : Code → Option ICode
  | .skip => some .skip
  | .region _ ops draw => match cOpers P ops ops.toList with
    | some ios => if dstB N ios = true then (if draw = true then (if (drwOk ops ios || drdOk ops ios) = true then some (.drw ios (befG ops.toList []) (drwOk ops ios) (drdOk ops ios)) else none) else some (.reg ios)) else none
    | none => none
  | .seq a b => match comp P N a, comp P N b with
    | some x, some y => some (.seq x y)
    | _, _ => none
  | .cond c a b => match cOpd c, comp P N a, comp P N b with
    | some z, some x, some y => some (.cond z x y)
    | _, _, _ => none
  | .block id b => (comp P N b).map (.block id)
  | .loop b => (comp P N b).map .loop
  | .exit id => some (.exit id)
  | .ret => some .ret
  | _ => none

abbrev XK := Exit → Env → Heap → Nat → Prop

/-- A compiled body does what K says, from each state that the abstract one stands for. -/
def Aw (P : Program) (N k : Nat) (ic : ICode) (K : XK) (e : Env) (h : Heap) (n : Nat) : Prop :=
  ∀ c, comp P N c = some ic → ∀ (w0 : World) (pass own0 : Nat → Prop) (A : Anch), A.k = k → ∀ (a : Act) (w : World), St w0 pass own0 A N e h n a w →
    c.wp P (fun x a' w' => ∃ e' h' n', K x e' h' n' ∧ St w0 pass own0 A N e' h' n' a' w') a w

def thenK (A : Env → Heap → Nat → Prop) (K : XK) : XK
  | .normal => A
  | x => K x

def blockK (id : Nat) (K : XK) : XK
  | .exit j => if j = id then K .normal else K (.exit j)
  | x => K x

section
variable {P : Program} {N k : Nat} {Γ : Ctx} {K : XK} {e : Env} {h : Heap} {n : Nat}

theorem Aw.mono {ic : ICode} {K' : XK} (hk : ∀ x e h n, K x e h n → K' x e h n) (h1 : Aw P N k ic K e h n) : Aw P N k ic K' e h n :=
  fun c hc w0 pass own0 A hA a w st => wp_mono (h1 c hc w0 pass own0 A hA a w st) fun x _ _ ⟨e', h', n', g1, g2⟩ => ⟨e', h', n', hk x _ _ _ g1, g2⟩

theorem Aw.skip (hk : K .normal e h n) : Aw P N k .skip K e h n := by
  intro c hc w0 pass own0 A hA a w st
  cases c <;> simp only [comp] at hc <;> first | exact wp_skip ⟨e, h, n, hk, st⟩ | ((repeat' split at hc) <;> simp at hc)

theorem Aw.ret (hk : K .ret e h n) : Aw P N k .ret K e h n := by
  intro c hc w0 pass own0 A hA a w st
  cases c <;> simp only [comp] at hc <;> first | exact wp_ret ⟨e, h, n, hk, st⟩ | ((repeat' split at hc) <;> simp at hc)

theorem Aw.exit {id : Nat} (hk : K (.exit id) e h n) : Aw P N k (.exit id) K e h n := by
  intro c hc w0 pass own0 A hA a w st
  cases c <;> simp only [comp] at hc
  case exit id' =>
    simp at hc; subst hc
    exact wp_exit ⟨e, h, n, hk, st⟩
  all_goals ((repeat' split at hc) <;> simp at hc)

theorem cOpers_get {ops : Array Oper} : ∀ (l : List Oper) (ios : List IOper), cOpers P ops l = some ios → l.length = ios.length ∧ ∀ (i : Nat) io, ios[i]? = some io → ∃ o, l[i]? = some o ∧ cOper P ops o = some io
  | [], ios, h => by simp [cOpers] at h; subst h; simp
  | o :: r, ios, h => by
    simp only [cOpers] at h
    split at h
    · rename_i x y hx hy
      cases h
      obtain ⟨h1, h2⟩ := cOpers_get r y hy
      refine ⟨by simp [h1], fun i io hi => ?_⟩
      cases i with
      | zero => simp at hi; subst hi; exact ⟨o, rfl, hx⟩
      | succ i => exact h2 i io (by simpa using hi)
    · cases h

theorem reg_parts {ops : Array Oper} {ios : List IOper} (h : cOpers P ops ops.toList = some ios) (hd : dstB N ios = true) :
    ios.length = ops.size ∧ ∀ (i : Nat) io, ios[i]? = some io → ∃ o, ops[i]? = some o ∧ cOper P ops o = some io ∧ ∀ t, io.dst = some t → t < N := by
  obtain ⟨h1, h2⟩ := cOpers_get _ _ h
  refine ⟨by simpa using h1.symm, fun i io hi => ?_⟩
  obtain ⟨o, g1, g2⟩ := h2 i io hi
  refine ⟨o, by simpa using g1, g2, fun t ht => ?_⟩
  have := (List.all_eq_true.1 hd) io (List.mem_of_getElem? hi)
  rw [ht] at this
  simpa using this

theorem Aw.reg (hC : CallOk P (CK Γ)) {ios : List IOper} (hk : regK Γ ios e h n (K .normal)) : Aw P N k (.reg ios) K e h n := by
  intro c hc w0 pass own0 A hA a w st
  cases c <;> simp only [comp] at hc
  case region id ops draw =>
    split at hc
    · rename_i ios' hio
      split at hc
      · rename_i hd
        cases draw
        · simp at hc
          subst hc
          obtain ⟨g1, g2⟩ := reg_parts hio hd
          refine wp_region (reg_sound (Γ := Γ) (N := N) hC (List.range ops.size) ios' e h n a w (K .normal) (by simp [g1]) ?_ st hk ?_)
          · intro i k io h1 h2
            have : k = i := by
              obtain ⟨h3, h4⟩ := List.getElem?_eq_some_iff.1 h1
              simp at h4; exact h4.symm
            subst this
            exact g2 k io h2
          · intro e' h' n' a' w' hk' st'
            exact ⟨e', h', n', hk', st'⟩
        · simp at hc
      · cases hc
    · cases hc
  all_goals ((repeat' split at hc) <;> simp at hc)

theorem Aw.drw (hm : P.follows .mixedOrders = true) (hC : CallOk P (CD Γ)) {ios : List IOper} {us : List (List Nat)} {b2 : Bool} (hk : drwK Γ ios e h n (K .normal)) : Aw P N k (.drw ios us true b2) K e h n := by
  intro c hc w0 pass own0 A hA a w st
  cases c <;> simp only [comp] at hc
  case region id ops draw =>
    split at hc
    · rename_i ios' hio
      split at hc
      · rename_i hd
        cases draw
        · simp at hc
        · simp only [if_true] at hc
          split at hc
          · simp only [Option.some.injEq, ICode.drw.injEq] at hc
            obtain ⟨rfl, _, hok, _⟩ := hc
            obtain ⟨g1, g2⟩ := reg_parts hio hd
            refine wp_region_any hm (drw_sound (Γ := Γ) (N := N) (K := K .normal) hC g2 g1 hok ?_ st.drawn hk)
            intro e' h' n' a' w' hk' st'
            exact ⟨e', h', n', hk', st'⟩
          · cases hc
      · cases hc
    · cases hc
  all_goals ((repeat' split at hc) <;> simp at hc)

theorem Aw.drd (hm : P.follows .mixedOrders = true) (hC : CallOk P (CU Γ)) (hV : CtxNV Γ) {ios : List IOper} {us : List (List Nat)} {b1 : Bool} (hk : drdK (CU Γ) (uOf us) ios (List.range ios.length) [] e h n (K .normal)) : Aw P N k (.drw ios us b1 true) K e h n := by
  intro c hc w0 pass own0 A hA a w st
  cases c <;> simp only [comp] at hc
  case region id ops draw =>
    split at hc
    · rename_i ios' hio
      split at hc
      · rename_i hd
        cases draw
        · simp at hc
        · simp only [if_true] at hc
          split at hc
          · simp only [Option.some.injEq, ICode.drw.injEq] at hc
            obtain ⟨rfl, rfl, _, hok⟩ := hc
            obtain ⟨g1, g2⟩ := reg_parts hio hd
            rw [g1] at hk
            refine wp_region_any hm (drd_sound (N := N) (K := K .normal) hC (callGood_U hV) g2 hok ?_ st.drawn hk)
            intro e' h' n' a' w' hk' st'
            exact ⟨e', h', n', hk', st'⟩
          · cases hc
      · cases hc
    · cases hc
  all_goals ((repeat' split at hc) <;> simp at hc)

theorem Aw.seq {x y : ICode} (hk : Aw P N k x (thenK (Aw P N k y K) K) e h n) : Aw P N k (.seq x y) K e h n := by
  intro c hc w0 pass own0 A hA a w st
  cases c <;> simp only [comp] at hc
  case seq c1 c2 =>
    split at hc
    · rename_i x' y' h1 h2
      simp at hc
      obtain ⟨rfl, rfl⟩ := hc
      refine wp_seq (wp_mono (hk c1 h1 w0 pass own0 A hA a w st) ?_)
      rintro ex a' w' ⟨e', h', n', g1, g2⟩
      cases ex <;> simp only [thenK, Exit.then] at g1 ⊢ <;> first | exact ⟨e', h', n', g1, g2⟩ | exact g1 c2 h2 w0 pass own0 A hA a' w' g2
    · cases hc
  all_goals ((repeat' split at hc) <;> simp at hc)

theorem Aw.block {id : Nat} {x : ICode} (hk : Aw P N k x (blockK id K) e h n) : Aw P N k (.block id x) K e h n := by
  intro c hc w0 pass own0 A hA a w st
  cases c <;> simp only [comp] at hc
  case block id' c1 =>
    simp only [Option.map_eq_some_iff, ICode.block.injEq] at hc
    obtain ⟨x', h1, rfl, rfl⟩ := hc
    refine wp_block (wp_mono (hk c1 h1 w0 pass own0 A hA a w st) ?_)
    rintro ex a' w' ⟨e', h', n', g1, g2⟩
    cases ex <;> simp only [blockK, Exit.inBlock] at g1 ⊢ <;> first | exact ⟨e', h', n', g1, g2⟩ | skip
    split at g1
    · rename_i hj; rw [if_pos hj]; exact ⟨e', h', n', g1, g2⟩
    · rename_i hj; rw [if_neg hj]; exact ⟨e', h', n', g1, g2⟩
  all_goals ((repeat' split at hc) <;> simp at hc)

def condK (v : AV) (yes no : Prop) : Prop := match v with
  | .maybe c d => (c → yes) ∧ (d → no)
  | .bool c => (c = true → yes) ∧ (c = false → no)
  | _ => False

theorem Aw.cond {z : Opd} {x y : ICode} (hk : condK (z.ev e) (Aw P N k x K e h n) (Aw P N k y K e h n)) : Aw P N k (.cond z x y) K e h n := by
  intro c hc w0 pass own0 A hA a w st
  cases c <;> simp only [comp] at hc
  case cond cz c1 c2 =>
    split at hc
    · rename_i z' x' y' h0 h1 h2
      simp at hc
      obtain ⟨rfl, rfl, rfl⟩ := hc
      have hr : ∃ π, Rel w (ownOf own0 π) π n (z'.ev e) (a.eval cz) := by
        obtain ⟨_, _, π, _, s⟩ := st
        exact ⟨π, rel_opd s h0⟩
      obtain ⟨π, hr⟩ := hr
      cases hv : z'.ev e <;> rw [hv] at hk hr <;> simp only [condK] at hk
      · rename_i b
        generalize hu : a.eval cz = u at hr
        cases hr
        exact wp_cond_split hu (fun hb => hk.1 hb c1 h1 w0 pass own0 A hA a w st) (fun hb => hk.2 hb c2 h2 w0 pass own0 A hA a w st)
      · generalize hu : a.eval cz = u at hr
        cases hr with
        | maybe _ _ b g1 g2 => exact wp_cond_split hu (fun hb => hk.1 (g1 hb) c1 h1 w0 pass own0 A hA a w st) (fun hb => hk.2 (g2 hb) c2 h2 w0 pass own0 A hA a w st)
    · cases hc
  all_goals ((repeat' split at hc) <;> simp at hc)

theorem least_of {p : Nat → Prop} (h : ∃ m, p m) : ∃ m, p m ∧ ∀ k, p k → m ≤ k := by
  obtain ⟨m, hm⟩ := h
  induction m using Nat.strongRecOn with
  | _ m ih =>
    by_cases hc : ∃ k, k < m ∧ p k
    · obtain ⟨k, h1, h2⟩ := hc; exact ih k h1 h2
    · refine ⟨m, hm, fun k hk => ?_⟩
      by_cases hl : m ≤ k
      · exact hl
      · exact absurd ⟨k, by omega, hk⟩ hc

theorem Aw.loop {x : ICode} (I : Nat → Env → Heap → Nat → Prop) (m : Nat) (h0 : I m e h n)
    (round : ∀ m e h n, I m e h n → Aw P N k x (thenK (fun e' h' n' => ∃ m', m' < m ∧ I m' e' h' n') K) e h n) : Aw P N k (.loop x) K e h n := by
  intro c hc w0 pass own0 A hA a w st
  cases c <;> simp only [comp] at hc
  case loop c1 =>
    simp only [Option.map_eq_some_iff, ICode.loop.injEq] at hc
    obtain ⟨x', h1, rfl⟩ := hc
    classical
    let J : Nat → Act → World → Prop := fun m a w => ∃ e h n, I m e h n ∧ St w0 pass own0 A N e h n a w
    let μ : Act → World → Nat := fun a w => if hh : ∃ m, J m a w then Classical.choose (least_of hh) else 0
    refine wp_loop (I := fun a w => ∃ m, J m a w) μ ⟨m, e, h, n, h0, st⟩ ?_
    intro a w hI
    have hμ : μ a w = Classical.choose (least_of hI) := by simp only [μ]; rw [dif_pos hI]
    obtain ⟨e1, h1', n1, g1, g2⟩ := (Classical.choose_spec (least_of hI)).1
    refine wp_mono (round _ e1 h1' n1 g1 c1 h1 w0 pass own0 A hA a w g2) ?_
    rintro ex a' w' ⟨e', h', n', k1, k2⟩
    cases ex <;> simp only [thenK, Exit.then] at k1 ⊢ <;> first | exact ⟨e', h', n', k1, k2⟩ | skip
    obtain ⟨m', hm', hI'⟩ := k1
    have hJ : ∃ m, J m a' w' := ⟨m', e', h', n', hI', k2⟩
    refine ⟨hJ, ?_⟩
    rw [hμ]
    simp only [μ]
    rw [dif_pos hJ]
    exact Nat.lt_of_le_of_lt ((Classical.choose_spec (least_of hJ)).2 m' ⟨e', h', n', hI', k2⟩) hm'
  all_goals ((repeat' split at hc) <;> simp at hc)

end
end Go.Proofs.Ytpfbkblgefddlaa.Av
