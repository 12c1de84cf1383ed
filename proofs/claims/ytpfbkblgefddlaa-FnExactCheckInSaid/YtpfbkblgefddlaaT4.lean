/- Part 4 of the proof of FnExactCheckInSaid: AvCode to CtBits. Conditions: none. -/
import Derived.Test.YtpfbkblgefddlaaT3
import Derived.Laws.Sem
import Derived.IntWalk
import Derived.Test.YtpfbkblgefddlaaProg
import Derived.KernelRfl
namespace Go.Proofs.Ytpfbkblgefddlaa.Av
set_option linter.unusedSimpArgs false
set_option linter.unusedVariables false
open Go
def dstB (N : Nat) (ios : List IOper) : Bool := ios.all fun o => match o.dst with
  | some t => decide (t < N)
  | none => true
def comp (P : Program) (N : Nat) : Code → Option ICode
  | .skip => some .skip
  | .region _ ops draw => match cOpers P ops ops.toList with
    | some ios => if dstB N ios = true then (if draw = true then (if (drwOk ops ios || drdOk ops ios) = true then some (.drw ios (befG ops.toList []) (drwOk ops ios) (drdOk ops ios)) else none) else some (.reg ios)) else none
    | none => none
  | .seq a b => match comp P N a, comp P N b with
    | some x, some y => some (.seq x y)
    | _, _ => none
  | .cond c a b => match cOpd c, comp P N a, comp P N b with
    | some z, some x, some y => some (.cond z x y)
    | _, _, _ => none
  | .block id b => (comp P N b).map (.block id)
  | .loop b => (comp P N b).map .loop
  | .exit id => some (.exit id)
  | .ret => some .ret
  | _ => none
abbrev XK := Exit → Env → Heap → Nat → Prop
def Aw (P : Program) (N k : Nat) (ic : ICode) (K : XK) (e : Env) (h : Heap) (n : Nat) : Prop :=
  ∀ c, comp P N c = some ic → ∀ (w0 : World) (pass own0 : Nat → Prop) (A : Anch), A.k = k → ∀ (a : Act) (w : World), St w0 pass own0 A N e h n a w →
    c.wp P (fun x a' w' => ∃ e' h' n', K x e' h' n' ∧ St w0 pass own0 A N e' h' n' a' w') a w
def thenK (A : Env → Heap → Nat → Prop) (K : XK) : XK
  | .normal => A
  | x => K x
def blockK (id : Nat) (K : XK) : XK
  | .exit j => if j = id then K .normal else K (.exit j)
  | x => K x
section
variable {P : Program} {N k : Nat} {Γ : Ctx} {K : XK} {e : Env} {h : Heap} {n : Nat}
theorem Aw.mono {ic : ICode} {K' : XK} (hk : ∀ x e h n, K x e h n → K' x e h n) (h1 : Aw P N k ic K e h n) : Aw P N k ic K' e h n :=
  fun c hc w0 pass own0 A hA a w st => wp_mono (h1 c hc w0 pass own0 A hA a w st) fun x _ _ ⟨e', h', n', g1, g2⟩ => ⟨e', h', n', hk x _ _ _ g1, g2⟩
theorem Aw.skip (hk : K .normal e h n) : Aw P N k .skip K e h n := by
  intro c hc w0 pass own0 A hA a w st
  cases c <;> simp only [comp] at hc <;> first | exact wp_skip ⟨e, h, n, hk, st⟩ | ((repeat' split at hc) <;> simp at hc)
theorem Aw.ret (hk : K .ret e h n) : Aw P N k .ret K e h n := by
  intro c hc w0 pass own0 A hA a w st
  cases c <;> simp only [comp] at hc <;> first | exact wp_ret ⟨e, h, n, hk, st⟩ | ((repeat' split at hc) <;> simp at hc)
theorem Aw.exit {id : Nat} (hk : K (.exit id) e h n) : Aw P N k (.exit id) K e h n := by
  intro c hc w0 pass own0 A hA a w st
  cases c <;> simp only [comp] at hc
  case exit id' =>
    simp at hc; subst hc
    exact wp_exit ⟨e, h, n, hk, st⟩
  all_goals ((repeat' split at hc) <;> simp at hc)
theorem cOpers_get {ops : Array Oper} : ∀ (l : List Oper) (ios : List IOper), cOpers P ops l = some ios → l.length = ios.length ∧ ∀ (i : Nat) io, ios[i]? = some io → ∃ o, l[i]? = some o ∧ cOper P ops o = some io
  | [], ios, h => by simp [cOpers] at h; subst h; simp
  | o :: r, ios, h => by
    simp only [cOpers] at h
    split at h
    · rename_i x y hx hy
      cases h
      obtain ⟨h1, h2⟩ := cOpers_get r y hy
      refine ⟨by simp [h1], fun i io hi => ?_⟩
      cases i with
      | zero => simp at hi; subst hi; exact ⟨o, rfl, hx⟩
      | succ i => exact h2 i io (by simpa using hi)
    · cases h
theorem reg_parts {ops : Array Oper} {ios : List IOper} (h : cOpers P ops ops.toList = some ios) (hd : dstB N ios = true) :
    ios.length = ops.size ∧ ∀ (i : Nat) io, ios[i]? = some io → ∃ o, ops[i]? = some o ∧ cOper P ops o = some io ∧ ∀ t, io.dst = some t → t < N := by
  obtain ⟨h1, h2⟩ := cOpers_get _ _ h
  refine ⟨by simpa using h1.symm, fun i io hi => ?_⟩
  obtain ⟨o, g1, g2⟩ := h2 i io hi
  refine ⟨o, by simpa using g1, g2, fun t ht => ?_⟩
  have := (List.all_eq_true.1 hd) io (List.mem_of_getElem? hi)
  rw [ht] at this
  simpa using this
theorem Aw.reg (hC : CallOk P (CK Γ)) {ios : List IOper} (hk : regK Γ ios e h n (K .normal)) : Aw P N k (.reg ios) K e h n := by
  intro c hc w0 pass own0 A hA a w st
  cases c <;> simp only [comp] at hc
  case region id ops draw =>
    split at hc
    · rename_i ios' hio
      split at hc
      · rename_i hd
        cases draw
        · simp at hc
          subst hc
          obtain ⟨g1, g2⟩ := reg_parts hio hd
          refine wp_region (reg_sound (Γ := Γ) (N := N) hC (List.range ops.size) ios' e h n a w (K .normal) (by simp [g1]) ?_ st hk ?_)
          · intro i k io h1 h2
            have : k = i := by
              obtain ⟨h3, h4⟩ := List.getElem?_eq_some_iff.1 h1
              simp at h4; exact h4.symm
            subst this
            exact g2 k io h2
          · intro e' h' n' a' w' hk' st'
            exact ⟨e', h', n', hk', st'⟩
        · simp at hc
      · cases hc
    · cases hc
  all_goals ((repeat' split at hc) <;> simp at hc)
theorem Aw.drw (hm : P.follows .mixedOrders = true) (hC : CallOk P (CD Γ)) {ios : List IOper} {us : List (List Nat)} {b2 : Bool} (hk : drwK Γ ios e h n (K .normal)) : Aw P N k (.drw ios us true b2) K e h n := by
  intro c hc w0 pass own0 A hA a w st
  cases c <;> simp only [comp] at hc
  case region id ops draw =>
    split at hc
    · rename_i ios' hio
      split at hc
      · rename_i hd
        cases draw
        · simp at hc
        · simp only [if_true] at hc
          split at hc
          · simp only [Option.some.injEq, ICode.drw.injEq] at hc
            obtain ⟨rfl, _, hok, _⟩ := hc
            obtain ⟨g1, g2⟩ := reg_parts hio hd
            refine wp_region_any hm (drw_sound (Γ := Γ) (N := N) (K := K .normal) hC g2 g1 hok ?_ st.drawn hk)
            intro e' h' n' a' w' hk' st'
            exact ⟨e', h', n', hk', st'⟩
          · cases hc
      · cases hc
    · cases hc
  all_goals ((repeat' split at hc) <;> simp at hc)
theorem Aw.drd (hm : P.follows .mixedOrders = true) (hC : CallOk P (CU Γ)) (hV : CtxNV Γ) {ios : List IOper} {us : List (List Nat)} {b1 : Bool} (hk : drdK (CU Γ) (uOf us) ios (List.range ios.length) [] e h n (K .normal)) : Aw P N k (.drw ios us b1 true) K e h n := by
  intro c hc w0 pass own0 A hA a w st
  cases c <;> simp only [comp] at hc
  case region id ops draw =>
    split at hc
    · rename_i ios' hio
      split at hc
      · rename_i hd
        cases draw
        · simp at hc
        · simp only [if_true] at hc
          split at hc
          · simp only [Option.some.injEq, ICode.drw.injEq] at hc
            obtain ⟨rfl, rfl, _, hok⟩ := hc
            obtain ⟨g1, g2⟩ := reg_parts hio hd
            rw [g1] at hk
            refine wp_region_any hm (drd_sound (N := N) (K := K .normal) hC (callGood_U hV) g2 hok ?_ st.drawn hk)
            intro e' h' n' a' w' hk' st'
            exact ⟨e', h', n', hk', st'⟩
          · cases hc
      · cases hc
    · cases hc
  all_goals ((repeat' split at hc) <;> simp at hc)
theorem Aw.seq {x y : ICode} (hk : Aw P N k x (thenK (Aw P N k y K) K) e h n) : Aw P N k (.seq x y) K e h n := by
  intro c hc w0 pass own0 A hA a w st
  cases c <;> simp only [comp] at hc
  case seq c1 c2 =>
    split at hc
    · rename_i x' y' h1 h2
      simp at hc
      obtain ⟨rfl, rfl⟩ := hc
      refine wp_seq (wp_mono (hk c1 h1 w0 pass own0 A hA a w st) ?_)
      rintro ex a' w' ⟨e', h', n', g1, g2⟩
      cases ex <;> simp only [thenK, Exit.then] at g1 ⊢ <;> first | exact ⟨e', h', n', g1, g2⟩ | exact g1 c2 h2 w0 pass own0 A hA a' w' g2
    · cases hc
  all_goals ((repeat' split at hc) <;> simp at hc)
theorem Aw.block {id : Nat} {x : ICode} (hk : Aw P N k x (blockK id K) e h n) : Aw P N k (.block id x) K e h n := by
  intro c hc w0 pass own0 A hA a w st
  cases c <;> simp only [comp] at hc
  case block id' c1 =>
    simp only [Option.map_eq_some_iff, ICode.block.injEq] at hc
    obtain ⟨x', h1, rfl, rfl⟩ := hc
    refine wp_block (wp_mono (hk c1 h1 w0 pass own0 A hA a w st) ?_)
    rintro ex a' w' ⟨e', h', n', g1, g2⟩
    cases ex <;> simp only [blockK, Exit.inBlock] at g1 ⊢ <;> first | exact ⟨e', h', n', g1, g2⟩ | skip
    split at g1
    · rename_i hj; rw [if_pos hj]; exact ⟨e', h', n', g1, g2⟩
    · rename_i hj; rw [if_neg hj]; exact ⟨e', h', n', g1, g2⟩
  all_goals ((repeat' split at hc) <;> simp at hc)
def condK (v : AV) (yes no : Prop) : Prop := match v with
  | .maybe c d => (c → yes) ∧ (d → no)
  | .bool c => (c = true → yes) ∧ (c = false → no)
  | _ => False
theorem Aw.cond {z : Opd} {x y : ICode} (hk : condK (z.ev e) (Aw P N k x K e h n) (Aw P N k y K e h n)) : Aw P N k (.cond z x y) K e h n := by
  intro c hc w0 pass own0 A hA a w st
  cases c <;> simp only [comp] at hc
  case cond cz c1 c2 =>
    split at hc
    · rename_i z' x' y' h0 h1 h2
      simp at hc
      obtain ⟨rfl, rfl, rfl⟩ := hc
      have hr : ∃ π, Rel w (ownOf own0 π) π n (z'.ev e) (a.eval cz) := by
        obtain ⟨_, _, π, _, s⟩ := st
        exact ⟨π, rel_opd s h0⟩
      obtain ⟨π, hr⟩ := hr
      cases hv : z'.ev e <;> rw [hv] at hk hr <;> simp only [condK] at hk
      · rename_i b
        generalize hu : a.eval cz = u at hr
        cases hr
        exact wp_cond_split hu (fun hb => hk.1 hb c1 h1 w0 pass own0 A hA a w st) (fun hb => hk.2 hb c2 h2 w0 pass own0 A hA a w st)
      · generalize hu : a.eval cz = u at hr
        cases hr with
        | maybe _ _ b g1 g2 => exact wp_cond_split hu (fun hb => hk.1 (g1 hb) c1 h1 w0 pass own0 A hA a w st) (fun hb => hk.2 (g2 hb) c2 h2 w0 pass own0 A hA a w st)
    · cases hc
  all_goals ((repeat' split at hc) <;> simp at hc)
theorem least_of {p : Nat → Prop} (h : ∃ m, p m) : ∃ m, p m ∧ ∀ k, p k → m ≤ k := by
  obtain ⟨m, hm⟩ := h
  induction m using Nat.strongRecOn with
  | _ m ih =>
    by_cases hc : ∃ k, k < m ∧ p k
    · obtain ⟨k, h1, h2⟩ := hc; exact ih k h1 h2
    · refine ⟨m, hm, fun k hk => ?_⟩
      by_cases hl : m ≤ k
      · exact hl
      · exact absurd ⟨k, by omega, hk⟩ hc
theorem Aw.loop {x : ICode} (I : Nat → Env → Heap → Nat → Prop) (m : Nat) (h0 : I m e h n)
    (round : ∀ m e h n, I m e h n → Aw P N k x (thenK (fun e' h' n' => ∃ m', m' < m ∧ I m' e' h' n') K) e h n) : Aw P N k (.loop x) K e h n := by
  intro c hc w0 pass own0 A hA a w st
  cases c <;> simp only [comp] at hc
  case loop c1 =>
    simp only [Option.map_eq_some_iff, ICode.loop.injEq] at hc
    obtain ⟨x', h1, rfl⟩ := hc
    classical
    let J : Nat → Act → World → Prop := fun m a w => ∃ e h n, I m e h n ∧ St w0 pass own0 A N e h n a w
    let μ : Act → World → Nat := fun a w => if hh : ∃ m, J m a w then Classical.choose (least_of hh) else 0
    refine wp_loop (I := fun a w => ∃ m, J m a w) μ ⟨m, e, h, n, h0, st⟩ ?_
    intro a w hI
    have hμ : μ a w = Classical.choose (least_of hI) := by simp only [μ]; rw [dif_pos hI]
    obtain ⟨e1, h1', n1, g1, g2⟩ := (Classical.choose_spec (least_of hI)).1
    refine wp_mono (round _ e1 h1' n1 g1 c1 h1 w0 pass own0 A hA a w g2) ?_
    rintro ex a' w' ⟨e', h', n', k1, k2⟩
    cases ex <;> simp only [thenK, Exit.then] at k1 ⊢ <;> first | exact ⟨e', h', n', k1, k2⟩ | skip
    obtain ⟨m', hm', hI'⟩ := k1
    have hJ : ∃ m, J m a' w' := ⟨m', e', h', n', hI', k2⟩
    refine ⟨hJ, ?_⟩
    rw [hμ]
    simp only [μ]
    rw [dif_pos hJ]
    exact Nat.lt_of_le_of_lt ((Classical.choose_spec (least_of hJ)).2 m' ⟨e', h', n', hI', k2⟩) hm'
  all_goals ((repeat' split at hc) <;> simp at hc)
end
end Go.Proofs.Ytpfbkblgefddlaa.Av
namespace Go.Proofs.Ytpfbkblgefddlaa.Av
set_option linter.unusedSimpArgs false
set_option linter.unusedVariables false
open Go
def Heap.rest (h : Heap) (σ : List (Option Nat)) : Heap := fun id => if some id ∈ σ then Option.none else h id
mutual
def covV (σ : List (Option Nat)) (h : Heap) : AV → AV → Prop
  | _, .top => True
  | x, .ref j off len => match (σ[j]? : Option (Option Nat)) with
    | some (some i) => x = .ref i off len
    | some none => x = .snil ∧ off = 0 ∧ len = 0
    | none => False
  | x, .ptr j i off => match (σ[j]? : Option (Option Nat)) with
    | some (some k) => x = .ptr k i off
    | _ => False
  | x, .mp j => match (σ[j]? : Option (Option Nat)) with
    | some (some k) => x = .mp k
    | _ => False
  | x, .agg ys => match x with
    | .agg xs => covL σ h xs ys
    | _ => False
  | x, .tup ys => match x with
    | .tup xs => covL σ h xs ys
    | _ => False
  | x, .fn f ys => match x with
    | .fn g xs => f = g ∧ covL σ h xs ys
    | _ => False
  | x, .own z rows => x = .own z rows
  | _, .tmp _ => False
  | _, .maybe _ _ => False
  | x, y => x = y ∨ x.snap (h.rest σ) = y
def covL (σ : List (Option Nat)) (h : Heap) : List AV → List AV → Prop
  | [], [] => True
  | x :: xs, y :: ys => covV σ h x y ∧ covL σ h xs ys
  | _, _ => False
end
def covOs (σ : List (Option Nat)) (h : Heap) : List (Option Nat) → List (Option AObj) → Prop
  | [], [] => True
  | none :: s, none :: os => covOs σ h s os
  | none :: s, some (.arr _ rows) :: os => rows = [] ∧ covOs σ h s os
  | none :: s, some (.nst _ rows) :: os => rows = [] ∧ covOs σ h s os
  | some i :: s, some o' :: os => (match h i, o' with
    | some (.box row), .box row' => covL σ h row row'
    | some (.arr z rows), .arr z' rows' => z = z' ∧ rows = rows'
    | some (.nst z rows), .nst z' rows' => z = z' ∧ rows = rows'
    | some (.arx z rows), .arx z' rows' => z = z' ∧ rows.length = rows'.length ∧ ∀ (i : Nat) r r', rows[i]? = some r → rows'[i]? = some r' → covL σ h r r'
    | some (.map st es), .map st' es' => st = st' ∧ es = es'
    | some (.itr st cur left), .itr st' cur' left' => st = st' ∧ cur = cur' ∧ left = left'
    | _, _ => False) ∧ covOs σ h s os
  | _, _ => False
def nodupB : List (Option Nat) → Bool
  | [] => true
  | none :: r => nodupB r
  | some i :: r => !(r.contains (some i)) && nodupB r
def sinv : List (Option Nat) → Nat → Option Nat
  | [], _ => none
  | x :: r, i => if x = some i then some 0 else (sinv r i).map (· + 1)
theorem sinv_get : ∀ {σ : List (Option Nat)} {i j : Nat}, sinv σ i = some j → σ[j]? = some (some i)
  | [], i, j, h => by simp [sinv] at h
  | x :: r, i, j, h => by
    simp only [sinv] at h
    split at h
    · rename_i hx; cases h; simp [hx]
    · obtain ⟨k, hk, rfl⟩ := Option.map_eq_some_iff.1 h
      simpa using sinv_get hk
theorem sinv_mem : ∀ {σ : List (Option Nat)} {i : Nat}, some i ∈ σ → ∃ j, sinv σ i = some j
  | [], i, h => by cases h
  | x :: r, i, h => by
    simp only [sinv]
    split
    · exact ⟨0, rfl⟩
    · rename_i hx
      rcases List.mem_cons.1 h with h | h
      · exact absurd h.symm hx
      · obtain ⟨j, hj⟩ := sinv_mem h
        exact ⟨j + 1, by rw [hj]; rfl⟩
def covPl (σ : List (Option Nat)) (os : List (Option AObj)) (π : Pl) : Pl where
  at' j := match (σ[j]? : Option (Option Nat)) with
    | some (some i) => π i
    | some none => match os[j]? with
      | some (some (.arr z _)) => some ⟨none, z, 0⟩
      | some (some (.nst z _)) => some ⟨none, z, 0⟩
      | _ => none
    | none => none
  hid b := (π.hid b).bind fun k => (sinv σ k.1).map fun j => (j, k.2)
theorem covPl_at (σ : List (Option Nat)) (os : List (Option AObj)) (π : Pl) (j : Nat) : covPl σ os π j = match (σ[j]? : Option (Option Nat)) with
    | some (some i) => π i
    | some none => match os[j]? with
      | some (some (.arr z _)) => some ⟨none, z, 0⟩
      | some (some (.nst z _)) => some ⟨none, z, 0⟩
      | _ => none
    | none => none := rfl
theorem covPl_hid {σ : List (Option Nat)} {os : List (Option AObj)} {π : Pl} {b : Nat} {k : Nat × Nat × Nat} (h : (covPl σ os π).hid b = some k) : ∃ k0, π.hid b = some k0 ∧ sinv σ k0.1 = some k.1 ∧ k.2 = k0.2 := by
  have h : ((π.hid b).bind fun (k : Nat × Nat × Nat) => (sinv σ k.1).map fun j => (j, k.2)) = some k := h
  obtain ⟨k0, h1, h2⟩ := Option.bind_eq_some_iff.1 h
  obtain ⟨j, h3, h4⟩ := Option.map_eq_some_iff.1 h2
  subst h4
  exact ⟨k0, h1, h3, rfl⟩
theorem covPl_hid_mk {σ : List (Option Nat)} {os : List (Option AObj)} {π : Pl} {b i j c d : Nat} (h : π.hid b = some (i, c, d)) (hj : sinv σ i = some j) : (covPl σ os π).hid b = some (j, c, d) := by
  show ((π.hid b).bind fun (k : Nat × Nat × Nat) => (sinv σ k.1).map fun j => (j, k.2)) = _
  rw [h, Option.bind_some]
  dsimp only
  rw [hj]; rfl
theorem Rel.less {w : World} {own own' : Nat → Prop} {π π' : PlF} {n n' : Nat} (ho : ∀ b, own' b → own b) (hp : ∀ id p, π id = some p → (π' id = some p ∨ π' id = none) ∧ id < n) (hd : ∀ id, π id = none → id < n → π' id = none) (hn : n ≤ n') {x : AV} {v : Value} (h : Rel w own π n x v) :
    Rel w own' π' n' x v := by
  induction h with
  | top v => exact .top v
  | undef => exact .undef
  | int k n => exact .int k n
  | bool b => exact .bool b
  | str s => exact .str s
  | agg vs cs hl _ ih => exact .agg vs cs hl ih
  | tup vs cs hl _ ih => exact .tup vs cs hl ih
  | refLive id off len b cap p hpp hb h1 h2 =>
    rcases (hp id p hpp).1 with h | h
    · exact .refLive id off len b cap p h hb h1 h2
    · exact .refDead id off len _ _ h (Nat.lt_of_lt_of_le (hp id p hpp).2 hn)
  | refEnd id off o b p hpp hb =>
    rcases (hp id p hpp).1 with h | h
    · exact .refEnd id off o b p h hb
    · exact .refDead id off 0 _ _ h (Nat.lt_of_lt_of_le (hp id p hpp).2 hn)
  | refNil id a p hpp hb =>
    rcases (hp id p hpp).1 with h | h
    · exact .refNil id a p h hb
    · exact .refDead id 0 0 _ _ h (Nat.lt_of_lt_of_le (hp id p hpp).2 hn)
  | refDead id off len v cap hpp hlt => exact .refDead id off len v cap (hd id hpp hlt) (Nat.lt_of_lt_of_le hlt hn)
  | snil a => exact .snil a
  | valNil a cap => exact .valNil a cap
  | val rows g off cap s us hg hgs hc hm hs hf hu _ ih => exact .val rows g off cap s us (fun k => hg (ho _ k)) hgs hc hm hs hf hu ih
  | tmp rows g off cap s us hg hgs hc hm hs hu h1 _ ih => exact .tmp rows g off cap s us (fun k => hg (ho _ k)) hgs hc hm hs hu h1 ih
  | ptrLive id i off b p hpp hb =>
    rcases (hp id p hpp).1 with h | h
    · exact .ptrLive id i off b p h hb
    · exact .ptrDead id i off _ h (Nat.lt_of_lt_of_le (hp id p hpp).2 hn)
  | ptrDead id i off v hpp hlt => exact .ptrDead id i off v (hd id hpp hlt) (Nat.lt_of_lt_of_le hlt hn)
  | rptr row off g o us hg hgs hf hu _ ih => exact .rptr row off g o us (fun k => hg (ho _ k)) hgs hf hu ih
  | pnil => exact .pnil
  | fn f caps cs hl _ ih => exact .fn f caps cs hl ih
  | fnil => exact .fnil
  | maybe c d b h1 h2 => exact .maybe c d b h1 h2
  | mpLive id b p hpp hb =>
    rcases (hp id p hpp).1 with h | h
    · exact .mpLive id b p h hb
    · exact .mpDead id b h (Nat.lt_of_lt_of_le (hp id p hpp).2 hn)
  | mpDead id b hpp hlt => exact .mpDead id b (hd id hpp hlt) (Nat.lt_of_lt_of_le hlt hn)
theorem NstAt.less {w : World} {own own' : Nat → Prop} {π π' : Pl} {n n' id : Nat} (ho : ∀ b, own' b → own b) (hp : ∀ id p, π id = some p → (π' id = some p ∨ π' id = none) ∧ id < n) (hd : ∀ id, π id = none → id < n → π' id = none) (hn : n ≤ n')
    (hh : ∀ b i j, π.hid b = some (id, i, j) → π'.hid b = some (id, i, j)) {p : Place} {s : Nat} {rows : List (List AV)} (h : NstAt w own π n id p s rows) : NstAt w own' π' n' id p s rows := by
  obtain ⟨h0, h1, h2⟩ := h
  refine ⟨h0, h1, ?_⟩
  cases hb : p.blk with
  | none => simpa [hb] using h2
  | some b =>
    simp only [hb] at h2
    obtain ⟨cur, e, g1, g2, g3, g4, g5⟩ := h2
    refine ⟨cur, e, g1, g2, g3, g4, fun i j row x u a1 a2 a3 => ?_⟩
    have hc := g5 i j row x u a1 a2 a3
    by_cases hl : x.lone = true
    · exact (cellAt_lone hl).2 (((cellAt_lone hl).1 hc).less ho hp hd hn)
    · cases x <;> simp [AV.lone] at hl
      exact OwnAt.less ho (fun b hb => hh b i j hb) hc
theorem ObjAt.less {w : World} {own own' : Nat → Prop} {π π' : Pl} {n n' id : Nat} (ho : ∀ b, own' b → own b) (hp : ∀ id p, π id = some p → (π' id = some p ∨ π' id = none) ∧ id < n) (hd : ∀ id, π id = none → id < n → π' id = none) (hn : n ≤ n')
    (hh : ∀ b i j, π.hid b = some (id, i, j) → π'.hid b = some (id, i, j)) {p : Place} {o : AObj} (h : ObjAt w own π n id p o) : ObjAt w own' π' n' id p o := by
  cases o with
  | box row =>
    obtain ⟨b, cur, e, h1, h2, h3, h4⟩ := h
    exact ⟨b, cur, e, h1, h2, h3, fun j x u hx hu => (h4 j x u hx hu).less ho hp hd hn⟩
  | arr s rows => exact ArrAt.less ho h
  | nst s rows => exact ⟨NstAt.less ho hp hd hn hh h.1, h.2⟩
  | arx s rows => exact NstAt.less ho hp hd hn hh h
  | map st es => exact h
  | itr st cur left =>
    obtain ⟨b, g, ents, clock, seen, h1, h2, h3, h4⟩ := h
    exact ⟨b, g, ents, clock, seen, h1, h2, fun hg => h3 (ho g hg), h4⟩
section
variable {P : Program} {w0 : World} {pass own0 : Nat → Prop} {π : Pl} {e : Env} {h : Heap} {n : Nat} {a : Act} {w : World} {σ : List (Option Nat)} {os : List (Option AObj)}
theorem nodup_get : ∀ (σ : List (Option Nat)), nodupB σ = true → ∀ (i j k : Nat), σ[i]? = some (some k) → σ[j]? = some (some k) → i = j
  | [], _, i, j, k, h, _ => by simp at h
  | none :: r, hn, i, j, k, h1, h2 => by
    cases i with
    | zero => simp at h1
    | succ i => cases j with
      | zero => simp at h2
      | succ j => rw [nodup_get r (by simpa [nodupB] using hn) i j k (by simpa using h1) (by simpa using h2)]
  | some m :: r, hn, i, j, k, h1, h2 => by
    simp only [nodupB, Bool.and_eq_true, Bool.not_eq_true'] at hn
    have hm : some m ∉ r := by simpa using hn.1
    cases i with
    | zero =>
      simp at h1; subst h1
      cases j with
      | zero => rfl
      | succ j => exact absurd (List.mem_of_getElem? (by simpa using h2)) hm
    | succ i => cases j with
      | zero =>
        simp at h2; subst h2
        exact absurd (List.mem_of_getElem? (by simpa using h1)) hm
      | succ j => rw [nodup_get r hn.2 i j k (by simpa using h1) (by simpa using h2)]
theorem covOs_get : ∀ (s : List (Option Nat)) (os : List (Option AObj)), covOs σ h s os → s.length = os.length ∧ ∀ (j : Nat) o', os[j]? = some (some o') → (s[j]? = some none ∧ ∃ z, o' = .arr z [] ∨ o' = .nst z []) ∨
    (∃ i, s[j]? = some (some i) ∧ match h i, o' with
      | some (.box row), .box row' => covL σ h row row'
      | some (.arr z rows), .arr z' rows' => z = z' ∧ rows = rows'
      | some (.nst z rows), .nst z' rows' => z = z' ∧ rows = rows'
      | some (.arx z rows), .arx z' rows' => z = z' ∧ rows.length = rows'.length ∧ ∀ (i : Nat) r r', rows[i]? = some r → rows'[i]? = some r' → covL σ h r r'
      | some (.map st es), .map st' es' => st = st' ∧ es = es'
      | some (.itr st cur left), .itr st' cur' left' => st = st' ∧ cur = cur' ∧ left = left'
      | _, _ => False)
  | [], [], _ => by simp
  | none :: s, none :: os, hc => by
    simp only [covOs] at hc
    obtain ⟨h1, h2⟩ := covOs_get s os hc
    refine ⟨by simp [h1], fun j o' hj => ?_⟩
    cases j with
    | zero => simp at hj
    | succ j => simpa using h2 j o' (by simpa using hj)
  | none :: s, some (.arr z rows) :: os, hc => by
    simp only [covOs] at hc
    obtain ⟨h1, h2⟩ := covOs_get s os hc.2
    refine ⟨by simp [h1], fun j o' hj => ?_⟩
    cases j with
    | zero => simp at hj; subst hj; exact .inl ⟨rfl, z, .inl (by rw [hc.1])⟩
    | succ j => simpa using h2 j o' (by simpa using hj)
  | none :: s, some (.nst z rows) :: os, hc => by
    simp only [covOs] at hc
    obtain ⟨h1, h2⟩ := covOs_get s os hc.2
    refine ⟨by simp [h1], fun j o' hj => ?_⟩
    cases j with
    | zero => simp at hj; subst hj; exact .inl ⟨rfl, z, .inr (by rw [hc.1])⟩
    | succ j => simpa using h2 j o' (by simpa using hj)
  | some i :: s, some o :: os, hc => by
    simp only [covOs] at hc
    obtain ⟨h1, h2⟩ := covOs_get s os hc.2
    refine ⟨by simp [h1], fun j o' hj => ?_⟩
    cases j with
    | zero => simp at hj; subst hj; exact .inr ⟨i, rfl, hc.1⟩
    | succ j => simpa using h2 j o' (by simpa using hj)
  | [], _ :: _, hc => by simp [covOs] at hc
  | none :: _, [], hc => by simp [covOs] at hc
  | some _ :: _, [], hc => by simp [covOs] at hc
  | none :: _, some (.arx _ _) :: _, hc => by simp [covOs] at hc
  | none :: _, some (.box _) :: _, hc => by simp [covOs] at hc
  | none :: _, some (.map _ _) :: _, hc => by simp [covOs] at hc
  | none :: _, some (.itr _ _ _) :: _, hc => by simp [covOs] at hc
  | some _ :: _, none :: _, hc => by simp [covOs] at hc
theorem covOs_none : ∀ (s : List (Option Nat)) (os : List (Option AObj)), covOs σ h s os → ∀ (j : Nat), os[j]? = some none → ∀ i, s[j]? ≠ some (some i)
  | [], [], _, j, hj => by simp at hj
  | none :: s, none :: os, hc, j, hj => by
    intro i
    cases j with
    | zero => simp
    | succ j => simpa using covOs_none s os (by simpa only [covOs] using hc) j (by simpa using hj) i
  | none :: s, some (.arr z rows) :: os, hc, j, hj => by
    intro i
    simp only [covOs] at hc
    cases j with
    | zero => simp
    | succ j => simpa using covOs_none s os hc.2 j (by simpa using hj) i
  | none :: s, some (.nst z rows) :: os, hc, j, hj => by
    intro i
    simp only [covOs] at hc
    cases j with
    | zero => simp
    | succ j => simpa using covOs_none s os hc.2 j (by simpa using hj) i
  | some k :: s, some o :: os, hc, j, hj => by
    intro i
    simp only [covOs] at hc
    cases j with
    | zero => simp at hj
    | succ j => simpa using covOs_none s os hc.2 j (by simpa using hj) i
  | [], _ :: _, hc, _, _ => by simp [covOs] at hc
  | none :: _, [], hc, _, _ => by simp [covOs] at hc
  | some _ :: _, [], hc, _, _ => by simp [covOs] at hc
  | none :: _, some (.arx _ _) :: _, hc, _, _ => by simp [covOs] at hc
  | none :: _, some (.box _) :: _, hc, _, _ => by simp [covOs] at hc
  | none :: _, some (.map _ _) :: _, hc, _, _ => by simp [covOs] at hc
  | none :: _, some (.itr _ _ _) :: _, hc, _, _ => by simp [covOs] at hc
  | some _ :: _, none :: _, hc, _, _ => by simp [covOs] at hc
theorem covL_get : ∀ (xs ys : List AV), covL σ h xs ys → xs.length = ys.length ∧ ∀ (i : Nat) x y, xs[i]? = some x → ys[i]? = some y → covV σ h x y
  | [], [], _ => by simp
  | x :: xs, y :: ys, hc => by
    simp only [covL] at hc
    obtain ⟨h1, h2⟩ := covL_get xs ys hc.2
    refine ⟨by simp [h1], fun i x' y' hx hy => ?_⟩
    cases i with
    | zero => simp at hx hy; subst hx; subst hy; exact hc.1
    | succ i => exact h2 i x' y' (by simpa using hx) (by simpa using hy)
  | [], _ :: _, hc => by simp [covL] at hc
  | _ :: _, [], hc => by simp [covL] at hc
structure CovS (σ : List (Option Nat)) (h : Heap) (os : List (Option AObj)) : Prop where
  nd : nodupB σ = true
  obs : covOs σ h σ os
theorem covPl_some (hc : CovS σ h os) {j : Nat} {p : Place} (hp : covPl σ os π j = some p) : (∃ i, σ[j]? = some (some i) ∧ π i = some p) ∨ (σ[j]? = some none ∧ ∃ z, (os[j]? = some (some (.arr z [])) ∨ os[j]? = some (some (.nst z []))) ∧ p = ⟨none, z, 0⟩) := by
  rw [covPl_at] at hp
  split at hp
  · rename_i i hi; exact .inl ⟨i, hi, hp⟩
  · rename_i hi
    split at hp
    · rename_i z rows ho
      cases hp
      obtain ⟨_, h2⟩ := covOs_get _ _ hc.obs
      rcases h2 j _ ho with ⟨_, z', hz | hz⟩ | ⟨i, h3, _⟩
      · cases hz; exact .inr ⟨hi, z, .inl ho, rfl⟩
      · cases hz
      · rw [hi] at h3; cases h3
    · rename_i z rows ho
      cases hp
      obtain ⟨_, h2⟩ := covOs_get _ _ hc.obs
      rcases h2 j _ ho with ⟨_, z', hz | hz⟩ | ⟨i, h3, _⟩
      · cases hz
      · cases hz; exact .inr ⟨hi, z, .inr ho, rfl⟩
      · rw [hi] at h3; cases h3
    · cases hp
  · cases hp
theorem covPl_own (hc : CovS σ h os) {b : Nat} (hb : ownOf own0 (covPl σ os π) b) : ownOf own0 π b := by
  rcases hb with (hb | hb) | ⟨j, p, h1, h2⟩
  · exact .inl (.inl hb)
  · obtain ⟨k, hk⟩ := Option.isSome_iff_exists.1 hb
    obtain ⟨k0, hk0, _⟩ := covPl_hid hk
    exact .inl (.inr (by rw [hk0]; rfl))
  · rcases covPl_some hc h1 with ⟨i, _, h3⟩ | ⟨_, z, _, rfl⟩
    · exact .inr ⟨i, p, h3, h2⟩
    · cases h2
def restPl (σ : List (Option Nat)) (π : Pl) : Pl where
  at' id := if some id ∈ σ then none else π id
  hid b := match π.hid b with
    | some k => if some k.1 ∈ σ then none else some k
    | none => none
theorem restPl_at (σ : List (Option Nat)) (π : Pl) (id : Nat) : restPl σ π id = if some id ∈ σ then none else π id := rfl
theorem restPl_hid {σ : List (Option Nat)} {π : Pl} {b : Nat} {k : Nat × Nat × Nat} (h : (restPl σ π).hid b = some k) : π.hid b = some k ∧ some k.1 ∉ σ := by
  have h : (match π.hid b with | some k => if some k.1 ∈ σ then none else some k | none => none) = some k := h
  split at h
  · rename_i k' hk'
    split at h
    · cases h
    · rename_i hn; cases h; exact ⟨hk', hn⟩
  · cases h
theorem restPl_hid_mk {σ : List (Option Nat)} {π : Pl} {b : Nat} {k : Nat × Nat × Nat} (h : π.hid b = some k) (hn : some k.1 ∉ σ) : (restPl σ π).hid b = some k := by
  show (match π.hid b with | some k => if some k.1 ∈ σ then none else some k | none => none) = some k
  rw [h]
  dsimp only
  rw [if_neg hn]
theorem rest_own (hc : CovS σ h os) : ∀ b, ownOf (ownOf own0 (covPl σ os π)) (restPl σ π) b → ownOf own0 π b := by
  rintro b ((hb | hb) | ⟨id, p, h1, h2⟩)
  · exact covPl_own hc hb
  · obtain ⟨k, hk⟩ := Option.isSome_iff_exists.1 hb
    exact .inl (.inr (by rw [(restPl_hid hk).1]; rfl))
  · rw [restPl_at] at h1
    split at h1
    · cases h1
    · exact .inr ⟨id, p, h1, h2⟩
theorem hs_rest (s : HSim own0 π h n w) (hc : CovS σ h os) : HSim (ownOf own0 (covPl σ os π)) (restPl σ π) (h.rest σ) n w := by
  have ho := rest_own (own0 := own0) (π := π) hc
  refine ⟨fun id hid => ?_, fun id o hid => ?_, fun id id' p p' b h1 h2 => ?_, fun id p b h1 h2 => ?_, fun b hb => ?_, fun b k hb => ?_⟩
  · simp only [Heap.rest] at hid; rw [restPl_at]
    split
    · rfl
    · rename_i hni; rw [if_neg hni] at hid; exact s.dom id hid
  · simp only [Heap.rest] at hid
    split at hid
    · cases hid
    · rename_i hni
      obtain ⟨g1, p, g2, g3⟩ := s.obj id o hid
      refine ⟨g1, p, by rw [restPl_at, if_neg hni]; exact g2, g3.less ho (fun id' p' hp' => ?_) (fun id' hp' _ => ?_) (Nat.le_refl _) (fun b i j hb => restPl_hid_mk hb hni)⟩
      · rw [restPl_at]
        refine ⟨?_, (s.lt hp').1⟩
        split
        · exact .inr rfl
        · exact .inl hp'
      · rw [restPl_at]; split
        · rfl
        · exact hp'
  · rw [restPl_at] at h1 h2
    split at h1
    · cases h1
    · split at h2
      · cases h2
      · exact s.inj id id' p p' b h1 h2
  · rw [restPl_at] at h1
    split at h1
    · cases h1
    · rename_i hni
      rintro ((hb | hb) | ⟨j, p', h3, h4⟩)
      · exact s.sep id p b h1 h2 hb
      · obtain ⟨k, hk⟩ := Option.isSome_iff_exists.1 hb
        obtain ⟨k0, hk0, _⟩ := covPl_hid hk
        exact (s.hid b k0 hk0).2.2.2 id p h1 h2
      · rcases covPl_some hc h3 with ⟨i, h5, h6⟩ | ⟨_, z, _, rfl⟩
        · have := s.inj id i p p' b h1 h6 h2 h4
          subst this
          exact hni (List.mem_of_getElem? h5)
        · cases h4
  · exact own_lt s (covPl_own hc hb)
  · obtain ⟨hk, hn⟩ := restPl_hid hb
    obtain ⟨g1, g2, g3, g4⟩ := s.hid b k hk
    refine ⟨?_, g2, g3, fun id p hp hpb => ?_⟩
    · rintro ((h1 | h1) | ⟨j, p', h3, h4⟩)
      · exact g1 h1
      · obtain ⟨k', hk'⟩ := Option.isSome_iff_exists.1 h1
        obtain ⟨k0, hk0, hs0, _⟩ := covPl_hid hk'
        rw [hk] at hk0; cases hk0
        exact hn (List.mem_of_getElem? (sinv_get hs0))
      · rcases covPl_some hc h3 with ⟨i, h5, h6⟩ | ⟨_, z, _, rfl⟩
        · exact g4 i p' h6 h4
        · cases h4
    · rw [restPl_at] at hp
      split at hp
      · cases hp
      · exact g4 id p hp hpb
theorem rel_cov_simple (s : HSim own0 π h n w) (hc : CovS σ h os) {x y : AV} {v : Value} (hr : Rel w (ownOf own0 π) π n x v) (hy : x.snap (h.rest σ) = y) : Rel w (ownOf own0 (covPl σ os π)) (covPl σ os π) os.length y v := by
  subst hy
  have s2 := hs_rest s hc
  have hr2 : Rel w (ownOf (ownOf own0 (covPl σ os π)) (restPl σ π)) (restPl σ π) n x v := by
    refine hr.less (rest_own hc) (fun id p hp => ?_) (fun id hp _ => ?_) (Nat.le_refl _)
    · rw [restPl_at]
      refine ⟨?_, (s.lt hp).1⟩
      split
      · exact .inr rfl
      · exact .inl hp
    · rw [restPl_at]; split
      · rfl
      · exact hp
  exact (rel_snap s2 hr2).ofNo (fun b hb => hb)
theorem rel_cov_same (s : HSim own0 π h n w) (hc : CovS σ h os) {x : AV} {v : Value} (hr : Rel w (ownOf own0 π) π n x v) (hf : x.freeT = true) : Rel w (ownOf own0 (covPl σ os π)) (covPl σ os π) os.length x v :=
  hr.free (fun b _ hb => ⟨rfl, fun g => hb (covPl_own hc g)⟩) (Nat.le_refl _) hf
mutual
theorem rel_cov (s : HSim own0 π h n w) (hc : CovS σ h os) : ∀ (y x : AV) (v : Value), covV σ h x y → Rel w (ownOf own0 π) π n x v → Rel w (ownOf own0 (covPl σ os π)) (covPl σ os π) os.length y v
  | .top, x, v, _, _ => .top v
  | .ref j off len, x, v, hcv, hr => by
    simp only [covV] at hcv
    obtain ⟨hl, hob⟩ := covOs_get _ _ hc.obs
    split at hcv
    · rename_i i hi
      subst hcv
      have hjl : j < os.length := by rw [← hl]; exact (List.getElem?_eq_some_iff.1 hi).1
      have hpi : covPl σ os π j = π i := by simp [covPl, hi]
      cases hr with
      | refLive _ _ _ b cap p hp hb h1 h2 => exact .refLive _ _ _ b cap p (hpi.trans hp) hb h1 h2
      | refEnd _ _ o b p hp hb => exact .refEnd _ _ o b p (hpi.trans hp) hb
      | refNil _ a p hp hb => exact .refNil _ a p (hpi.trans hp) hb
      | refDead _ _ _ _ _ hp _ => exact .refDead _ _ _ _ _ (hpi.trans hp) hjl
    · rename_i hi
      obtain ⟨rfl, rfl, rfl⟩ := hcv
      cases hr
      have hjl : j < os.length := by rw [← hl]; exact (List.getElem?_eq_some_iff.1 hi).1
      cases hoj : os[j] with
      | none => exact .refDead j 0 0 _ _ (by simp [covPl, hi, List.getElem?_eq_getElem hjl, hoj]) hjl
      | some o =>
        rcases hob j o (by rw [List.getElem?_eq_getElem hjl, hoj]) with ⟨_, z, hz | hz⟩ | ⟨i, h3, _⟩
        · exact .refNil j _ ⟨none, z, 0⟩ (by simp [covPl, hi, List.getElem?_eq_getElem hjl, hoj, hz]) rfl
        · exact .refNil j _ ⟨none, z, 0⟩ (by simp [covPl, hi, List.getElem?_eq_getElem hjl, hoj, hz]) rfl
        · rw [hi] at h3; cases h3
    · exact hcv.elim
  | .ptr j i off, x, v, hcv, hr => by
    simp only [covV] at hcv
    obtain ⟨hl, hob⟩ := covOs_get _ _ hc.obs
    split at hcv
    · rename_i k hk
      subst hcv
      have hjl : j < os.length := by rw [← hl]; exact (List.getElem?_eq_some_iff.1 hk).1
      have hpi : covPl σ os π j = π k := by simp [covPl, hk]
      cases hr with
      | ptrLive _ _ _ b p hp hb => exact .ptrLive _ _ _ b p (hpi.trans hp) hb
      | ptrDead _ _ _ _ hp _ => exact .ptrDead _ _ _ _ (hpi.trans hp) hjl
    · exact hcv.elim
  | .mp j, x, v, hcv, hr => by
    simp only [covV] at hcv
    obtain ⟨hl, hob⟩ := covOs_get _ _ hc.obs
    split at hcv
    · rename_i k hk
      subst hcv
      have hjl : j < os.length := by rw [← hl]; exact (List.getElem?_eq_some_iff.1 hk).1
      have hpi : covPl σ os π j = π k := by simp [covPl, hk]
      cases hr with
      | mpLive _ b p hp hb => exact .mpLive _ b p (hpi.trans hp) hb
      | mpDead _ _ hp _ => exact .mpDead _ _ (hpi.trans hp) hjl
    · exact hcv.elim
  | .agg ys, x, v, hcv, hr => by
    cases x <;> simp only [covV] at hcv
    rename_i xs
    cases hr with
    | agg _ cs hl hh =>
      obtain ⟨g1, g2⟩ := rel_covs s hc ys xs cs.toList hcv (by simpa using hl) (fun i x u h1 h2 => hh i x u h1 (by simpa using h2))
      exact .agg ys cs (by simpa using g1) (fun i y u h1 h2 => g2 i y u h1 (by simpa using h2))
  | .tup ys, x, v, hcv, hr => by
    cases x <;> simp only [covV] at hcv
    rename_i xs
    cases hr with
    | tup _ cs hl hh =>
      obtain ⟨g1, g2⟩ := rel_covs s hc ys xs cs.toList hcv (by simpa using hl) (fun i x u h1 h2 => hh i x u h1 (by simpa using h2))
      exact .tup ys cs (by simpa using g1) (fun i y u h1 h2 => g2 i y u h1 (by simpa using h2))
  | .fn f ys, x, v, hcv, hr => by
    cases x <;> simp only [covV] at hcv
    obtain ⟨rfl, hcv⟩ := hcv
    rename_i xs
    cases hr with
    | fn _ _ cs hl hh =>
      obtain ⟨g1, g2⟩ := rel_covs s hc ys xs cs.toList hcv (by simpa using hl) (fun i x u h1 h2 => hh i x u h1 (by simpa using h2))
      exact .fn _ ys cs (by simpa using g1) (fun i y u h1 h2 => g2 i y u h1 (by simpa using h2))
  | .undef, x, v, hcv, hr => by
    simp only [covV] at hcv
    rcases hcv with rfl | h
    · cases hr; exact .undef
    · exact rel_cov_simple s hc hr h
  | .int k m, x, v, hcv, hr => by
    simp only [covV] at hcv
    rcases hcv with rfl | h
    · exact rel_cov_same s hc hr rfl
    · exact rel_cov_simple s hc hr h
  | .bool b, x, v, hcv, hr => by
    simp only [covV] at hcv
    rcases hcv with rfl | h
    · exact rel_cov_same s hc hr rfl
    · exact rel_cov_simple s hc hr h
  | .str b, x, v, hcv, hr => by
    simp only [covV] at hcv
    rcases hcv with rfl | h
    · exact rel_cov_same s hc hr rfl
    · exact rel_cov_simple s hc hr h
  | .snil, x, v, hcv, hr => by
    simp only [covV] at hcv
    rcases hcv with rfl | h
    · exact rel_cov_same s hc hr rfl
    · exact rel_cov_simple s hc hr h
  | .val rows, x, v, hcv, hr => by
    simp only [covV] at hcv
    rcases hcv with rfl | h
    · exact rel_cov_same s hc hr rfl
    · exact rel_cov_simple s hc hr h
  | .rptr row off, x, v, hcv, hr => by
    simp only [covV] at hcv
    rcases hcv with rfl | h
    · exact rel_cov_same s hc hr rfl
    · exact rel_cov_simple s hc hr h
  | .pnil, x, v, hcv, hr => by
    simp only [covV] at hcv
    rcases hcv with rfl | h
    · exact rel_cov_same s hc hr rfl
    · exact rel_cov_simple s hc hr h
  | .fnil, x, v, hcv, hr => by
    simp only [covV] at hcv
    rcases hcv with rfl | h
    · exact rel_cov_same s hc hr rfl
    · exact rel_cov_simple s hc hr h
  | .maybe _ _, x, v, hcv, hr => by
    simp [covV] at hcv
  | .own z rows, x, v, hcv, hr => by
    simp only [covV] at hcv
    subst hcv
    cases hr
  | .tmp rows, x, v, hcv, hr => by
    simp only [covV] at hcv
theorem rel_covs (s : HSim own0 π h n w) (hc : CovS σ h os) : ∀ (ys xs : List AV) (vs : List Value), covL σ h xs ys → vs.length = xs.length → (∀ (i : Nat) x u, xs[i]? = some x → vs[i]? = some u → Rel w (ownOf own0 π) π n x u) →
    vs.length = ys.length ∧ ∀ (i : Nat) y u, ys[i]? = some y → vs[i]? = some u → Rel w (ownOf own0 (covPl σ os π)) (covPl σ os π) os.length y u
  | [], [], vs, _, hl, _ => ⟨by simpa using hl, by simp⟩
  | y :: ys, x :: xs, [], _, hl, _ => by simp at hl
  | y :: ys, x :: xs, v :: vs, hcv, hl, hh => by
    simp only [covL] at hcv
    obtain ⟨g1, g2⟩ := rel_covs s hc ys xs vs hcv.2 (by simpa using hl) (fun i x u h1 h2 => hh (i + 1) x u (by simpa using h1) (by simpa using h2))
    refine ⟨by simp [g1], fun i y' u h1 h2 => ?_⟩
    cases i with
    | zero =>
      simp at h1 h2
      subst h1; subst h2
      exact rel_cov s hc y x v hcv.1 (hh 0 x v rfl rfl)
    | succ i => exact g2 i y' u (by simpa using h1) (by simpa using h2)
  | [], _ :: _, _, hcv, _, _ => by simp [covL] at hcv
  | _ :: _, [], _, hcv, _, _ => by simp [covL] at hcv
end
theorem nst_cov_same (s : HSim own0 π h n w) (hc : CovS σ h os) {i j : Nat} (hj : σ[j]? = some (some i)) (hinv : sinv σ i = some j) {p : Place} {z : Nat} {rows rows' : List (List AV)} (hl : rows.length = rows'.length)
    (hrow : ∀ (a : Nat) r r', rows[a]? = some r → rows'[a]? = some r' → r.length = r'.length ∧ ∀ (b : Nat) x y u, r[b]? = some x → r'[b]? = some y → CellAt w (ownOf own0 π) π n i a b x u → CellAt w (ownOf own0 (covPl σ os π)) (covPl σ os π) os.length j a b y u)
    (g : NstAt w (ownOf own0 π) π n i p z rows) : NstAt w (ownOf own0 (covPl σ os π)) (covPl σ os π) os.length j p z rows' := by
  obtain ⟨k1, k2, k3⟩ := g
  have get : ∀ (a : Nat) r', rows'[a]? = some r' → ∃ r, rows[a]? = some r := fun a r' hr => ⟨rows[a]'(by have := (List.getElem?_eq_some_iff.1 hr).1; omega), List.getElem?_eq_getElem _⟩
  refine ⟨k1, fun a r' hr => ?_, ?_⟩
  · obtain ⟨r, hr0⟩ := get a r' hr
    rw [← (hrow a r r' hr0 hr).1]; exact k2 a r hr0
  cases hb : p.blk with
  | none =>
    simp only [hb] at k3
    subst k3
    exact List.eq_nil_of_length_eq_zero (by simpa using hl.symm)
  | some b =>
    simp only [hb] at k3 ⊢
    obtain ⟨cur, e', c1, c2, c3, c4, c5⟩ := k3
    refine ⟨cur, e', c1, c2, by omega, c4, fun a b' r' y u a1 a2 a3 => ?_⟩
    obtain ⟨r, hr0⟩ := get a r' a1
    obtain ⟨m1, m2⟩ := hrow a r r' hr0 a1
    have hb' : b' < r.length := by rw [m1]; exact (List.getElem?_eq_some_iff.1 a2).1
    exact m2 b' r[b'] y u (List.getElem?_eq_getElem hb') a2 (c5 a b' r _ u hr0 (List.getElem?_eq_getElem hb') a3)
theorem cell_cov_own (hc : CovS σ h os) {i j a b z : Nat} {rs : List (List AV)} {u : Value} (hinv : sinv σ i = some j) (g : CellAt w (ownOf own0 π) π n i a b (.own z rs) u) : CellAt w (ownOf own0 (covPl σ os π)) (covPl σ os π) os.length j a b (.own z rs) u :=
  OwnAt.less (fun b hb => covPl_own hc hb) (fun b hb => covPl_hid_mk hb hinv) g
theorem hs_cov (s : HSim own0 π h n w) (hc : CovS σ h os) : HSim own0 (covPl σ os π) (objsO os) os.length w := by
  obtain ⟨hl, hob⟩ := covOs_get _ _ hc.obs
  refine ⟨fun j hj => ?_, fun j o' hj => ?_, fun j j' p p' b h1 h2 h3 h4 => ?_, fun j p b h1 h2 => ?_, s.old, fun b k hb => ?_⟩
  · cases hp : covPl σ os π j with
    | none => rfl
    | some p =>
      exfalso
      rcases covPl_some hc hp with ⟨i, h1, h2⟩ | ⟨h1, z, h2, _⟩
      · have hlt := (List.getElem?_eq_some_iff.1 h1).1
        have : os[j]? = some none := by
          rw [List.getElem?_eq_getElem (by omega)]
          simp only [objsO, List.getElem?_eq_getElem (show j < os.length by omega), Option.join_some] at hj
          rw [hj]
        exact covOs_none _ _ hc.obs j this i h1
      · rcases h2 with h2 | h2 <;> simp [objsO, h2] at hj
  · have hj' : os[j]? = some (some o') := by
      simp only [objsO, Option.join_eq_some_iff] at hj
      exact hj
    have hjl := (List.getElem?_eq_some_iff.1 hj').1
    refine ⟨hjl, ?_⟩
    rcases hob j o' hj' with ⟨h1, z, rfl | rfl⟩ | ⟨i, h1, h2⟩
    · exact ⟨⟨none, z, 0⟩, by rw [covPl_at]; simp [h1, hj'], rfl, by simp, rfl⟩
    · exact ⟨⟨none, z, 0⟩, by rw [covPl_at]; simp [h1, hj'], ⟨rfl, by simp, rfl⟩, by simp⟩
    · have hinv : sinv σ i = some j := by
        obtain ⟨j', hj2⟩ := sinv_mem (List.mem_of_getElem? h1)
        have := nodup_get σ hc.nd j' j i (sinv_get hj2) h1
        subst this; exact hj2
      cases hhi : h i with
      | none => rw [hhi] at h2; exact h2.elim
      | some o =>
        obtain ⟨g1, p, g2, g3⟩ := s.obj i o hhi
        refine ⟨p, by rw [covPl_at, h1]; exact g2, ?_⟩
        rw [hhi] at h2
        cases o with
        | box row =>
          cases o' with
          | arr => exact h2.elim
          | nst => exact h2.elim
          | arx => exact h2.elim
          | map => exact h2.elim
          | itr => exact h2.elim
          | box row' =>
            obtain ⟨b, cur, e', k1, k2, k3, k4⟩ := g3
            obtain ⟨m1, m2⟩ := rel_covs (n := n) s hc row' row cur.toList h2 (by simpa using k3) (fun i x u a1 a2 => k4 i x u a1 (by simpa using a2))
            exact ⟨b, cur, e', k1, k2, by simpa using m1, fun j x u a1 a2 => m2 j x u a1 (by simpa using a2)⟩
        | arr z rows =>
          cases o' with
          | box => exact h2.elim
          | nst => exact h2.elim
          | arx => exact h2.elim
          | map => exact h2.elim
          | itr => exact h2.elim
          | arr z' rows' =>
            obtain ⟨rfl, rfl⟩ := h2
            exact ArrAt.less (fun b hb => covPl_own hc hb) g3
        | nst z rows =>
          cases o' with
          | box => exact h2.elim
          | arr => exact h2.elim
          | arx => exact h2.elim
          | map => exact h2.elim
          | itr => exact h2.elim
          | nst z' rows' =>
            obtain ⟨rfl, rfl⟩ := h2
            refine ⟨nst_cov_same s hc h1 hinv rfl (fun a r r' hr hr' => ?_) g3.1, g3.2⟩
            rw [hr] at hr'; cases hr'
            refine ⟨rfl, fun b x y u hx hy hcell => ?_⟩
            rw [hx] at hy; cases hy
            have hseal := g3.2 a r hr x (List.mem_of_getElem? hx)
            by_cases hlo : x.lone = true
            · refine (cellAt_lone hlo).2 (rel_cov_same s hc ((cellAt_lone hlo).1 hcell) ?_)
              cases x <;> first | (exact freeT_of_free hseal) | (simp [AV.lone] at hlo)
            · cases x <;> simp [AV.lone] at hlo
              exact cell_cov_own hc hinv hcell
        | arx z rows =>
          cases o' with
          | box => exact h2.elim
          | arr => exact h2.elim
          | nst => exact h2.elim
          | map => exact h2.elim
          | itr => exact h2.elim
          | arx z' rows' =>
            obtain ⟨rfl, hll, hcells⟩ := h2
            refine nst_cov_same s hc h1 hinv hll (fun a r r' hr hr' => ?_) g3
            obtain ⟨m1, m2⟩ := covL_get r r' (hcells a r r' hr hr')
            refine ⟨m1, fun b x y u hx hy hcell => ?_⟩
            have hcv := m2 b x y hx hy
            by_cases hlo : x.lone = true
            · have hr := rel_cov s hc y x u hcv ((cellAt_lone hlo).1 hcell)
              refine (cellAt_lone ?_).2 hr
              cases y <;> first | rfl | cases hr
            · cases x <;> simp [AV.lone] at hlo
              rename_i q rs
              have hy : y = .top ∨ y = .own q rs := by
                cases y <;> simp only [covV] at hcv <;> first | (exact .inl rfl) | (exact .inr (by rw [hcv])) | skip
                all_goals first | (simp_all; done) | (rcases hcv with hcv | hcv <;> simp [AV.snap, AV.snap1] at hcv) | skip
                all_goals (split at hcv <;> simp at hcv)
              rcases hy with rfl | rfl
              · exact (cellAt_lone rfl).2 (.top u)
              · exact cell_cov_own hc hinv hcell
        | map st es =>
          cases o' <;> first | exact h2.elim | skip
          obtain ⟨rfl, rfl⟩ := h2
          exact g3
        | itr st cur left =>
          cases o' <;> first | exact h2.elim | skip
          obtain ⟨rfl, rfl, rfl⟩ := h2
          obtain ⟨b, g, ents, clock, seen, k1, k2, k3, k4⟩ := g3
          exact ⟨b, g, ents, clock, seen, k1, k2, fun hg => k3 (covPl_own hc hg), k4⟩
  · rcases covPl_some hc h1 with ⟨i, k1, k2⟩ | ⟨_, z, _, rfl⟩
    · rcases covPl_some hc h2 with ⟨i', m1, m2⟩ | ⟨_, z, _, rfl⟩
      · have := s.inj i i' p p' b k2 m2 h3 h4
        subst this
        exact nodup_get σ hc.nd j j' i k1 m1
      · cases h4
    · cases h3
  · rcases covPl_some hc h1 with ⟨i, k1, k2⟩ | ⟨_, z, _, rfl⟩
    · exact s.sep i p b k2 h2
    · cases h2
  · obtain ⟨k0, hk0, hs0, _⟩ := covPl_hid hb
    obtain ⟨g1, g2, g3, g4⟩ := s.hid b k0 hk0
    refine ⟨g1, g2, ?_, fun id p hp hpb => ?_⟩
    · rw [← hl]; exact (List.getElem?_eq_some_iff.1 (sinv_get hs0)).1
    · rcases covPl_some hc hp with ⟨i, k1, k2⟩ | ⟨_, z, _, rfl⟩
      · exact g4 i p k2 hpb
      · cases hpb
theorem fr_cov (f : Fr w0 pass π w) (hc : CovS σ h os) : Fr w0 pass (covPl σ os π) w := by
  refine ⟨f.os, f.tape, f.output, f.size, f.kept, fun j p b h1 h2 => ?_, fun b k hb => ?_⟩
  · rcases covPl_some hc h1 with ⟨i, k1, k2⟩ | ⟨_, z, _, rfl⟩
    · exact f.blk i p b k2 h2
    · cases h2
  · obtain ⟨k0, hk0, _⟩ := covPl_hid hb
    exact f.hid b k0 hk0
def ancB (σ : List (Option Nat)) (os : List (Option AObj)) (k : Nat) : Bool := decide (k ≤ σ.length) && (List.range k).all fun j => match (σ[j]? : Option (Option Nat)), os[j]? with
  | some (some i), _ => i == j
  | some none, some none => true
  | _, _ => false
theorem anc_cov {A : Anch} (hc : CovS σ h os) (hk : ancB σ os A.k = true) (hA : A.at π n) : A.at (covPl σ os π) os.length := by
  obtain ⟨hl, _⟩ := covOs_get _ _ hc.obs
  simp only [ancB, Bool.and_eq_true, decide_eq_true_eq, List.all_eq_true, List.mem_range] at hk
  refine ⟨by omega, fun id hid => ?_⟩
  have := hk.2 id hid
  split at this
  · rename_i i o hs
    simp at this; subst this
    rw [covPl_at, hs]
    exact hA.2 _ hid
  · rename_i hs ho
    exact .inr (by rw [covPl_at, hs, ho])
  · cases this
theorem St.cov {N : Nat} {A : Anch} (st : St w0 pass own0 A N e h n a w) (hc : CovS σ h os) (hk : ancB σ os A.k = true) {e' : Env} (he : ∀ t, covV σ h (e t) (e' t)) : St w0 pass own0 A N e' (objsO os) os.length a w := by
  obtain ⟨h1, h2, π, hA, s⟩ := st
  exact ⟨h1, h2, covPl σ os π, anc_cov hc hk hA, hs_cov s.hs hc, fr_cov s.fr hc, fun t => rel_cov s.hs hc (e' t) (e t) _ (he t) (s.env t)⟩
theorem Aw.cov {N k : Nat} {ic : ICode} {K : XK} (hc : CovS σ h os) (hk : ancB σ os k = true) {e' : Env} (he : ∀ t, covV σ h (e t) (e' t)) (hw : Aw P N k ic K e' (objsO os) os.length) : Aw P N k ic K e h n :=
  fun c hcc w0 pass own0 A hA a w st => hw c hcc w0 pass own0 A hA a w (st.cov hc (by rw [hA]; exact hk) he)
end
end Go.Proofs.Ytpfbkblgefddlaa.Av
namespace Go.Proofs.Ytpfbkblgefddlaa.Av
set_option linter.unusedSimpArgs false
set_option linter.unusedVariables false
open Go
inductive RRes where
  | t (t : Nat)
  | c1 (t : Nat)
  | cn (t s : Nat)
def cRes (P : Program) : ResultVar → Option RRes
  | .tmp t => some (.t t)
  | .cell a ty => match cAgg P ty, cSize P ty with
    | some true, some (s + 1) => some (.cn a (s + 1))
    | some false, some _ => some (.c1 a)
    | _, _ => none
def rowOfP (h : Heap) : AV → Option (List AV × Nat)
  | .ptr id i off => match h id with
    | some o => match o.plain with
      | true => (o.rowAt i).map fun r => (r, off)
      | false => none
    | none => none
  | .rptr row off => some (row, off)
  | _ => none
def resK (e : Env) (h : Heap) : List RRes → (List AV → Prop) → Prop
  | [], K => K []
  | .t t :: r, K => resK e h r fun vs => K (e t :: vs)
  | .c1 a :: r, K => match rowOfP h (e a) with
    | some (row, off) => (match row[off]? with
      | some c => resK e h r fun vs => K (c :: vs)
      | none => False)
    | none => False
  | .cn a s :: r, K => match rowOfP h (e a) with
    | some (row, off) => off + s ≤ row.length ∧ resK e h r fun vs => K (.agg (sub row off s) :: vs)
    | none => False
def tupOf : List AV → AV
  | [v] => v
  | vs => .tup vs
def envA (xs : List AV) : Env := fun t => xs.getD t .top
mutual
def AV.nov : AV → Bool
  | .val rows => rows.isEmpty
  | .rptr _ _ => false
  | .agg vs => AV.novs vs
  | .tup vs => AV.novs vs
  | .fn _ vs => AV.novs vs
  | .own _ rows => AV.novss rows
  | .tmp _ => false
  | _ => true
def AV.novs : List AV → Bool
  | [] => true
  | v :: r => v.nov && AV.novs r
def AV.novss : List (List AV) → Bool
  | [] => true
  | v :: r => AV.novs v && AV.novss r
end
def AObj.nov : AObj → Bool
  | .box row => AV.novs row
  | .arr _ rows => rows.all AV.novs
  | .nst _ rows => rows.all AV.novs
  | .arx _ rows => rows.all AV.novs
  | .map _ _ => true
  | .itr _ _ _ => false
theorem novss_get : ∀ (vs : List (List AV)), AV.novss vs = true → ∀ (i : Nat) x, vs[i]? = some x → AV.novs x = true
  | [], _, i, x, h => by simp at h
  | v :: r, hn, i, x, h => by
    simp only [AV.novss, Bool.and_eq_true] at hn
    cases i with
    | zero => simp at h; subst h; exact hn.1
    | succ i => exact novss_get r hn.2 i x (by simpa using h)
theorem novs_get : ∀ (vs : List AV), AV.novs vs = true → ∀ (i : Nat) x, vs[i]? = some x → x.nov = true
  | [], _, i, x, h => by simp at h
  | v :: r, hn, i, x, h => by
    simp only [AV.novs, Bool.and_eq_true] at hn
    cases i with
    | zero => simp at h; subst h; exact hn.1
    | succ i => exact novs_get r hn.2 i x (by simpa using h)
theorem Rel.nov {w : World} {own own' : Nat → Prop} {π : PlF} {n : Nat} {x : AV} {v : Value} (h : Rel w own π n x v) (hn : x.nov = true) : Rel w own' π n x v := by
  induction h with
  | top v => exact .top v
  | undef => exact .undef
  | int k n => exact .int k n
  | bool b => exact .bool b
  | str s => exact .str s
  | agg vs cs hl _ ih => exact .agg vs cs hl (fun i x u h1 h2 => ih i x u h1 h2 (novs_get vs (by simpa [AV.nov] using hn) i x h1))
  | tup vs cs hl _ ih => exact .tup vs cs hl (fun i x u h1 h2 => ih i x u h1 h2 (novs_get vs (by simpa [AV.nov] using hn) i x h1))
  | refLive id off len b cap p hpp hb h1 h2 => exact .refLive id off len b cap p hpp hb h1 h2
  | refEnd id off o b p hpp hb => exact .refEnd id off o b p hpp hb
  | refNil id a p hpp hb => exact .refNil id a p hpp hb
  | refDead id off len v cap hpp hlt => exact .refDead id off len v cap hpp hlt
  | snil a => exact .snil a
  | valNil a cap => exact .valNil a cap
  | val rows g off cap s us hg hgs hc hm hs hf hu _ ih =>
    have : rows = [] := by simpa [AV.nov] using hn
    subst this
    exact .valNil _ _
  | tmp => simp [AV.nov] at hn
  | ptrLive id i off b p hpp hb => exact .ptrLive id i off b p hpp hb
  | ptrDead id i off v hpp hlt => exact .ptrDead id i off v hpp hlt
  | rptr row off g o us hg hgs hf hu _ ih => simp [AV.nov] at hn
  | pnil => exact .pnil
  | fn f caps cs hl _ ih => exact .fn f caps cs hl (fun i x u h1 h2 => ih i x u h1 h2 (novs_get caps (by simpa [AV.nov] using hn) i x h1))
  | fnil => exact .fnil
  | maybe c d b h1 h2 => exact .maybe c d b h1 h2
  | mpLive id b p hpp hb => exact .mpLive id b p hpp hb
  | mpDead id b hpp hlt => exact .mpDead id b hpp hlt
theorem ArrAt.nov {w : World} {own own' : Nat → Prop} {π : PlF} {n : Nat} {p : Place} {s : Nat} {rows : List (List AV)} (h : ArrAt w own π n p s rows) (hn : ∀ (i : Nat) row, rows[i]? = some row → AV.novs row = true) : ArrAt w own' π n p s rows := by
  obtain ⟨h0, h1, h2⟩ := h
  refine ⟨h0, h1, ?_⟩
  cases hb : p.blk with
  | none => simpa [hb] using h2
  | some b =>
    simp only [hb] at h2
    obtain ⟨cur, e, g1, g2, g3, g4, g5⟩ := h2
    exact ⟨cur, e, g1, g2, g3, g4, fun i j row x u a1 a2 a3 => (g5 i j row x u a1 a2 a3).nov (novs_get row (hn i row a1) j x a2)⟩
theorem NstAt.nov {w : World} {own own' : Nat → Prop} {π : Pl} {n id : Nat} {p : Place} {s : Nat} {rows : List (List AV)} (h : NstAt w own π n id p s rows) (hn : ∀ (i : Nat) row, rows[i]? = some row → AV.novs row = true) : NstAt w own' π n id p s rows := by
  obtain ⟨h0, h1, h2⟩ := h
  refine ⟨h0, h1, ?_⟩
  cases hb : p.blk with
  | none => simpa [hb] using h2
  | some b =>
    simp only [hb] at h2
    obtain ⟨cur, e, g1, g2, g3, g4, g5⟩ := h2
    refine ⟨cur, e, g1, g2, g3, g4, fun i j row x u a1 a2 a3 => ?_⟩
    have hc := g5 i j row x u a1 a2 a3
    have hx := novs_get row (hn i row a1) j x a2
    by_cases hl : x.lone = true
    · exact (cellAt_lone hl).2 (((cellAt_lone hl).1 hc).nov hx)
    · cases x <;> simp [AV.lone] at hl
      rcases hc with hc | ⟨q, b', cap, k1, k2, k3, k4, k5, k6⟩
      · exact .inl hc
      · exact .inr ⟨q, b', cap, k1, k2, k3, k4, k5, k6.nov (fun i row hr => novss_get _ (by simpa [AV.nov] using hx) i row hr)⟩
theorem ObjAt.nov {w : World} {own own' : Nat → Prop} {π : Pl} {n id : Nat} {p : Place} {o : AObj} (h : ObjAt w own π n id p o) (hn : o.nov = true) : ObjAt w own' π n id p o := by
  have key : ∀ rows : List (List AV), rows.all AV.novs = true → ∀ (i : Nat) row, rows[i]? = some row → AV.novs row = true := fun rows h i row hr => (List.all_eq_true.1 h) row (List.mem_of_getElem? hr)
  cases o with
  | box row =>
    obtain ⟨b, cur, e, h1, h2, h3, h4⟩ := h
    exact ⟨b, cur, e, h1, h2, h3, fun j x u hx hu => (h4 j x u hx hu).nov (novs_get row hn j x hx)⟩
  | arr s rows => exact ArrAt.nov h (key rows hn)
  | nst s rows => exact ⟨NstAt.nov h.1 (key rows hn), h.2⟩
  | arx s rows => exact NstAt.nov h (key rows hn)
  | map st es => exact h
  | itr st cur left => cases hn
section
variable {P : Program} {w0 : World} {pass own0 : Nat → Prop} {π : Pl} {e : Env} {h : Heap} {n : Nat} {a : Act} {w : World}
theorem run_loadVar_of {t : TypeId} {ad : Addr} {u : Value} {w : World} (h : (Instr.loadAt t (.pointer (some ad))).run P w = .ok u w) : (do loadVar t (← asAddr (.pointer (some ad)))).run P w = .ok u w := by
  simpa [Instr.loadAt, Instr.sureAddr, asAddr] using h
theorem rowOfP_spec {h : Heap} {x : AV} {row : List AV} {off : Nat} (hw : rowOfP h x = some (row, off)) : rowOf h x = some (row, off) ∧ ∀ c, okRow h x c := by
  cases x <;> simp only [rowOfP] at hw <;> first | cases hw | skip
  · rename_i id i off'
    simp only [rowOf, okRow]
    split at hw
    · rename_i o ho
      split at hw
      · rename_i hp
        simp only [ho]
        exact ⟨hw, fun c => .inl hp⟩
      · cases hw
    · cases hw
  · exact ⟨rfl, fun c => trivial⟩
theorem val_ld1 (s : Sim w0 pass own0 π e h n a w) {t : TypeId} (ha : cAgg P t = some false) {x c : AV} {v : Value} (hr : Rel w (ownOf own0 π) π n x v) {row : List AV} {off : Nat} (hw : rowOfP h x = some (row, off))
    (hc : row[off]? = some c) : ∃ u, (do loadVar t (← asAddr v)).run P w = .ok u w ∧ Rel w (ownOf own0 π) π n c u := by
  obtain ⟨hw, hok⟩ := rowOfP_spec hw
  obtain ⟨ad, rfl, hsp, hcells⟩ := cells_of_ptr s.hs hr hw (List.getElem?_eq_some_iff.1 hc).1
  obtain ⟨u, h1, h2⟩ := hcells 0 c (by simpa using hc) (hok _)
  refine ⟨u, run_loadVar_of (run_ld1 ha (u := u) ?_), h2⟩
  rw [← h1]; cases ad; simp at hsp; subst hsp; rfl
theorem val_ldn (s : Sim w0 pass own0 π e h n a w) {t : TypeId} (ha : cAgg P t = some true) {z : Nat} (hz : cSize P t = some z) {x : AV} {v : Value} (hr : Rel w (ownOf own0 π) π n x v) {row : List AV} {off : Nat} (hw : rowOfP h x = some (row, off))
    (hc : off + z ≤ row.length) (hz0 : 0 < z) : ∃ u, (do loadVar t (← asAddr v)).run P w = .ok u w ∧ Rel w (ownOf own0 π) π n (.agg (sub row off z)) u := by
  obtain ⟨hw, hok⟩ := rowOfP_spec hw
  obtain ⟨ad, rfl, hsp, hcells⟩ := cells_of_ptr s.hs hr hw (by omega)
  have hex : ∀ j : Nat, ∃ u, j < z → w.cell? ⟨ad.block, ad.off + j, none⟩ = some u ∧ ∀ c, row[off + j]? = some c → Rel w (ownOf own0 π) π n c u := by
    intro j
    by_cases hj : j < z
    · obtain ⟨u, h1, h2⟩ := hcells j row[off + j] (List.getElem?_eq_getElem (by omega)) (hok _)
      exact ⟨u, fun _ => ⟨h1, fun c hc => by rw [List.getElem?_eq_getElem (by omega)] at hc; cases hc; exact h2⟩⟩
    · exact ⟨Go.undef, fun h => absurd h hj⟩
  obtain ⟨f, hf⟩ := Classical.axiomOfChoice hex
  have hcs : ∀ (j : Nat) u, ((List.range z).map f)[j]? = some u → j < z ∧ u = f j := by
    intro j u hj
    simp only [List.getElem?_map, Option.map_eq_some_iff] at hj
    obtain ⟨k, hk, rfl⟩ := hj
    obtain ⟨h1, h2⟩ := List.getElem?_eq_some_iff.1 hk
    simp at h1 h2; subst h2; exact ⟨h1, rfl⟩
  refine ⟨_, run_loadVar_of (run_ldn ha hz (cs := (List.range z).map f) (by simp) ?_), ?_⟩
  · intro j u hj
    obtain ⟨h1, rfl⟩ := hcs j u hj
    rw [add_eq ad hsp]
    exact (hf j h1).1
  · refine .agg _ _ (by simp [length_sub _ _ _ hc]) (fun j c u h1 h2 => ?_)
    obtain ⟨h3, rfl⟩ := hcs j u (by simpa using h2)
    rw [getElem?_sub, if_pos h3] at h1
    exact (hf j h3).2 c h1
def resSem (tmps : Array Value) : ResultVar → Sem Value
  | .tmp t => pure (tmps.getD t undef)
  | .cell a t => do loadVar t (← asAddr (tmps.getD a undef))
theorem rels_cons {own : Nat → Prop} {N : Nat} {x : AV} {v : Value} {xs : List AV} {vs : List Value} (h : Rel w own π N x v) (hs : Rels w own π N xs vs) : Rels w own π N (x :: xs) (v :: vs) := by
  refine ⟨by simp [hs.1], fun i y u h1 h2 => ?_⟩
  cases i with
  | zero => simp at h1 h2; subst h1; subst h2; exact h
  | succ i => exact hs.2 i y u (by simpa using h1) (by simpa using h2)
theorem res_sound (s : Sim w0 pass own0 π e h n a w) : ∀ (rvs : List ResultVar) (rs : List RRes) (K : List AV → Prop), rvs.map (cRes P) = rs.map some → resK e h rs K →
    ∃ vs us, (rvs.mapM (resSem a.tmps)).run P w = .ok us w ∧ Rels w (ownOf own0 π) π n vs us ∧ K vs
  | [], rs, K, hm, hk => by
    have : rs = [] := by cases rs <;> simp_all
    subst this
    exact ⟨[], [], by simp, ⟨rfl, by simp⟩, hk⟩
  | rv :: rvs, [], K, hm, _ => by simp at hm
  | rv :: rvs, r :: rs, K, hm, hk => by
    simp only [List.map_cons, List.cons.injEq] at hm
    obtain ⟨h1, h2⟩ := hm
    have fin : ∀ (c : AV) u, (resSem a.tmps rv).run P w = .ok u w → Rel w (ownOf own0 π) π n c u → resK e h rs (fun vs => K (c :: vs)) →
        ∃ vs us, ((rv :: rvs).mapM (resSem a.tmps)).run P w = .ok us w ∧ Rels w (ownOf own0 π) π n vs us ∧ K vs := by
      intro c u hu hr hk
      obtain ⟨vs, us, g1, g2, g3⟩ := res_sound s rvs rs _ h2 hk
      exact ⟨c :: vs, u :: us, by simp [List.mapM_cons, hu, g1], rels_cons hr g2, g3⟩
    cases rv with
    | tmp t =>
      simp only [cRes, Option.some.injEq] at h1
      subst h1
      exact fin _ _ (by simp [resSem]) (s.env t) hk
    | cell ad ty =>
      simp only [cRes] at h1
      split at h1
      · rename_i z hag hsz
        cases h1
        simp only [resK] at hk
        split at hk
        · rename_i row off hro
          obtain ⟨u, g1, g2⟩ := val_ldn s hag hsz (s.env ad) hro hk.1 (by omega)
          exact fin _ u g1 g2 hk.2
        · exact hk.elim
      · rename_i z hag hsz
        cases h1
        simp only [resK] at hk
        split at hk
        · rename_i row off hro
          split at hk
          · rename_i c hc
            obtain ⟨u, g1, g2⟩ := val_ld1 s hag (s.env ad) hro hc
            exact fin _ u g1 g2 hk
          · exact hk.elim
        · exact hk.elim
      · cases h1
theorem results_sound (s : Sim w0 pass own0 π e h n a w) {fn : Func} {rs : List RRes} (hm : fn.results.toList.map (cRes P) = rs.map some) {K : List AV → Prop} (hk : resK e h rs K) :
    ∃ vs v, (results fn a.tmps).run P w = .ok v w ∧ Rel w (ownOf own0 π) π n (tupOf vs) v ∧ K vs := by
  obtain ⟨vs, us, g1, g2, g3⟩ := res_sound s _ rs K hm hk
  refine ⟨vs, if h : us.toArray.size = 1 then us.toArray[0] else .tuple us.toArray, ?_, ?_, g3⟩
  · have e1 : results fn a.tmps = (do
        let vs ← fn.results.mapM (resSem a.tmps)
        pure (if h : vs.size = 1 then vs[0] else .tuple vs)) := by
      unfold results
      congr 2
    rw [e1, Array.mapM_eq_mapM_toList]
    simp [g1]
  · match vs, us, g2 with
    | [x], [u], g2 => simpa [tupOf] using g2.2 0 x u rfl rfl
    | [], [], g2 => simpa [tupOf] using Rel.tup [] #[] rfl (by simp)
    | x :: y :: r, u :: v :: q, g2 =>
      simp only [tupOf]
      rw [dif_neg (by simp)]
      exact .tup _ _ (by simpa using g2.1.symm) (fun i x u h1 h2 => g2.2 i x u h1 (by simpa using h2))
    | [], _ :: _, g2 => exact absurd g2.1 (by simp)
    | _ :: _, [], g2 => exact absurd g2.1 (by simp)
    | [_], _ :: _ :: _, g2 => exact absurd g2.1 (by simp)
    | _ :: _ :: _, [_], g2 => exact absurd g2.1 (by simp)
structure Body (P : Program) (f : Nat) (N : Nat) (ic : ICode) (rs : List RRes) : Prop where
  body : ∃ fn c, P.funcs[f]? = some fn ∧ fn.body = some c ∧ fn.ntmps = N ∧ comp P N c = some ic ∧ fn.results.toList.map (cRes P) = rs.map some ∧ fn.name ≠ "runtime.NumGoroutine"
theorem Body.has {f N : Nat} {ic : ICode} {rs : List RRes} (b : Body P f N ic rs) : HasBody P f := by
  obtain ⟨fn, c, h1, h2, _, _, _, h3⟩ := b.body
  exact ⟨fn, h1, by simp [h2], h3⟩
theorem body_mk {f N : Nat} {ic : ICode} {rs : List RRes} {fn : Func} (hf : P.funcs[f]? = some fn)
    (h : (fn.body.map fun c => (comp P fn.ntmps c, fn.ntmps, fn.results.toList.map (cRes P))) = some (some ic, N, rs.map some)) (hn : fn.name ≠ "runtime.NumGoroutine") : Body P f N ic rs := by
  obtain ⟨c, h1, h2⟩ := Option.map_eq_some_iff.1 h
  simp only [Prod.mk.injEq] at h2
  obtain ⟨h3, rfl, h5⟩ := h2
  exact ⟨fn, c, hf, h1, rfl, h3, h5, hn⟩
theorem envA_rel {own : Nat → Prop} {N : Nat} {xs : List AV} {vs : Array Value} (hr : Rels w own π N xs vs.toList) (m : Nat) (t : Nat) : Rel w own π N (envA xs t) ((vs ++ Array.replicate m undef).getD t Go.undef) := by
  simp only [envA, List.getD_eq_getElem?_getD]
  cases hx : xs[t]? with
  | none => exact .top _
  | some x =>
    have hlt := (List.getElem?_eq_some_iff.1 hx).1
    have hlv : t < vs.size := by have := hr.1; simp at this; omega
    have : (vs ++ Array.replicate m undef).getD t Go.undef = vs[t] := by
      simp [Array.getD_eq_getD_getElem?, Array.getElem?_append, hlv]
    rw [this]
    exact hr.2 t x _ hx (by simp [hlv])
theorem pure_of_aw {f N : Nat} {ic : ICode} {rs : List RRes} (b : Body P f N ic rs) {R : List AV → AV → List AObj → Prop}
    (H : ∀ xs r objs, R xs r objs → (∃ w own vs, Rels w own noPl 0 xs vs) → xs.length ≤ N ∧
      Aw P N 0 ic (fun x e h n => (x = .ret ∨ x = .normal) ∧ resK e h rs fun vs => ∃ σ, CovS σ h (objs.map some) ∧ covV σ h (tupOf vs) r ∧ r.nov = true ∧ objs.all AObj.nov = true) (envA xs) Heap.none 0) : PureSound P f R := by
  intro w own xs vs r objs hr hR
  obtain ⟨fn, c, hf, hb, rfl, hc, hres, _⟩ := b.body
  obtain ⟨hlen, haw⟩ := H xs r objs hR ⟨w, own, _, hr⟩
  have hvs : vs.size ≤ fn.ntmps := by have := hr.1; simp at this; omega
  let own1 : Nat → Prop := fun b => own b ∧ b < w.heap.size
  have st : St w (fun _ => False) own1 ⟨0, noPl⟩ fn.ntmps (envA xs) Heap.none 0 { tmps := vs ++ Array.replicate (fn.ntmps - vs.size) undef, defers := [] } w := by
    refine ⟨rfl, by simp; omega, noPl, ⟨Nat.le_refl _, fun id hid => by simp at hid⟩, ⟨⟨fun _ _ => rfl, fun id o ho => by simp [Heap.none] at ho, fun _ _ _ _ _ h => by simp [noPl] at h, fun _ _ _ h => by simp [noPl] at h, fun b hb => hb.2, fun _ _ h => by simp [noPl] at h⟩,
      ⟨rfl, rfl, rfl, Nat.le_refl _, fun _ _ _ => rfl, fun _ _ _ h => by simp [noPl] at h, fun _ _ h => by simp [noPl] at h⟩, fun t => ?_⟩⟩
    refine envA_rel (w := w) (π := noPl) ⟨hr.1, fun i x v h1 h2 => (hr.2 i x v h1 h2).ofNo ?_⟩ _ t
    rintro b ((hb | hb) | ⟨_, _, h, _⟩)
    · exact hb.1
    · simp [noPl] at hb
    · simp [noPl] at h
  have hwp := haw c hc w (fun _ => False) own1 ⟨0, noPl⟩ rfl _ w st
  refine calls_of_wp hf hb (wp_mono hwp ?_)
  rintro x a' w' ⟨e', h', n', ⟨hx, hk⟩, hdef, _, π', _, s⟩
  obtain ⟨ws, v, g1, g2, σ, hcov, hcv, hn1, hn2⟩ := results_sound s hres hk
  have hs := hs_cov s.hs hcov
  have hf := fr_cov s.fr hcov
  have hrel := rel_cov s.hs hcov r _ v hcv g2
  have hO : objsO (objs.map some) = objsH objs := by
    funext j
    simp only [objsO, objsH, List.getElem?_map]
    cases objs[j]? <;> rfl
  have hnew : ∀ id p b, covPl σ (objs.map some) π' id = some p → p.blk = some b → w.heap.size ≤ b := fun id p b h1 h2 => (hf.blk id p b h1 h2).resolve_right (fun h => h)
  have fin : a'.defers = [] ∧ ∃ v, (results fn a'.tmps).run P w' = .ok v w' ∧ ∃ v1 π1, Ending.returned v = .returned v1 ∧ Ext w w' (fun _ => False) ∧ HSim (· < w.heap.size) π1 (objsH objs) objs.length w' ∧ Rel w' (ownOf (· < w.heap.size) π1) π1 objs.length r v1 := by
    refine ⟨hdef, v, g1, v, covPl σ (objs.map some) π', rfl, ⟨s.fr.os, s.fr.tape, s.fr.output, s.fr.size, s.fr.kept⟩, ?_, ?_⟩
    · rw [hO, List.length_map] at hs
      refine ⟨hs.dom, fun id o ho => ?_, hs.inj, fun id p b h1 h2 hlt => ?_, fun b hb => Nat.lt_of_lt_of_le hb s.fr.size, fun b k hb => ?_⟩
      · obtain ⟨k1, p, k2, k3⟩ := hs.obj id o ho
        exact ⟨k1, p, k2, k3.nov ((List.all_eq_true.1 hn2) o (List.mem_of_getElem? ho))⟩
      · have := hnew id p b h1 h2; omega
      · obtain ⟨g1, g2, g3, g4⟩ := hs.hid b k hb
        exact ⟨fun hlt => by have := (hf.hid b k hb).resolve_right (fun h => h); omega, g2, g3, g4⟩
    · rw [List.length_map] at hrel
      exact hrel.nov hn1
  rcases hx with rfl | rfl <;> exact fin
theorem loose_of_aw {f N : Nat} {ic : ICode} {rs : List RRes} (b : Body P f N ic rs) {R : List AV → AV → List AObj → Prop}
    (H : ∀ xs r objs, R xs r objs → (∃ w own vs, Rels w own noPl 0 xs vs) → xs.length ≤ N ∧
      Aw P N 0 ic (fun x e h n => (x = .ret ∨ x = .normal) ∧ resK e h rs fun vs => ∃ σ, CovS σ h (objs.map some) ∧ covV σ h (tupOf vs) r) (envA xs) Heap.none 0) : LooseSound P f R := by
  intro w own xs vs r objs hown hr hR
  obtain ⟨fn, c, hf, hb, rfl, hc, hres, _⟩ := b.body
  obtain ⟨hlen, haw⟩ := H xs r objs hR ⟨w, own, _, hr⟩
  have hvs : vs.size ≤ fn.ntmps := by have := hr.1; simp at this; omega
  have st : St w (fun _ => False) own ⟨0, noPl⟩ fn.ntmps (envA xs) Heap.none 0 { tmps := vs ++ Array.replicate (fn.ntmps - vs.size) undef, defers := [] } w := by
    refine ⟨rfl, by simp; omega, noPl, ⟨Nat.le_refl _, fun id hid => by simp at hid⟩, ⟨⟨fun _ _ => rfl, fun id o ho => by simp [Heap.none] at ho, fun _ _ _ _ _ h => by simp [noPl] at h, fun _ _ _ h => by simp [noPl] at h, hown, fun _ _ h => by simp [noPl] at h⟩,
      ⟨rfl, rfl, rfl, Nat.le_refl _, fun _ _ _ => rfl, fun _ _ _ h => by simp [noPl] at h, fun _ _ h => by simp [noPl] at h⟩, fun t => ?_⟩⟩
    refine envA_rel (w := w) (π := noPl) ⟨hr.1, fun i x v h1 h2 => (hr.2 i x v h1 h2).ofNo ?_⟩ _ t
    rintro b ((hb | hb) | ⟨_, _, h, _⟩)
    · exact hb
    · simp [noPl] at hb
    · simp [noPl] at h
  have hwp := haw c hc w (fun _ => False) own ⟨0, noPl⟩ rfl _ w st
  refine calls_of_wp hf hb (wp_mono hwp ?_)
  rintro x a' w' ⟨e', h', n', ⟨hx, hk⟩, hdef, _, π', _, s⟩
  obtain ⟨ws, v, g1, g2, σ, hcov, hcv⟩ := results_sound s hres hk
  have hs := hs_cov s.hs hcov
  have hf := fr_cov s.fr hcov
  have hrel := rel_cov s.hs hcov r _ v hcv g2
  have hO : objsO (objs.map some) = objsH objs := by
    funext j
    simp only [objsO, objsH, List.getElem?_map]
    cases objs[j]? <;> rfl
  have hnew : ∀ id p b, covPl σ (objs.map some) π' id = some p → p.blk = some b → w.heap.size ≤ b := fun id p b h1 h2 => (hf.blk id p b h1 h2).resolve_right (fun h => h)
  have fin : a'.defers = [] ∧ ∃ v, (results fn a'.tmps).run P w' = .ok v w' ∧ ∃ v1 π1, Ending.returned v = .returned v1 ∧ Ext w w' (fun _ => False) ∧ HSim own π1 (objsH objs) objs.length w' ∧ (∀ b, π1.has b → w.heap.size ≤ b) ∧ Rel w' (ownOf own π1) π1 objs.length r v1 := by
    rw [hO, List.length_map] at hs
    rw [List.length_map] at hrel
    refine ⟨hdef, v, g1, v, covPl σ (objs.map some) π', rfl, ⟨s.fr.os, s.fr.tape, s.fr.output, s.fr.size, s.fr.kept⟩, hs, fun b hb => ?_, hrel⟩
    rcases hb with ⟨id, p, h1, h2⟩ | hb
    · exact hnew id p b h1 h2
    · obtain ⟨k, hk⟩ := Option.isSome_iff_exists.1 hb
      exact (hf.hid b k hk).resolve_right (fun h => h)
  rcases hx with rfl | rfl <;> exact fin
theorem gen_of_aw {f N k : Nat} {ic : ICode} {rs : List RRes} (b : Body P f N ic rs) {G : GFun}
    (H : ∀ xs objs Q, objs.length = k → G xs objs Q → (∃ w own0 π vs, HSim own0 π (objsH objs) k w ∧ Rels w (ownOf own0 π) π k xs vs) → xs.length ≤ N ∧
      Aw P N k ic (fun x e h n => (x = .ret ∨ x = .normal) ∧ resK e h rs fun vs => ∃ σ r out, CovS σ h out ∧ covV σ h (tupOf vs) r ∧ ancB σ out k = true ∧ Q r out) (envA xs) (objsH objs) k) : GenSound P f k G := by
  intro w own0 π objs xs vs Q hl hs0 hr hG
  obtain ⟨fn, c, hf, hb, rfl, hc, hres, _⟩ := b.body
  obtain ⟨hlen, haw⟩ := H xs objs Q hl hG ⟨w, own0, π, _, hs0, hr⟩
  have hvs : vs.size ≤ fn.ntmps := by have := hr.1; simp at this; omega
  let pass : Nat → Prop := π.has
  have st : St w pass own0 ⟨k, π⟩ fn.ntmps (envA xs) (objsH objs) k { tmps := vs ++ Array.replicate (fn.ntmps - vs.size) undef, defers := [] } w := by
    refine ⟨rfl, by simp; omega, π, ⟨Nat.le_refl _, fun id _ => .inl rfl⟩, ⟨hs0, ⟨rfl, rfl, rfl, Nat.le_refl _, fun _ _ _ => rfl, fun id p b h1 h2 => .inr (.inl ⟨id, p, h1, h2⟩), fun b k hb => .inr (.inr (by rw [hb]; rfl))⟩, fun t => envA_rel hr _ t⟩⟩
  have hwp := haw c hc w pass own0 ⟨k, π⟩ rfl _ w st
  refine calls_of_wp hf hb (wp_mono hwp ?_)
  rintro x a' w' ⟨e', h', n', ⟨hx, hk⟩, hdef, _, π', hA, s⟩
  obtain ⟨ws, v, g1, g2, σ, r, out, hcov, hcv, hanc, hQ⟩ := results_sound s hres hk
  have hs := hs_cov s.hs hcov
  have hfr := fr_cov s.fr hcov
  have hrel := rel_cov s.hs hcov r _ v hcv g2
  have hA2 := anc_cov (A := ⟨k, π⟩) hcov hanc hA
  have fin : a'.defers = [] ∧ ∃ v, (results fn a'.tmps).run P w' = .ok v w' ∧ ∃ v1 π1 r out, Ending.returned v = .returned v1 ∧ Q r out ∧ k ≤ out.length ∧ Ext w w' π.has ∧
      (∀ id p, π id = some p → π1 id = some p ∨ π1 id = none) ∧ (∀ b, π1.has b → w.heap.size ≤ b ∨ π.has b) ∧
      HSim own0 π1 (objsO out) out.length w' ∧ Rel w' (ownOf own0 π1) π1 out.length r v1 := by
    refine ⟨hdef, v, g1, v, covPl σ out π', r, out, rfl, hQ, hA2.1, ⟨s.fr.os, s.fr.tape, s.fr.output, s.fr.size, s.fr.kept⟩, fun id p hp => ?_, fun b hb => ?_, hs, hrel⟩
    · rcases hA2.2 id (hs0.lt hp).1 with h1 | h1
      · exact .inl (by rw [h1]; exact hp)
      · exact .inr h1
    · rcases hb with ⟨id, p, h1, h2⟩ | hb
      · exact hfr.blk id p b h1 h2
      · obtain ⟨k, hk⟩ := Option.isSome_iff_exists.1 hb
        exact hfr.hid b k hk
  rcases hx with rfl | rfl <;> exact fin
end
end Go.Proofs.Ytpfbkblgefddlaa.Av
namespace Go.Proofs.Ytpfbkblgefddlaa.Av
set_option linter.unusedSimpArgs false
set_option linter.unusedVariables false
open Go
structure Lp (P : Program) (N k : Nat) (b : ICode) (K : XK) (e : Env) (h : Heap) (n : Nat) : Prop where
  aw : Aw P N k (.loop b) K e h n
def vc (P : Program) (N k : Nat) (Γ : Ctx) : ICode → XK → Env → Heap → Nat → Prop
  | .skip, K, e, h, n => K .normal e h n
  | .reg ios, K, e, h, n => regK Γ ios e h n (K .normal)
  | .drw ios _ true _, K, e, h, n => drwK Γ ios e h n (K .normal)
  | .drw _ _ false _, _, _, _, _ => False
  | .seq a b, K, e, h, n => vc P N k Γ a (thenK (vc P N k Γ b K) K) e h n
  | .cond z x y, K, e, h, n => condK (z.ev e) (vc P N k Γ x K e h n) (vc P N k Γ y K e h n)
  | .block id b, K, e, h, n => vc P N k Γ b (blockK id K) e h n
  | .loop b, K, e, h, n => Lp P N k b K e h n
  | .exit id, K, e, h, n => K (.exit id) e h n
  | .ret, K, e, h, n => K .ret e h n
structure Rely (P : Program) (Γ : Ctx) : Prop where
  mixed : P.follows .mixedOrders = true
  sound : CtxSound P Γ
  body : CtxBody P Γ
theorem condK_mono {v : AV} {A B A' B' : Prop} (ha : A → A') (hb : B → B') (h : condK v A B) : condK v A' B' := by
  unfold condK at *
  split at h
  · exact ⟨fun c => ha (h.1 c), fun c => hb (h.2 c)⟩
  · exact ⟨fun c => ha (h.1 c), fun c => hb (h.2 c)⟩
  · exact h.elim
theorem vc_sound {P : Program} {N k : Nat} {Γ : Ctx} (hR : Rely P Γ) : ∀ (ic : ICode) (K : XK) (e : Env) (h : Heap) (n : Nat), vc P N k Γ ic K e h n → Aw P N k ic K e h n
  | .skip, K, e, h, n, hv => Aw.skip hv
  | .reg ios, K, e, h, n, hv => Aw.reg (Γ := Γ) (callOk_K hR.sound hR.body) hv
  | .drw ios us true b2, K, e, h, n, hv => Aw.drw (Γ := Γ) hR.mixed (callOk_D hR.sound hR.body) hv
  | .drw _ _ false _, _, _, _, _, hv => hv.elim
  | .seq a b, K, e, h, n, hv => Aw.seq (Aw.mono (fun x e' h' n' g => by
      cases x <;> simp only [thenK] at g ⊢ <;> first | exact g | exact vc_sound hR b K e' h' n' g) (vc_sound hR a _ e h n hv))
  | .cond z x y, K, e, h, n, hv => Aw.cond (condK_mono (vc_sound hR x K e h n) (vc_sound hR y K e h n) hv)
  | .block id b, K, e, h, n, hv => Aw.block (vc_sound hR b _ e h n hv)
  | .loop b, K, e, h, n, hv => hv.aw
  | .exit id, K, e, h, n, hv => Aw.exit hv
  | .ret, K, e, h, n, hv => Aw.ret hv
def okcB (h : Heap) : AV → Bool
  | .ref id _ _ => (h id).isSome
  | .ptr id _ _ => (h id).isSome
  | .mp id => (h id).isSome
  | .int .. => true
  | .bool _ => true
  | .str _ => true
  | .snil => true
  | .val _ => true
  | .rptr .. => true
  | .pnil => true
  | .fn .. => true
  | .fnil => true
  | _ => false
def okcs (h : Heap) : List AV → Bool
  | [] => true
  | c :: r => okcB h c && okcs h r
theorem okcs_all {h : Heap} : ∀ {l : List AV}, okcs h l = true → ∀ c ∈ l, c.okc h
  | [], _, c, hc => by simp at hc
  | x :: r, ho, c, hc => by
    simp only [okcs, Bool.and_eq_true] at ho
    rcases List.mem_cons.1 hc with rfl | hc
    · have := ho.1
      cases c <;> simp_all [okcB, AV.okc]
    · exact okcs_all ho.2 c hc
def okvs (h : Heap) : List AV → Bool
  | [] => true
  | v :: r => okcs h v.cells && okvs h r
theorem okvs_all {h : Heap} : ∀ {l : List AV}, okvs h l = true → ∀ v ∈ l, ∀ c ∈ v.cells, c.okc h
  | [], _, c, hc => by simp at hc
  | x :: r, ho, v, hv => by
    simp only [okvs, Bool.and_eq_true] at ho
    rcases List.mem_cons.1 hv with rfl | hv
    · exact okcs_all ho.1
    · exact okvs_all ho.2 v hv
def frees : List AV → Bool
  | [] => true
  | c :: r => c.free && frees r
theorem frees_all : ∀ {l : List AV}, frees l = true → ∀ c ∈ l, c.free = true
  | [], _, c, hc => by simp at hc
  | x :: r, ho, c, hc => by
    simp only [frees, Bool.and_eq_true] at ho
    rcases List.mem_cons.1 hc with rfl | hc
    · exact ho.1
    · exact frees_all ho.2 c hc
def lensB (s : Nat) : List (List AV) → Bool
  | [] => true
  | v :: r => v.length == s && lensB s r
theorem lens_all {s : Nat} : ∀ {l : List (List AV)}, lensB s l = true → ∀ r ∈ l, r.length = s
  | [], _, c, hc => by simp at hc
  | x :: r, ho, c, hc => by
    simp only [lensB, Bool.and_eq_true, beq_iff_eq] at ho
    rcases List.mem_cons.1 hc with rfl | hc
    · exact ho.1
    · exact lens_all ho.2 c hc
def bslB (s : Nat) : List AV → Bool
  | [] => true
  | v :: r => v.cells.length == s && frees v.cells && bslB s r
theorem bsl_all {s : Nat} : ∀ {l : List AV}, bslB s l = true → ∀ v ∈ l, v.cells.length = s ∧ ∀ c ∈ v.cells, c.free = true
  | [], _, c, hc => by simp at hc
  | x :: r, ho, c, hc => by
    simp only [bslB, Bool.and_eq_true, beq_iff_eq] at ho
    rcases List.mem_cons.1 hc with rfl | hc
    · exact ⟨ho.1.1, frees_all ho.1.2⟩
    · exact bsl_all ho.2 c hc
def clenB (s : Nat) : List AV → Bool
  | [] => true
  | v :: r => v.cells.length == s && clenB s r
theorem clen_all {s : Nat} : ∀ {l : List AV}, clenB s l = true → ∀ v ∈ l, v.cells.length = s
  | [], _, c, hc => by simp at hc
  | x :: r, ho, c, hc => by
    simp only [clenB, Bool.and_eq_true, beq_iff_eq] at ho
    rcases List.mem_cons.1 hc with rfl | hc
    · exact ho.1
    · exact clen_all ho.2 c hc
def chk (b : Bool) (K : Prop) : Prop := match b with
  | true => K
  | false => False
theorem chk_eq (b : Bool) (K : Prop) : chk b K = (b = true ∧ K) := by cases b <;> simp [chk]
theorem okcs_iff {h : Heap} : ∀ {l : List AV}, okcs h l = true ↔ ∀ c ∈ l, c.okc h
  | [] => by simp [okcs]
  | x :: r => by
    have : okcB h x = true ↔ x.okc h := by cases x <;> simp [okcB, AV.okc]
    simp [okcs, this, okcs_iff (l := r)]
theorem okvs_iff {h : Heap} : ∀ {l : List AV}, okvs h l = true ↔ ∀ v ∈ l, ∀ c ∈ v.cells, c.okc h
  | [] => by simp [okvs]
  | x :: r => by simp [okvs, okcs_iff, okvs_iff (l := r)]
theorem frees_iff : ∀ {l : List AV}, frees l = true ↔ ∀ c ∈ l, c.free = true
  | [] => by simp [frees]
  | x :: r => by simp [frees, frees_iff (l := r)]
theorem bsl_iff {s : Nat} : ∀ {l : List AV}, bslB s l = true ↔ ∀ v ∈ l, v.cells.length = s ∧ ∀ c ∈ v.cells, c.free = true
  | [] => by simp [bslB]
  | x :: r => by simp [bslB, frees_iff, bsl_iff (l := r)]
theorem clen_iff {s : Nat} : ∀ {l : List AV}, clenB s l = true ↔ ∀ v ∈ l, v.cells.length = s
  | [] => by simp [clenB]
  | x :: r => by simp [clenB, clen_iff (l := r)]
def hasLen {α : Type} : List α → Nat → Bool
  | [], 0 => true
  | _ :: r, n + 1 => hasLen r n
  | _, _ => false
theorem hasLen_iff {α : Type} : ∀ {l : List α} {n : Nat}, hasLen l n = true ↔ l.length = n
  | [], 0 => by simp [hasLen]
  | [], n + 1 => by simp [hasLen]
  | _ :: r, 0 => by simp [hasLen]
  | _ :: r, n + 1 => by simp [hasLen, hasLen_iff (l := r)]
def atLeast {α : Type} : List α → Nat → Bool
  | _, 0 => true
  | _ :: r, n + 1 => atLeast r n
  | _, _ => false
theorem atLeast_iff {α : Type} : ∀ {l : List α} {n : Nat}, atLeast l n = true ↔ n ≤ l.length
  | [], 0 => by simp [atLeast]
  | [], n + 1 => by simp [atLeast]
  | _ :: r, 0 => by simp [atLeast]
  | _ :: r, n + 1 => by simp [atLeast, atLeast_iff (l := r)]
def allLive (h : Heap) : List Nat → Bool
  | [] => true
  | id :: r => (h id).isSome && allLive h r
theorem allLive_iff {h : Heap} : ∀ {l : List Nat}, allLive h l = true ↔ ∀ id ∈ l, (h id).isSome = true
  | [] => by simp [allLive]
  | x :: r => by simp [allLive, allLive_iff (l := r)]
end Go.Proofs.Ytpfbkblgefddlaa.Av
namespace Go.Proofs.Ytpfbkblgefddlaa.Av
set_option linter.unusedSimpArgs false
set_option linter.unusedVariables false
open Go
def envL : List (Nat × AV) → Env
  | [], _ => .top
  | (t, v) :: r, s => if s = t then v else envL r s
def covAll (σ : List (Option Nat)) (h : Heap) (e : Env) : List (Nat × AV) → Prop
  | [] => True
  | (t, v) :: r => covV σ h (e t) v ∧ covAll σ h e r
theorem covAll_env {σ : List (Option Nat)} {h : Heap} {e : Env} : ∀ (l : List (Nat × AV)), covAll σ h e l → ∀ t, covV σ h (e t) (envL l t)
  | [], _, t => by simp [envL, covV]
  | (t', v) :: r, hc, t => by
    simp only [envL]
    split
    · rename_i ht; subst ht; exact hc.1
    · exact covAll_env r hc.2 t
structure CovN (σ : List (Option Nat)) (e : Env) (h : Heap) (l : List (Nat × AV)) (os : List (Option AObj)) (k : Nat) : Prop where
  nd : nodupB σ = true
  anc : ancB σ os k = true
  obs : covOs σ h σ os
  env : covAll σ h e l
section
variable {P : Program} {N k : Nat} {K : XK} {e : Env} {h : Heap} {n : Nat}
theorem Aw.covN {ic : ICode} {σ : List (Option Nat)} {l : List (Nat × AV)} {os : List (Option AObj)} (hc : CovN σ e h l os k) (hw : Aw P N k ic K (envL l) (objsO os) os.length) : Aw P N k ic K e h n :=
  Aw.cov ⟨hc.nd, hc.obs⟩ hc.anc (covAll_env l hc.env) hw
theorem Aw.post {ic : ICode} {K' : XK} (hk : ∀ x e h n, K x e h n → K' x e h n ∨ ∃ σ l os, CovN σ e h l os k ∧ K' x (envL l) (objsO os) os.length) (hw : Aw P N k ic K e h n) : Aw P N k ic K' e h n := by
  intro c hc w0 pass own0 A hA a w st
  refine wp_mono (hw c hc w0 pass own0 A hA a w st) ?_
  rintro x a' w' ⟨e', h', n', g1, g2⟩
  rcases hk x e' h' n' g1 with g | ⟨σ, l, os, g3, g4⟩
  · exact ⟨e', h', n', g, g2⟩
  · exact ⟨_, _, _, g4, g2.cov ⟨g3.nd, g3.obs⟩ (by rw [hA]; exact g3.anc) (covAll_env l g3.env)⟩
theorem Lp.intro {α : Type} (inv : α → Prop) (m : α → Nat) (L : α → List (Nat × AV)) (O : α → List (Option AObj)) {x : ICode} (h0 : ∃ a, inv a ∧ ∃ σ, CovN σ e h (L a) (O a) k)
    (round : ∀ a, inv a → Aw P N k x (thenK (fun e' h' _ => ∃ a', inv a' ∧ m a' < m a ∧ ∃ σ, CovN σ e' h' (L a') (O a') k) K) (envL (L a)) (objsO (O a)) (O a).length) : Lp P N k x K e h n := by
  obtain ⟨a, ha, σ, hc⟩ := h0
  refine ⟨Aw.covN hc (Aw.loop (fun j e h n => ∃ a, inv a ∧ m a = j ∧ e = envL (L a) ∧ h = objsO (O a) ∧ n = (O a).length) (m a) ⟨a, ha, rfl, rfl, rfl, rfl⟩ ?_)⟩
  rintro j e h n ⟨a, ha, rfl, rfl, rfl, rfl⟩
  refine Aw.post ?_ (round a ha)
  intro x e' h' n' g
  cases x <;> simp only [thenK] at g ⊢ <;> first | exact .inl g | skip
  obtain ⟨a', h1, h2, σ', h3⟩ := g
  exact .inr ⟨σ', L a', O a', h3, m a', h2, a', h1, rfl, rfl, rfl, rfl⟩
theorem Aw.split {Γ : Ctx} (hR : Rely P Γ) {x y : List IOper} (hk : regK Γ x e h n (fun e' h' _ => ∃ σ l os, CovN σ e' h' l os k ∧ regK Γ y (envL l) (objsO os) os.length (K .normal))) : Aw P N k (.reg (x ++ y)) K e h n := by
  intro c hc w0 pass own0 A hA a w st
  cases c <;> simp only [comp] at hc
  case region id ops draw =>
    split at hc
    · rename_i ios' hio
      split at hc
      · rename_i hd
        cases draw
        · simp at hc
          subst hc
          obtain ⟨g1, g2⟩ := reg_parts hio hd
          have hC := callOk_K hR.sound hR.body
          have hget : ∀ (i j : Nat) k, (List.range' i j)[k]? = some (i + k) ∨ (List.range' i j)[k]? = none := by
            intro i j k
            by_cases hkj : k < j
            · exact .inl (by simp [hkj])
            · exact .inr (by simp; omega)
          have hrange : List.range ops.size = List.range' 0 x.length ++ List.range' x.length y.length := by
            rw [List.range_eq_range', ← g1, List.length_append]
            have := List.range'_append_1 (s := 0) (m := x.length) (n := y.length)
            rw [Nat.zero_add] at this
            exact this.symm
          refine wp_region ?_
          rw [hrange]
          refine reg_sound2 (Γ := Γ) (N := N) hC _ x e h n a w _ (by simp) ?_ st hk ?_
          · intro i k io h1 h2
            rcases hget 0 x.length i with h3 | h3
            · rw [h3] at h1; cases h1
              refine g2 _ io ?_
              rw [Nat.zero_add, List.getElem?_append, if_pos (List.getElem?_eq_some_iff.1 h2).1]
              exact h2
            · rw [h3] at h1; cases h1
          · rintro e' h' n' a' w' ⟨σ, l, os, hcov, hk'⟩ st'
            have st2 := st'.cov ⟨hcov.nd, hcov.obs⟩ (by rw [hA]; exact hcov.anc) (covAll_env l hcov.env)
            have hq := reg_sound2 (l2 := []) (Q := fun x a' w' => ∃ e' h' n', K x e' h' n' ∧ St w0 pass own0 A N e' h' n' a' w') (Γ := Γ) (N := N) hC (ops := ops) (List.range' x.length y.length) y _ _ _ a' w' (K .normal) (by simp) ?_ st2 hk' (fun e' h' n' a' w' hk' st' => ⟨e', h', n', hk', st'⟩)
            · rwa [List.append_nil] at hq
            · intro i k io h1 h2
              rcases hget x.length y.length i with h3 | h3
              · rw [h3] at h1; cases h1
                refine g2 _ io ?_
                rw [List.getElem?_append, if_neg (by omega)]
                have : x.length + i - x.length = i := by omega
                rw [this]; exact h2
              · rw [h3] at h1; cases h1
        · simp at hc
      · cases hc
    · cases hc
  all_goals ((repeat' split at hc) <;> simp at hc)
theorem Aw.meet {α : Type} (inv : α → Prop) (L : α → List (Nat × AV)) (O : α → List (Option AObj)) {x y : ICode}
    (h1 : Aw P N k x (thenK (fun e' h' _ => ∃ a', inv a' ∧ ∃ σ, CovN σ e' h' (L a') (O a') k) K) e h n) (h2 : ∀ a, inv a → Aw P N k y K (envL (L a)) (objsO (O a)) (O a).length) : Aw P N k (.seq x y) K e h n := by
  refine Aw.seq (Aw.post ?_ h1)
  intro x e' h' n' g
  cases x <;> simp only [thenK] at g ⊢ <;> first | exact .inl g | skip
  obtain ⟨a', g1, σ', g3⟩ := g
  exact .inl (Aw.covN g3 (h2 a' g1))
end
def ctxOf : List (Nat × Spec) → Ctx
  | [], _ => none
  | (g, S) :: r, f => if f = g then some S else ctxOf r f
theorem rely_nil {P : Program} (hm : P.follows .mixedOrders = true) : Rely P (ctxOf []) := ⟨hm, fun _ _ h => by simp [ctxOf] at h, fun _ _ h => by simp [ctxOf] at h⟩
theorem rely_cons {P : Program} {g : Nat} {S : Spec} {l : List (Nat × Spec)} (hb : HasBody P g) (hs : S.Sound P g) (hl : Rely P (ctxOf l)) : Rely P (ctxOf ((g, S) :: l)) := by
  refine ⟨hl.mixed, fun f T h => ?_, fun f T h => ?_⟩
  · simp only [ctxOf] at h
    split at h
    · rename_i hf; cases h; subst hf; exact hs
    · exact hl.sound f T h
  · simp only [ctxOf] at h
    split at h
    · rename_i hf; subst hf; exact hb
    · exact hl.body f T h
def ints (xs : List Int) : List (List AV) := xs.map fun n => [.int .i64 n]
theorem length_ints (xs : List Int) : (ints xs).length = xs.length := by simp [ints]
theorem ints_get (xs : List Int) (i : Nat) (h : i < xs.length) : (ints xs)[i]? = some [.int .i64 xs[i]] := by simp [ints, List.getElem?_map, List.getElem?_eq_getElem h]
theorem ints_at {xs : List Int} {i : Nat} (h : i < xs.length) : (ints xs)[((i : Nat) : Int).toNat]? = some [.int .i64 (xs.getD i 0)] := by
  simp [ints, List.getElem?_map, List.getElem?_eq_getElem h, List.getD_eq_getElem?_getD]
theorem ints_at' {xs : List Int} {i : Int} (h0 : 0 ≤ i) (h : i < xs.length) : (ints xs)[i.toNat]? = some [.int .i64 (xs.getD i.toNat 0)] := by
  have : i.toNat < xs.length := by omega
  simp [ints, List.getElem?_map, List.getElem?_eq_getElem this, List.getD_eq_getElem?_getD]
theorem rowsOf_all {h : Heap} {id z len : Nat} {rows : List (List AV)} (ho : h id = some (.arr z rows)) (hl : rows.length = len) : rowsOf h (.ref id 0 len) = some rows := by
  subst hl
  simp [rowsOf, ho, sub]
/-! ### slices of rows of any kind -/
theorem map_at {α : Type} [Inhabited α] {f : α → List AV} {xs : List α} {i : Nat} (h : i < xs.length) : (xs.map f)[((i : Nat) : Int).toNat]? = some (f (xs.getD i default)) := by
  simp [List.getElem?_map, List.getElem?_eq_getElem h, List.getD_eq_getElem?_getD]
theorem map_at0 {α : Type} [Inhabited α] {f : α → List AV} {xs : List α} {i : Nat} (h : i < xs.length) : (xs.map f)[0 + ((i : Nat) : Int).toNat]? = some (f (xs.getD i default)) := by
  rw [Nat.zero_add]; exact map_at h
theorem take_succ_D {α : Type} [Inhabited α] {l : List α} {i : Nat} (hi : i < l.length) : l.take (i + 1) = l.take i ++ [l.getD i default] := by
  rw [List.take_add_one, List.getElem?_eq_getElem hi, List.getD_eq_getElem?_getD, List.getElem?_eq_getElem hi]
  rfl
theorem fill_stepD {α : Type} [Inhabited α] {f : α → List AV} {l : List α} {z : α} {i : Nat} (hi : i < l.length) : ((l.take i ++ List.replicate (l.length - i) z).map f).set i (f (l.getD i default)) = (l.take (i + 1) ++ List.replicate (l.length - (i + 1)) z).map f := by
  rw [take_succ_D hi]
  have e : l.length - i = (l.length - (i + 1)) + 1 := by omega
  rw [e, List.replicate_succ]
  simp [List.set_append, Nat.min_eq_left (Nat.le_of_lt hi)]
theorem ints_nov (l : List Int) : (ints l).all AV.novs = true := by
  simp [ints, AV.novs, AV.nov]
theorem ints_at0 {xs : List Int} {i : Nat} (h : i < xs.length) : (ints xs)[0 + ((i : Nat) : Int).toNat]? = some [.int .i64 (xs.getD i 0)] := by
  rw [Nat.zero_add]; exact ints_at h
theorem SB : (∀ (p : Prop) [Decidable p], decide p = true ↔ p) ∧ (∀ (p : Prop) [Decidable p], decide p = false ↔ ¬ p) ∧ (∀ b : Bool, (!b) = true ↔ b = false) ∧ (∀ b : Bool, (!b) = false ↔ b = true) ∧ (∀ b : Bool, (!!b) = b) ∧
    (∀ (α : Type) (a b : α), a ≠ b ↔ ¬ a = b) ∧ (∀ xs, (ints xs).length = xs.length) ∧ (∀ (α β : Type) (f : α → β) (l : List α), (l.map f).length = l.length) ∧
    (∀ (α : Type) [BEq α] [LawfulBEq α] (a b : α), (a == b) = true ↔ a = b) ∧ (∀ (α : Type) [BEq α] [LawfulBEq α] (a b : α), (a == b) = false ↔ ¬ a = b) ∧
    (∀ (α : Type) [BEq α] [LawfulBEq α] (a b : α), (a != b) = true ↔ ¬ a = b) ∧ (∀ (α : Type) [BEq α] [LawfulBEq α] (a b : α), (a != b) = false ↔ a = b) ∧
    (∀ a b : Int, ¬ a ≤ b ↔ b < a) ∧ (∀ a b : Int, ¬ a < b ↔ b ≤ a) ∧ (∀ a b : Int, a ≥ b ↔ b ≤ a) ∧ (∀ a b : Int, a > b ↔ b < a) ∧ (¬ False ↔ True) ∧ (¬ True ↔ False) ∧ (false = true ↔ False) ∧ (true = false ↔ False) ∧ (∀ (α : Type) (a : α), a = a ↔ True) := by
  refine ⟨?_, ?_, ?_, ?_, ?_, ?_, ?_, ?_, ?_, ?_, ?_, ?_, ?_, ?_, ?_, ?_, ?_, ?_, ?_, ?_, ?_⟩ <;> intros <;> simp [ints]
/-! ### what a call is handed -/
theorem args_cons {h : Heap} {x y : AV} {xs ys : List AV} (h1 : x.snap h = y) (h2 : xs.map (AV.snap h) = ys) : (x :: xs).map (AV.snap h) = y :: ys := by rw [List.map_cons, h1, h2]
theorem cells_cons {h : Heap} {x y : AV} {xs ys : List AV} (h1 : x.snap1 h = y) (h2 : xs.map (AV.snap1 h) = ys) : (x :: xs).map (AV.snap1 h) = y :: ys := by rw [List.map_cons, h1, h2]
theorem snap_agg {h : Heap} {xs ys : List AV} (h1 : xs.map (AV.snap1 h) = ys) : (AV.agg xs).snap h = .agg ys := by rw [AV.snap, h1]
theorem snap1_ref {h : Heap} {id off len z : Nat} {rows rows' : List (List AV)} (ho : h id = some (.arr z rows)) (hl : off + len ≤ rows.length) (hs : sub rows off len = rows') : (AV.ref id off len).snap1 h = .val rows' := by
  subst hs; simp [AV.snap1, ho, hl]
theorem snap1_all {h : Heap} {id len z : Nat} {rows : List (List AV)} (ho : h id = some (.arr z rows)) (hl : rows.length = len) : (AV.ref id 0 len).snap1 h = .val rows := by
  subst hl; exact snap1_ref ho (by simp) (by simp [sub])
theorem snap1_all2 {h h2 : Heap} {id len z : Nat} {rows : List (List AV)} (ho : h id = some (.arr z rows)) (hl : rows.length = len) : ((AV.ref id 0 len).snap1 h).snap1 h2 = .val rows := by
  rw [snap1_all ho hl]; rfl
theorem snap_ref {h : Heap} {id off len z : Nat} {rows rows' : List (List AV)} (ho : h id = some (.arr z rows)) (hl : off + len ≤ rows.length) (hs : sub rows off len = rows') : (AV.ref id off len).snap h = .val rows' := snap1_ref ho hl hs
theorem snap_all {h : Heap} {id len z : Nat} {rows : List (List AV)} (ho : h id = some (.arr z rows)) (hl : rows.length = len) : (AV.ref id 0 len).snap h = .val rows := snap1_all ho hl
theorem rel_len {w : World} {own : Nat → Prop} {π : Pl} {n : Nat} {rows : List (List AV)} {v : Value} (h : Rel w own π n (.val rows) v) : rows.length ≤ 9223372036854775807 := by
  cases h with
  | valNil => simp
  | val => assumption
theorem rels_at {w : World} {own : Nat → Prop} {π : Pl} {n : Nat} {xs : List AV} {vs : List Value} (h : Rels w own π n xs vs) {i : Nat} {x : AV} (hx : xs[i]? = some x) : ∃ v, Rel w own π n x v := by
  have hi := (List.getElem?_eq_some_iff.1 hx).1
  have : i < vs.length := by rw [← h.1]; exact hi
  exact ⟨_, h.2 i x _ hx (List.getElem?_eq_getElem this)⟩
/-! ### steps of the evaluation, in short -/
theorem G1 {p q : Prop} (h : q) (hp : p := by first | exact rfl | exact Int.natCast_nonneg _ | exact lens_all rfl | omega | (show _ ≤ _ ∧ (_ + 1) * _ ≤ _ ∧ _ + 1 ≤ _; first | omega | (simp; omega)) | (show 1 * _ ≤ _ ∧ 1 ≤ _; omega) | (simp; omega) | (show _ ∧ _; simp; done)) : p ∧ q := ⟨hp, h⟩
theorem G2 {a : Int} {Q : Int → Prop} (h : Q a) (hi : -9223372036854775808 ≤ a ∧ a ≤ 9223372036854775807 := by omega) : ∃ c, IntKind.i64.wrap a = c ∧ Q c := ⟨_, IntWalk.i64_in _ hi, h⟩
theorem argsA {p : Prop} (h : p := by repeat' (first | exact rfl | refine args_cons ?_ ?_ | refine snap_agg ?_ | refine cells_cons ?_ ?_ | exact snap1_all rfl (by first | (simp only [length_ints]; done) | simp [ints]) | exact snap_all rfl (by first | (simp only [length_ints]; done) | simp [ints]) | exact snap1_all2 rfl (by first | (simp only [length_ints]; done) | simp [ints]) | fail)) : p := h
end Go.Proofs.Ytpfbkblgefddlaa.Av
namespace Go.Proofs.Ytpfbkblgefddlaa.Av
set_option linter.unusedSimpArgs false
set_option linter.unusedVariables false
open Go
def force (v : AV) (K : AV → Prop) : Prop := match v with
  | .top => K .top
  | .undef => K .undef
  | .int k n => K (.int k n)
  | .bool b => (b = true → K (.bool true)) ∧ (b = false → K (.bool false))
  | .str s => K (.str s)
  | .agg vs => K (.agg vs)
  | .tup vs => K (.tup vs)
  | .ref id off len => K (.ref id off len)
  | .snil => K .snil
  | .val rows => K (.val rows)
  | .ptr id i off => K (.ptr id i off)
  | .rptr row off => K (.rptr row off)
  | .pnil => K .pnil
  | .fn f caps => K (.fn f caps)
  | .fnil => K .fnil
  | .maybe c d => K (.maybe c d)
  | .own z rows => K (.own z rows)
  | .tmp rows => K (.tmp rows)
  | .mp id => K (.mp id)
theorem force_eq (v : AV) (K : AV → Prop) : force v K = K v := by
  cases v <;> try rfl
  rename_i b
  cases b <;> simp [force]
def force0 (v : AV) (K : AV → Prop) : Prop := match v with
  | .top => K .top
  | .undef => K .undef
  | .int k n => K (.int k n)
  | .bool true => K (.bool true)
  | .bool false => K (.bool false)
  | .str s => K (.str s)
  | .agg vs => K (.agg vs)
  | .tup vs => K (.tup vs)
  | .ref id off len => K (.ref id off len)
  | .snil => K .snil
  | .val rows => K (.val rows)
  | .ptr id i off => K (.ptr id i off)
  | .rptr row off => K (.rptr row off)
  | .pnil => K .pnil
  | .fn f caps => K (.fn f caps)
  | .fnil => K .fnil
  | .maybe c d => K (.maybe c d)
  | .own z rows => K (.own z rows)
  | .tmp rows => K (.tmp rows)
  | .mp id => K (.mp id)
theorem force0_eq (v : AV) (K : AV → Prop) : force0 v K = K v := by
  cases v <;> try rfl
  rename_i b
  cases b <;> rfl
def Tag.makes : Tag → Bool
  | .bin _ | .beq _ | .aeq _ _ | .ld1 | .fld1 _ | .ext _ | .call _ | .dyn | .aidx _ => true
  | _ => false
def forceT (t : Tag) (v : AV) (K : AV → Prop) : Prop := match t.makes with
  | true => force v K
  | false => force0 v K
theorem forceT_eq (t : Tag) (v : AV) (K : AV → Prop) : forceT t v K = K v := by
  unfold forceT
  split
  · exact force_eq v K
  · exact force0_eq v K
def guardK2 (o : IOper) (e : Env) (yes no : Prop) : Prop := match o.g with
  | none => yes
  | some (t, b) => match e t with
    | .bool c => (match c, b with
      | true, true => yes
      | false, false => yes
      | true, false => no
      | false, true => no)
    | .undef => no
    | _ => False
theorem guardK2_eq (o : IOper) (e : Env) (yes no : Prop) : guardK2 o e yes no = guardK o e yes no := by
  unfold guardK2 guardK
  cases o.g with
  | none => rfl
  | some g =>
    obtain ⟨t, b⟩ := g
    simp only []
    cases e t <;> try rfl
    rename_i c
    cases c <;> cases b <;> simp
def condK2 (v : AV) (yes no : Prop) : Prop := match v with
  | .maybe c d => (c → yes) ∧ (d → no)
  | .bool c => (match c with
    | true => yes
    | false => no)
  | _ => False
theorem condK2_eq (v : AV) (yes no : Prop) : condK2 v yes no = condK v yes no := by
  unfold condK2 condK
  cases v <;> try rfl
  rename_i c
  cases c <;> simp
def forceC (v : AV) (K : AV → Prop) : Prop := match v with
  | .top => K .top
  | .undef => K .undef
  | .int k n => K (.int k n)
  | .bool b => K (.bool b)
  | .str s => K (.str s)
  | .agg vs => K (.agg vs)
  | .tup vs => K (.tup vs)
  | .ref id off len => K (.ref id off len)
  | .snil => K .snil
  | .val rows => K (.val rows)
  | .ptr id i off => K (.ptr id i off)
  | .rptr row off => K (.rptr row off)
  | .pnil => K .pnil
  | .fn f caps => K (.fn f caps)
  | .fnil => K .fnil
  | .maybe c d => K (.maybe c d)
  | .own z rows => K (.own z rows)
  | .tmp rows => K (.tmp rows)
  | .mp id => K (.mp id)
theorem forceC_eq (v : AV) (K : AV → Prop) : forceC v K = K v := by cases v <;> rfl
def forceRow (row : List AV) : (List AV → Prop) → Prop :=
  List.rec (motive := fun _ => (List AV → Prop) → Prop) (fun K => K []) (fun c _ ih K => forceC c fun c => ih fun r => K (c :: r)) row
theorem forceRow_eq : ∀ (row : List AV) (K : List AV → Prop), forceRow row K = K row
  | [], _ => rfl
  | c :: r, K => by
    show (forceC c fun c => forceRow r fun r => K (c :: r)) = _
    rw [forceC_eq, forceRow_eq r]
def forceObj (o : AObj) (K : AObj → Prop) : Prop := match o with
  | .box row => forceRow row fun row => K (.box row)
  | .arr s rows => K (.arr s rows)
  | .nst s rows => K (.nst s rows)
  | .arx s rows => K (.arx s rows)
  | .map st es => K (.map st es)
  | .itr st c l => K (.itr st c l)
theorem forceObj_eq (o : AObj) (K : AObj → Prop) : forceObj o K = K o := by
  cases o <;> simp [forceObj, forceRow_eq]
def forceL (l : List Nat) : (List Nat → Prop) → Prop :=
  List.rec (motive := fun _ => (List Nat → Prop) → Prop) (fun K => K []) (fun a _ ih K => ih fun r => K (a :: r)) l
theorem forceL_eq : ∀ (l : List Nat) (K : List Nat → Prop), forceL l K = K l
  | [], _ => rfl
  | a :: r, K => by
    show (forceL r fun r => K (a :: r)) = _
    rw [forceL_eq r]
def addK (f : Nat → Option Nat) (objs : List AObj) : Heap → Nat → (Heap → Nat → Prop) → Prop :=
  List.rec (motive := fun _ => Heap → Nat → (Heap → Nat → Prop) → Prop) (fun h n K => K h n) (fun o _ ih h n K => forceObj (o.mapId f) fun o => ih (h.set n o) (n + 1) K) objs
theorem addK_eq (f : Nat → Option Nat) : ∀ (objs : List AObj) (h : Heap) (n : Nat) (K : Heap → Nat → Prop), addK f objs h n K = K (addObjs h n (objs.map (AObj.mapId f))) (n + objs.length)
  | [], h, n, K => rfl
  | o :: r, h, n, K => by
    show (forceObj (o.mapId f) fun o => addK f r (h.set n o) (n + 1) K) = _
    rw [forceObj_eq, addK_eq f r]
    simp only [List.map_cons, addObjs, List.length_cons]
    rw [Nat.add_assoc, Nat.add_comm 1]
def setK (f : Nat → Option Nat) (out : List (Option AObj)) : List Nat → Heap → Nat → (Heap → Prop) → Prop :=
  List.rec (motive := fun _ => List Nat → Heap → Nat → (Heap → Prop) → Prop) (fun _ h _ K => K h)
    (fun o _ ih l h n K => match l, o with
      | id :: l, some o => forceObj (o.mapId f) fun o => ih l (h.set id o) n K
      | id :: l, none => ih l (h.del id) n K
      | [], some o => forceObj (o.mapId f) fun o => ih [] (h.set n o) (n + 1) K
      | [], none => ih [] h (n + 1) K) out
theorem setK_eq (f : Nat → Option Nat) : ∀ (out : List (Option AObj)) (l : List Nat) (h : Heap) (n : Nat) (K : Heap → Prop), setK f out l h n K = K (setObjs h n l (out.map fun o => o.map (AObj.mapId f)))
  | [], l, h, n, K => by
    show K h = _
    cases l <;> rfl
  | o :: r, l, h, n, K => by
    cases l with
    | nil =>
      cases o with
      | none => show setK f r [] h (n + 1) K = _; rw [setK_eq f r]; rfl
      | some o => show (forceObj (o.mapId f) fun o => setK f r [] (h.set n o) (n + 1) K) = _; rw [forceObj_eq, setK_eq f r]; rfl
    | cons id l =>
      cases o with
      | none => show setK f r l (h.del id) n K = _; rw [setK_eq f r]; rfl
      | some o => show (forceObj (o.mapId f) fun o => setK f r l (h.set id o) n K) = _; rw [forceObj_eq, setK_eq f r]; rfl
structure GH (G : GFun) (xs : List AV) (objs : List AObj) (Q : AV → List (Option AObj) → Prop) : Prop where
  holds : G xs objs Q
def callGen2 (k : Nat) (G : GFun) (args : List AV) (h : Heap) (n : Nat) (K : Kont) : Prop :=
  forceL (reach h args) fun l => chk (hasLen l k && allLive h l)
    (GH G (args.map (AV.mapId (place l))) (l.map fun id => ((h id).getD default).mapId (place l))
      fun r out => setK (unplace l n) out l h n fun h' => K (r.mapId (unplace l n)) h' (n + (out.length - k)))
theorem callGen2_eq (k : Nat) (G : GFun) (args : List AV) (h : Heap) (n : Nat) (K : Kont) : callGen2 k G args h n K = callGen k G args h n K := by
  unfold callGen2 callGen
  rw [forceL_eq, chk_eq, Bool.and_eq_true, hasLen_iff, allLive_iff]
  refine propext ⟨fun ⟨⟨a, b⟩, c⟩ => ⟨a, b, ?_⟩, fun ⟨a, b, c⟩ => ⟨⟨a, b⟩, ⟨?_⟩⟩⟩
  · have := c.holds
    simpa only [setK_eq] using this
  · simpa only [setK_eq] using c
def callPure2 (R : List AV → AV → List AObj → Prop) (args : List AV) (h : Heap) (n : Nat) (K : Kont) : Prop :=
  ∃ r objs, R (args.map (AV.snap h)) r objs ∧ addK (shift n) objs h n fun h' n' => K (r.mapId (shift n)) h' n'
theorem callPure2_eq (R : List AV → AV → List AObj → Prop) (args : List AV) (h : Heap) (n : Nat) (K : Kont) : callPure2 R args h n K = callPure R args h n K := by
  unfold callPure2 callPure
  simp only [addK_eq]
def CK2 (Γ : Ctx) : CallF := fun f xs h n K => match Γ f with
  | some (.pure R) => callPure2 R xs h n K
  | some (.loose R) => chk (xs.all AV.freeA) (callPure2 R xs h n K)
  | some (.gen k G) => callGen2 k G xs h n K
  | none => False
theorem CK2_eq (Γ : Ctx) : CK2 Γ = CK Γ := by
  funext f xs h n K
  unfold CK2 CK
  cases Γ f with
  | none => rfl
  | some S =>
    cases S with
    | pure R => exact callPure2_eq R xs h n K
    | loose R => show chk _ _ = (_ ∧ _); rw [chk_eq, callPure2_eq]
    | gen k G => exact callGen2_eq k G xs h n K
def lones : List AV → Bool
  | [] => true
  | c :: r => c.lone && lones r
theorem lones_iff : ∀ {l : List AV}, lones l = true ↔ ∀ c ∈ l, c.lone = true
  | [] => by simp [lones]
  | x :: r => by simp [lones, lones_iff (l := r)]
def lenK (l : List AV) : (Nat → Prop) → Prop := List.rec (motive := fun _ => (Nat → Prop) → Prop) (fun K => K 0) (fun _ _ ih K => ih fun m => K (m + 1)) l
theorem lenK_eq : ∀ (l : List AV) (K : Nat → Prop), lenK l K = K l.length
  | [], _ => rfl
  | _ :: r, K => by
    show (lenK r fun m => K (m + 1)) = _
    rw [lenK_eq r]
    rfl
def rowsK (vs : List AV) : (List (List AV) → Prop) → Prop :=
  List.rec (motive := fun _ => (List (List AV) → Prop) → Prop) (fun K => K []) (fun v _ ih K => forceRow v.cells fun r => ih fun rs => K (r :: rs)) vs
theorem rowsK_eq : ∀ (vs : List AV) (K : List (List AV) → Prop), rowsK vs K = K (vs.map AV.cells)
  | [], _ => rfl
  | v :: r, K => by
    show (forceRow v.cells fun x => rowsK r fun rs => K (x :: rs)) = _
    rw [forceRow_eq, rowsK_eq r]
    rfl
def semBinF (op : BinOp) (x y : AV) (K : AV → Prop) : Prop :=
  match x, y with
  | .int k a, .int k' b => if op = .shl ∨ op = .shr then semShift op k a b K else chk (decide (k = k')) (semInt op k a b K)
  | .str a, .str b => semStr op a b K
  | _, _ => False
theorem semBinF_eq (op : BinOp) (x y : AV) (K : AV → Prop) : semBinF op x y K = semBin op x y K := by
  unfold semBinF semBin
  split <;> simp only [chk_eq, decide_eq_true_eq]
def semF (tag : Tag) (vs : List AV) (h : Heap) (n : Nat) (K : Kont) : Prop :=
  match tag, vs with
  | .bin op, [x, y] => semBinF op x y fun v => K v h n
  | .box s, [v] => chk (hasLen v.cells s && okcs h v.cells) (forceRow v.cells fun row => K (.ptr n 0 0) (h.set n (.box row)) (n + 1))
  | .ld1, [.ptr id i off] => (match h id with
    | some (.box row) => chk (Nat.beq i 0) (match row[off]? with | some v => K v h n | Option.none => False)
    | some (.arr _ rows) => (match rows[i]? with
      | some row => (match row[off]? with | some v => K v h n | Option.none => False)
      | Option.none => False)
    | some (.nst _ rows) => (match rows[i]? with
      | some row => (match row[off]? with | some v => chk v.free (K v h n) | Option.none => False)
      | Option.none => False)
    | some (.arx _ rows) => (match rows[i]? with
      | some row => (match row[off]? with | some v => chk v.lone (K v h n) | Option.none => False)
      | Option.none => False)
    | _ => False)
  | .st s, [.ptr id i off, v] => chk (hasLen v.cells s && okcs h v.cells) (match h id with
    | some (.box row) => chk (Nat.beq i 0 && atLeast row (off + s)) (forceRow (setCells row off v.cells) fun row => K .undef (h.set id (.box row)) n)
    | some (.arr z rows) => (match rows[i]? with
      | some row => chk (atLeast row (off + s) && frees v.cells) (forceRow (setCells row off v.cells) fun row => K .undef (h.set id (.arr z (rows.set i row))) n)
      | Option.none => False)
    | some (.nst z rows) => (match rows[i]? with
      | some row => chk (atLeast row (off + s) && frees v.cells) (forceRow (setCells row off v.cells) fun row => K .undef (h.set id (.nst z (rows.set i row))) n)
      | Option.none => False)
    | some (.arx z rows) => (match rows[i]? with
      | some row => chk (atLeast row (off + s)) (forceRow (setCells row off v.cells) fun row => K .undef (h.set id (.arx z (rows.set i row))) n)
      | Option.none => False)
    | _ => False)
  | .ldn s, [.ptr id i off] => (match h id with
    | some (.box row) => chk (Nat.beq i 0 && atLeast row (off + s)) (forceRow (sub row off s) fun r => K (.agg r) h n)
    | some (.arr _ rows) => (match rows[i]? with
      | some row => chk (atLeast row (off + s)) (forceRow (sub row off s) fun r => K (.agg r) h n)
      | Option.none => False)
    | some (.nst _ rows) => (match rows[i]? with
      | some row => chk (atLeast row (off + s) && frees (sub row off s)) (forceRow (sub row off s) fun r => K (.agg r) h n)
      | Option.none => False)
    | some (.arx _ rows) => (match rows[i]? with
      | some row => chk (atLeast row (off + s) && lones (sub row off s)) (forceRow (sub row off s) fun r => K (.agg r) h n)
      | Option.none => False)
    | _ => False)
  | .ldn s, [.rptr row off] => chk (atLeast row (off + s)) (forceRow (sub row off s) fun r => K (.agg r) h n)
  | .iadr s, [.ref id off len, .int _ i] => (0 ≤ i ∧ i < len) ∧ (match h id with
    | some (.arr z _) => chk (Nat.beq z s) (K (.ptr id (off + i.toNat) 0) h n)
    | some (.nst z _) => chk (Nat.beq z s) (K (.ptr id (off + i.toNat) 0) h n)
    | some (.arx z _) => chk (Nat.beq z s) (K (.ptr id (off + i.toNat) 0) h n)
    | _ => False)
  | .iadr s, [.val rows, .int _ i] => 0 ≤ i ∧ (match rows[i.toNat]? with
    | some row => chk (hasLen row s) (K (.rptr row 0) h n)
    | Option.none => False)
  | .fldn off s, [.agg vs] => chk (atLeast vs (off + s)) (forceRow (sub vs off s) fun r => K (.agg r) h n)
  | .bld zero places, vs => chk (okvs h vs) (match fillRow zero places vs with | some row => forceRow row fun row => K (.agg row) h n | Option.none => False)
  | .bsl s, vs => chk (bslB s vs && Nat.ble (vs.length * s) 16777216) (lenK vs fun m => rowsK vs fun rows => K (.ref n 0 m) (h.set n (.arr s rows)) (n + 1))
  | .bslv s, vs => chk (clenB s vs && Nat.ble (vs.length * s) 16777216) (rowsK vs fun rows => match vs.all fun v => v.cells.all AV.free with
    | true => K (.val rows) h n
    | false => chk (okvs anyH vs) (K (.tmp rows) h n))
  | .mks s bytes zero, [.int _ l, .int _ c] => (0 ≤ l ∧ l ≤ c ∧ (bytes : Int) * c ≤ 140737488355328 ∧ c ≤ 140737488355328) ∧
      K (.ref n 0 l.toNat) (h.set n (.arr s (List.replicate l.toNat zero))) (n + 1)
  | .slc s lo hi, .ref id off len :: r => (match optArgs lo hi r len, h id with
    | some (a, b), some (.arr z _) => (0 ≤ a ∧ a ≤ b ∧ b ≤ len) ∧ chk (Nat.beq z s) (K (.ref id (off + a.toNat) (b - a).toNat) h n)
    | _, _ => False)
  | .slc s lo hi, .val rows :: r => (match optArgs lo hi r rows.length with
    | some (a, b) => (0 ≤ a ∧ a ≤ b ∧ b ≤ rows.length) ∧ (∀ r ∈ rows, r.length = s) ∧ K (.val (sub rows a.toNat (b - a).toNat)) h n
    | Option.none => False)
  | .sls lo hi, .str s :: r => (match optArgs lo hi r s.length with
    | some (a, b) => (0 ≤ a ∧ a ≤ b ∧ b ≤ s.length) ∧ K (.str (sub s a.toNat (b - a).toNat)) h n
    | Option.none => False)
  | .app s bytes, [.ref id off len, x] => chk (Nat.beq off 0) (match h id, rowsOf h x with
    | some (.arr z rows), some more => chk (Nat.beq z s) ((∀ r ∈ more, r.length = s) ∧ (len ≤ rows.length ∧ (len + more.length) * bytes ≤ 140737488355328 ∧
        len + more.length ≤ 140737488355328) ∧ K (.ref n 0 (len + more.length)) ((h.del id).set n (.arr s (rows.take len ++ more))) (n + 1))
    | some o, none => (match o.rowsX, x.rowsX with
      | some (z, rows), some more => chk (Nat.beq z s) ((∀ r ∈ more, r.length = s) ∧ (len ≤ rows.length ∧ (len + more.length) * bytes ≤ 140737488355328 ∧
        len + more.length ≤ 140737488355328) ∧ K (.ref n 0 (len + more.length)) ((h.del id).set n (.arx s (rows.take len ++ more))) (n + 1))
      | _, _ => False)
    | _, _ => False)
  | .app s bytes, [.snil, x] => (match rowsOf h x with
    | some more => (∀ r ∈ more, r.length = s) ∧ (more.length * bytes ≤ 140737488355328 ∧ more.length ≤ 140737488355328) ∧
        K (.ref n 0 more.length) (h.set n (.arr s more)) (n + 1)
    | Option.none => False)
  | .slc3 s, [.ref id off len, .int _ b, .int _ m] => (0 ≤ b ∧ b ≤ m ∧ m ≤ len) ∧ (match h id with
    | some (.arr z _) => chk (Nat.beq z s) (K (.ref id off b.toNat) h n)
    | _ => False)
  | .mlk st, [.mp id, k] => (match h id, keyOf st k with
    | some (.map st' es), some k => chk (st' == st) (K (.int .i64 (mget es k)) h n)
    | _, _ => False)
  | .mlo st, [.mp id, k] => (match h id, keyOf st k with
    | some (.map st' es), some k => chk (st' == st) (K (.tup [.int .i64 (mget es k), .bool (mhas es k)]) h n)
    | _, _ => False)
  | .mup st, [.mp id, k, .int .i64 v] => (match h id, keyOf st k with
    | some (.map st' es), some k => chk (st' == st) (K .undef (h.set id (.map st (mset es k v))) n)
    | _, _ => False)
  | .rng st, [.mp id] => (match h id with
    | some (.map st' es) => chk (st' == st) (K (.ptr n 0 0) ((h.del id).set n (.itr st none es)) (n + 1))
    | _ => False)
  | t, vs => sem t vs h n K
theorem semF_eq (tag : Tag) (vs : List AV) (h : Heap) (n : Nat) (K : Kont) : semF tag vs h n K = sem tag vs h n K := by
  unfold semF
  split
  all_goals simp only [sem, semBinF_eq, lenK_eq, rowsK_eq, forceRow_eq, chk_eq, Bool.and_eq_true, hasLen_iff, atLeast_iff, okcs_iff, okvs_iff, frees_iff, lones_iff, bsl_iff, clen_iff, Nat.beq_eq, Nat.ble_eq, and_assoc, beq_iff_eq]
  all_goals (repeat' (split <;> (try rfl)))
  all_goals first | rfl | grind
def opX2 (C : CallF) (o : IOper) (e : Env) (h : Heap) (n : Nat) (K : Kont) : Prop :=
  match o.tag with
  | .call f => C f (o.args.map (Opd.ev e)) h n K
  | .dyn => (match o.args.map (Opd.ev e) with
    | .fn f caps :: r => C f (r ++ caps) h n K
    | _ => False)
  | t => semF t (o.args.map (Opd.ev e)) h n K
theorem opX2_eq (C : CallF) (o : IOper) (e : Env) (h : Heap) (n : Nat) (K : Kont) : opX2 C o e h n K = opX C o e h n K := by
  unfold opX2 opX
  cases o.tag <;> first | rfl | exact semF_eq _ _ _ _ _
def opK2 (Γ : Ctx) (o : IOper) (e : Env) (h : Heap) (n : Nat) (K : Kont) : Prop :=
  match o.tag with
  | .nxt => nextK (o.args.map (Opd.ev e)) h n K
  | _ => opX2 (CK2 Γ) o e h n K
theorem opK2_eq (Γ : Ctx) (o : IOper) (e : Env) (h : Heap) (n : Nat) (K : Kont) : opK2 Γ o e h n K = opK Γ o e h n K := by
  unfold opK2 opK opN
  rw [CK2_eq]
  simp only [opX2_eq]
  cases o.tag <;> rfl
def opD2 (Γ : Ctx) (o : IOper) (e : Env) (h : Heap) (n : Nat) (K : Kont) : Prop := opX2 (CD Γ) o e h n K
theorem opD2_eq (Γ : Ctx) (o : IOper) (e : Env) (h : Heap) (n : Nat) (K : Kont) : opD2 Γ o e h n K = opD Γ o e h n K := opX2_eq _ _ _ _ _ _
def regK2 (Γ : Ctx) (l : List IOper) : Env → Heap → Nat → (Env → Heap → Nat → Prop) → Prop :=
  List.rec (motive := fun _ => Env → Heap → Nat → (Env → Heap → Nat → Prop) → Prop) (fun e h n K => K e h n)
    (fun o _ ih e h n K => guardK2 o e (opK2 Γ o e h n fun v h' n' => forceT o.tag v fun v => ih (e.updo o.dst v) h' n' K) (ih (e.updo o.dst .undef) h n K)) l
theorem regK2_eq (Γ : Ctx) : ∀ (l : List IOper) (e : Env) (h : Heap) (n : Nat) (K : Env → Heap → Nat → Prop), regK2 Γ l e h n K = regK Γ l e h n K
  | [], e, h, n, K => rfl
  | o :: r, e, h, n, K => by
    show guardK2 o e (opK2 Γ o e h n fun v h' n' => forceT o.tag v fun v => regK2 Γ r (e.updo o.dst v) h' n' K) (regK2 Γ r (e.updo o.dst .undef) h n K) = _
    simp only [regK, guardK2_eq, opK2_eq, regK2_eq Γ r, forceT_eq]
def drwK2 (Γ : Ctx) (l : List IOper) : Env → Heap → Nat → (Env → Heap → Nat → Prop) → Prop :=
  List.rec (motive := fun _ => Env → Heap → Nat → (Env → Heap → Nat → Prop) → Prop) (fun e h n K => K e h n)
    (fun o _ ih e h n K => guardK2 o e (opD2 Γ o e h n fun v h' n' => forceT o.tag v fun v => ih (e.updo o.dst v) h' n' K) (ih (e.updo o.dst .undef) h n K)) l
theorem drwK2_eq (Γ : Ctx) : ∀ (l : List IOper) (e : Env) (h : Heap) (n : Nat) (K : Env → Heap → Nat → Prop), drwK2 Γ l e h n K = drwK Γ l e h n K
  | [], e, h, n, K => rfl
  | o :: r, e, h, n, K => by
    show guardK2 o e (opD2 Γ o e h n fun v h' n' => forceT o.tag v fun v => drwK2 Γ r (e.updo o.dst v) h' n' K) (drwK2 Γ r (e.updo o.dst .undef) h n K) = _
    simp only [drwK, guardK2_eq, opD2_eq, drwK2_eq Γ r, forceT_eq]
def vc2 (P : Program) (N k : Nat) (Γ : Ctx) (ic : ICode) : XK → Env → Heap → Nat → Prop :=
  ICode.rec (motive := fun _ => XK → Env → Heap → Nat → Prop)
    (fun K e h n => K .normal e h n)
    (fun ios K e h n => regK2 Γ ios e h n (K .normal))
    (fun ios _ b1 _ K e h n => match b1 with
      | true => drwK2 Γ ios e h n (K .normal)
      | false => False)
    (fun _ _ va vb K e h n => va (thenK (vb K) K) e h n)
    (fun z _ _ vx vy K e h n => condK2 (z.ev e) (vx K e h n) (vy K e h n))
    (fun id _ vb K e h n => vb (blockK id K) e h n)
    (fun b _ K e h n => Lp P N k b K e h n)
    (fun id K e h n => K (.exit id) e h n)
    (fun K e h n => K .ret e h n) ic
theorem vc2_eq (P : Program) (N k : Nat) (Γ : Ctx) : ∀ (ic : ICode) (K : XK) (e : Env) (h : Heap) (n : Nat), vc2 P N k Γ ic K e h n = vc P N k Γ ic K e h n
  | .skip, _, _, _, _ => rfl
  | .reg ios, K, e, h, n => by show regK2 Γ ios e h n (K .normal) = _; simp only [vc, regK2_eq]
  | .drw ios us true b2, K, e, h, n => by show drwK2 Γ ios e h n (K .normal) = _; simp only [vc, drwK2_eq]
  | .drw ios us false b2, K, e, h, n => rfl
  | .seq a b, K, e, h, n => by
    have hb : vc2 P N k Γ b K = vc P N k Γ b K := by funext e h n; exact vc2_eq P N k Γ b K e h n
    show vc2 P N k Γ a (thenK (vc2 P N k Γ b K) K) e h n = _
    simp only [vc, hb, vc2_eq P N k Γ a]
  | .cond z x y, K, e, h, n => by
    show condK2 (z.ev e) (vc2 P N k Γ x K e h n) (vc2 P N k Γ y K e h n) = _
    simp only [vc, condK2_eq, vc2_eq P N k Γ x, vc2_eq P N k Γ y]
  | .block id b, K, e, h, n => by
    show vc2 P N k Γ b (blockK id K) e h n = _
    simp only [vc, vc2_eq P N k Γ b]
  | .loop b, _, _, _, _ => rfl
  | .exit id, _, _, _, _ => rfl
  | .ret, _, _, _, _ => rfl
theorem live_all {h : Heap} {l : List Nat} (hh : l.all (fun id => (h id).isSome) = true) : ∀ id ∈ l, (h id).isSome = true := by
  simpa using hh
theorem vc2_sound {P : Program} {N k : Nat} {Γ : Ctx} (hR : Rely P Γ) (ic : ICode) (K : XK) (e : Env) (h : Heap) (n : Nat) (hv : vc2 P N k Γ ic K e h n) : Aw P N k ic K e h n :=
  vc_sound hR ic K e h n (by rw [← vc2_eq]; exact hv)
end Go.Proofs.Ytpfbkblgefddlaa.Av
namespace Go.Proofs.Ytpfbkblgefddlaa.Ct
set_option linter.unusedSimpArgs false
set_option linter.unusedVariables false
open Go Go.Proofs Go.Proofs.Ytpfbkblgefddlaa.Av
theorem mixed : Try.prog.follows .mixedOrders = true := by kernel_rfl
def c_spec_l1In : ICode := (.seq (.reg [Ol 6 .mv [cb false]]) (.seq (.reg [O1 7 .mv 0, O1 8 .mv 1, O2 9 (.bin .geq) 7 8, O1 10 .mv 9, Og 11 .mv [.t 0] 10 true, Og 12 .mv [.t 2] 10 true, Og 13 (.bin .leq) [.t 11, .t 12] 10 true, Ol 14 .pick [.t 10, .t 13, cb false], O1 6 .mv 14]) .ret))
theorem b_spec_l1In : Body Try.prog 69 15 c_spec_l1In [(.t 6)] := body_mk Try.func69 (by kernel_rfl) (by decide)
def c_impl_inRange : ICode := (.seq (.reg [Ol 6 .mv [cb false]]) (.seq (.reg [O1 7 .mv 0, O1 8 .mv 1, O2 9 (.bin .geq) 7 8, O1 10 .mv 9, Og 11 .mv [.t 0] 10 true, Og 12 .mv [.t 2] 10 true, Og 13 (.bin .leq) [.t 11, .t 12] 10 true, Ol 14 .pick [.t 10, .t 13, cb false], O1 6 .mv 14]) .ret))
theorem b_impl_inRange : Body Try.prog 72 15 c_impl_inRange [(.t 6)] := body_mk Try.func72 (by kernel_rfl) (by decide)
def c_spec_l3Letters : ICode := (.seq (.reg [Ol 4 .mv [cb false]]) (.seq (.seq (.reg [Ol 5 .mv [ci 0]]) (.block 0 (.loop (.seq (.seq (.reg [O1 6 .mv 5, O1 7 .mv 0, O1 8 .len 7, O2 9 (.bin .lss) 6 8]) (.cond (.t 9) .skip (.exit 0))) (.seq (.block 1 (.seq (.reg [O1 12 .mv 0, O1 13 .mv 5, O2 14 (.iadr 1) 12 13, O1 15 .ld1 14, O1 16 .mv 1, Ol 17 (.bin .sub) [.t 16, ci 1], Ol 18 (.call 69) [.t 15, ci 0, .t 17], O1 19 .not 18]) (.cond (.t 19) (.seq (.reg [Ol 4 .mv [cb false]]) .ret) .skip))) (.reg [O1 10 .mv 5, Ol 11 (.bin .add) [.t 10, ci 1], O1 5 .mv 11])))))) (.seq (.reg [Ol 4 .mv [cb true]]) .ret)))
theorem b_spec_l3Letters : Body Try.prog 83 20 c_spec_l3Letters [(.t 4)] := body_mk Try.func83 (by kernel_rfl) (by decide)
def c_impl_areLetters : ICode := (.seq (.reg [Ol 4 .mv [cb false]]) (.seq (.seq (.reg [O1 7 .mv 0, O1 8 .len 7, Ol 9 .mv [ci 0]]) (.block 0 (.loop (.seq (.reg [O2 10 (.bin .lss) 9 8]) (.seq (.cond (.t 10) .skip (.exit 0)) (.seq (.block 1 (.seq (.reg [O2 11 (.iadr 1) 7 9, O1 12 .ld1 11, O1 6 .mv 12]) (.seq (.reg [O1 13 .mv 6, O1 14 .mv 1, Ol 15 (.bin .sub) [.t 14, ci 1], Ol 16 (.call 72) [.t 13, ci 0, .t 15], O1 17 .not 16]) (.cond (.t 17) (.seq (.reg [Ol 4 .mv [cb false]]) .ret) .skip)))) (.reg [Ol 18 (.bin .add) [.t 9, ci 1], O1 9 .mv 18]))))))) (.seq (.reg [Ol 4 .mv [cb true]]) .ret)))
theorem b_impl_areLetters : Body Try.prog 174 19 c_impl_areLetters [(.t 4)] := body_mk Try.func174 (by kernel_rfl) (by decide)
def c_impl_isLetters : ICode := (.seq (.reg [Ol 2 .mv [cb false]]) (.seq (.reg [O1 3 .mv 0, Ol 4 (.call 72) [.t 3, ci 1, ci 8], O1 2 .mv 4]) .ret))
theorem b_impl_isLetters : Body Try.prog 173 5 c_impl_isLetters [(.t 2)] := body_mk Try.func173 (by kernel_rfl) (by decide)
def c_spec_WordOk : ICode := (.seq (.reg [O1 2 (.box 2) 0, Ol 4 .mv [cb false]]) (.seq (.seq (.reg [O1 5 .mv 1, Ol 6 (.call 69) [.t 5, ci 1, ci 8], O1 7 .not 6, O1 8 .mv 7, Og 9 (.fadr 0) [.t 2] 8 false, Og 10 .ld1 [.t 9] 8 false, Og 11 .len [.t 10] 8 false, Og 12 (.bin .gtr) [.t 11, ci 40] 8 false, Ol 13 .pick [.t 8, cb true, .t 12], O1 14 .mv 13, Og 15 (.fadr 1) [.t 2] 14 false, Og 16 .ld1 [.t 15] 14 false, Og 17 .len [.t 16] 14 false, Og 18 (.call 69) [.t 17, ci 1, ci 40] 14 false, Og 19 .not [.t 18] 14 false, Ol 20 .pick [.t 14, cb true, .t 19]]) (.cond (.t 20) (.seq (.reg [Ol 4 .mv [cb false]]) .ret) .skip)) (.seq (.reg [O1 21 (.fadr 0) 2, O1 22 .ld1 21, O1 23 .mv 1, O2 24 (.call 83) 22 23, O1 25 .mv 24, Og 26 (.fadr 1) [.t 2] 25 true, Og 27 .ld1 [.t 26] 25 true, Og 28 .mv [.t 1] 25 true, Og 29 (.call 83) [.t 27, .t 28] 25 true, Ol 30 .pick [.t 25, .t 29, cb false], O1 4 .mv 30]) .ret)))
theorem b_spec_WordOk : Body Try.prog 29 31 c_spec_WordOk [(.t 4)] := body_mk Try.func29 (by kernel_rfl) (by decide)
def c_impl_WordOk : ICode := (.seq (.reg [O1 2 (.box 2) 0, Ol 4 .mv [cb false]]) (.seq (.seq (.reg [O1 5 .mv 1, O1 6 (.call 173) 5, O1 7 .not 6, O1 8 .mv 7, Og 9 (.fadr 0) [.t 2] 8 false, Og 10 .ld1 [.t 9] 8 false, Og 11 .len [.t 10] 8 false, Og 12 (.bin .gtr) [.t 11, ci 40] 8 false, Ol 13 .pick [.t 8, cb true, .t 12], O1 14 .mv 13, Og 15 (.fadr 1) [.t 2] 14 false, Og 16 .ld1 [.t 15] 14 false, Og 17 .len [.t 16] 14 false, Og 18 (.call 72) [.t 17, ci 1, ci 40] 14 false, Og 19 .not [.t 18] 14 false, Ol 20 .pick [.t 14, cb true, .t 19]]) (.cond (.t 20) (.seq (.reg [Ol 4 .mv [cb false]]) .ret) .skip)) (.seq (.reg [O1 21 (.fadr 0) 2, O1 22 .ld1 21, O1 23 .mv 1, O2 24 (.call 174) 22 23, O1 25 .mv 24, Og 26 (.fadr 1) [.t 2] 25 true, Og 27 .ld1 [.t 26] 25 true, Og 28 .mv [.t 1] 25 true, Og 29 (.call 174) [.t 27, .t 28] 25 true, Ol 30 .pick [.t 25, .t 29, cb false], O1 4 .mv 30]) .ret)))
theorem b_impl_WordOk : Body Try.prog 123 31 c_impl_WordOk [(.t 4)] := body_mk Try.func123 (by kernel_rfl) (by decide)
def c_spec_l3Right : ICode := (.seq (.reg [O1 1 (.box 2) 0, Ol 2 .mv [cb false]]) (.seq (.reg [O1 3 (.ldn 2) 1, Ol 4 (.call 29) [.t 3, ci 8], O1 2 .mv 4]) .ret))
theorem b_spec_l3Right : Body Try.prog 62 5 c_spec_l3Right [(.t 2)] := body_mk Try.func62 (by kernel_rfl) (by decide)
def c_impl_isRight : ICode := (.seq (.reg [O1 1 (.box 2) 0, Ol 2 .mv [cb false]]) (.seq (.reg [O1 3 (.ldn 2) 1, Ol 4 (.call 123) [.t 3, ci 8], O1 2 .mv 4]) .ret))
theorem b_impl_isRight : Body Try.prog 65 5 c_impl_isRight [(.t 2)] := body_mk Try.func65 (by kernel_rfl) (by decide)
def RIn (xs : List AV) (r : AV) (objs : List AObj) : Prop := ∃ a b c, xs = [.int .i64 a, .int .i64 b, .int .i64 c] ∧ r = .bool (decide (b ≤ a ∧ a ≤ c)) ∧ objs = []
theorem RIn_mk {a b c : Int} : RIn [.int .i64 a, .int .i64 b, .int .i64 c] (.bool (decide (b ≤ a ∧ a ≤ c))) [] := ⟨a, b, c, rfl, rfl, rfl⟩
theorem s_spec_l1In : PureSound Try.prog 69 RIn := by
  have hR : Rely Try.prog (ctxOf []) := rely_nil mixed
  refine pure_of_aw b_spec_l1In ?_
  rintro xs r objs ⟨a, b, c, rfl, rfl, rfl⟩ hb
  refine ⟨by simp, vc2_sound hR _ _ _ _ _ ?_⟩
  conv => whnf
  repeat' ((first | contradiction | (refine And.intro (fun hb => ?_) (fun hb => ?_) <;> first | contradiction | ((try simp only [SB, reduceCtorEq] at hb); try (exfalso; first | contradiction | omega))) | refine G2 ?_ | rw [ints_at (by omega)] | rw [ints_at0 (by omega)] | rw [ints_at' (by omega) (by omega)] | refine G1 ?_ | fail) <;> conv => whnf)
  all_goals
    refine ⟨.inl rfl, ?_⟩
    conv => whnf
    refine ⟨[], ⟨rfl, trivial⟩, ?_, rfl, rfl⟩
    conv => whnf
    left
    conv => lhs; whnf
    refine congrArg AV.bool ?_
    simp_all
  all_goals omega
theorem s_impl_inRange : PureSound Try.prog 72 RIn := by
  have hR : Rely Try.prog (ctxOf []) := rely_nil mixed
  refine pure_of_aw b_impl_inRange ?_
  rintro xs r objs ⟨a, b, c, rfl, rfl, rfl⟩ hb
  refine ⟨by simp, vc2_sound hR _ _ _ _ _ ?_⟩
  conv => whnf
  repeat' ((first | contradiction | (refine And.intro (fun hb => ?_) (fun hb => ?_) <;> first | contradiction | ((try simp only [SB, reduceCtorEq] at hb); try (exfalso; first | contradiction | omega))) | refine G2 ?_ | rw [ints_at (by omega)] | rw [ints_at0 (by omega)] | rw [ints_at' (by omega) (by omega)] | refine G1 ?_ | fail) <;> conv => whnf)
  all_goals
    refine ⟨.inl rfl, ?_⟩
    conv => whnf
    refine ⟨[], ⟨rfl, trivial⟩, ?_, rfl, rfl⟩
    conv => whnf
    left
    conv => lhs; whnf
    refine congrArg AV.bool ?_
    simp_all
  all_goals omega
def lettersB (l : List Int) (n : Int) : Bool := l.all fun x => decide (0 ≤ x ∧ x ≤ n - 1)
def RLetters (xs : List AV) (r : AV) (objs : List AObj) : Prop := ∃ l n, xs = [.val (ints l), .int .i64 n] ∧ -1000 ≤ n ∧ n ≤ 1000 ∧ r = .bool (lettersB l n) ∧ objs = []
theorem RLetters_mk {l : List Int} {n : Int} (h1 : -1000 ≤ n) (h2 : n ≤ 1000) : RLetters [.val (ints l), .int .i64 n] (.bool (lettersB l n)) [] := ⟨l, n, rfl, h1, h2, rfl, rfl⟩
theorem lettersB_of {l : List Int} {n : Int} {i : Nat} (hall : ∀ j, j < i → j < l.length → 0 ≤ l.getD j 0 ∧ l.getD j 0 ≤ n - 1) (hi : ¬ i < l.length) : lettersB l n = true := by
  simp only [lettersB, List.all_eq_true, decide_eq_true_eq]
  intro x hx
  obtain ⟨j, hj, rfl⟩ := List.getElem_of_mem hx
  have := hall j (by omega) hj
  simpa [List.getD_eq_getElem?_getD, List.getElem?_eq_getElem hj] using this
theorem lettersB_not {l : List Int} {n : Int} {i : Nat} (hi : i < l.length) (h : ¬ (0 ≤ l.getD i 0 ∧ l.getD i 0 ≤ n - 1)) : lettersB l n = false := by
  rw [Bool.eq_false_iff]
  intro ht
  simp only [lettersB, List.all_eq_true, decide_eq_true_eq] at ht
  refine h ?_
  have := ht _ (List.getElem_mem hi)
  simpa [List.getD_eq_getElem?_getD, List.getElem?_eq_getElem hi] using this
theorem s_spec_l3Letters : PureSound Try.prog 83 RLetters := by
  have hR : Rely Try.prog (ctxOf [(69, .pure RIn)]) := rely_cons b_spec_l1In.has s_spec_l1In (rely_nil mixed)
  refine pure_of_aw b_spec_l3Letters ?_
  rintro xs r objs ⟨l, n, rfl, hn1, hn2, rfl, rfl⟩ ⟨w, own, vs, hrel⟩
  have hl : l.length ≤ 9223372036854775807 := by
    obtain ⟨v, hv⟩ := rels_at hrel (i := 0) rfl
    simpa [length_ints] using rel_len hv
  clear hrel
  refine ⟨by simp, vc2_sound hR _ _ _ _ _ ?_⟩
  conv => whnf
  refine Lp.intro (α := Nat) (fun i => i ≤ l.length ∧ ∀ j, j < i → j < l.length → 0 ≤ l.getD j 0 ∧ l.getD j 0 ≤ n - 1) (fun i => l.length - i) (fun i => [(0, .val (ints l)), (1, .int .i64 n), (5, .int .i64 i)]) (fun _ => []) ?_ ?_
  · refine ⟨0, ⟨by omega, by omega⟩, [], rfl, rfl, trivial, ?_⟩
    repeat' (first
      | exact trivial
      | refine ⟨?_, ?_⟩
      | fail)
    all_goals first
      | with_reducible rfl
      | (conv => whnf
         try left
         conv => lhs; whnf
         first
           | rfl
           | exact congrArg (AV.int .i64) (by omega)
           | skip)
  · rintro i ⟨hi, hall⟩
    refine vc2_sound hR _ _ _ _ _ ?_
    conv => whnf
    repeat' ((first | contradiction | (refine And.intro (fun hb => ?_) (fun hb => ?_) <;> first | contradiction | ((try simp only [SB, reduceCtorEq] at hb); try (exfalso; first | contradiction | omega))) | refine G2 ?_ | rw [ints_at (by omega)] | rw [ints_at0 (by omega)] | rw [ints_at' (by omega) (by omega)] | refine G1 ?_ | refine ⟨_, _, RIn_mk, ?_⟩ | fail) <;> conv => whnf)
    · refine ⟨i + 1, ⟨by omega, fun j hj hl => ?_⟩, by omega, [], rfl, rfl, trivial, ?_⟩
      · by_cases hji : j = i
        · subst hji; exact hb
        · exact hall j (by omega) hl
      · repeat' (first
          | exact trivial
          | refine ⟨?_, ?_⟩
          | fail)
        all_goals first
          | with_reducible rfl
          | (conv => whnf
             try left
             conv => lhs; whnf
             first
               | rfl
               | exact congrArg (AV.int .i64) (by omega)
               | skip)
    · refine ⟨.inl rfl, ?_⟩
      conv => whnf
      refine ⟨[], ⟨rfl, trivial⟩, ?_, rfl, rfl⟩
      conv => whnf
      left
      conv => lhs; whnf
      exact congrArg AV.bool (lettersB_not (by omega) hb).symm
    · refine ⟨.inl rfl, ?_⟩
      conv => whnf
      refine ⟨[], ⟨rfl, trivial⟩, ?_, rfl, rfl⟩
      conv => whnf
      left
      conv => lhs; whnf
      exact congrArg AV.bool (lettersB_of hall (by omega)).symm
theorem s_impl_areLetters : PureSound Try.prog 174 RLetters := by
  have hR : Rely Try.prog (ctxOf [(72, .pure RIn)]) := rely_cons b_impl_inRange.has s_impl_inRange (rely_nil mixed)
  refine pure_of_aw b_impl_areLetters ?_
  rintro xs r objs ⟨l, n, rfl, hn1, hn2, rfl, rfl⟩ ⟨w, own, vs, hrel⟩
  have hl : l.length ≤ 9223372036854775807 := by
    obtain ⟨v, hv⟩ := rels_at hrel (i := 0) rfl
    simpa [length_ints] using rel_len hv
  clear hrel
  refine ⟨by simp, vc2_sound hR _ _ _ _ _ ?_⟩
  conv => whnf
  refine Lp.intro (α := Nat) (fun i => i ≤ l.length ∧ ∀ j, j < i → j < l.length → 0 ≤ l.getD j 0 ∧ l.getD j 0 ≤ n - 1) (fun i => l.length - i) (fun i => [(1, .int .i64 n), (7, .val (ints l)), (8, .int .i64 (ints l).length), (9, .int .i64 i)]) (fun _ => []) ?_ ?_
  · refine ⟨0, ⟨by omega, by omega⟩, [], rfl, rfl, trivial, ?_⟩
    repeat' (first
      | exact trivial
      | refine ⟨?_, ?_⟩
      | fail)
    all_goals first
      | with_reducible rfl
      | (conv => whnf
         try left
         conv => lhs; whnf
         first
           | rfl
           | exact congrArg (AV.int .i64) (by omega)
           | skip)
  · rintro i ⟨hi, hall⟩
    refine vc2_sound hR _ _ _ _ _ ?_
    conv => whnf
    repeat' ((first | contradiction | (refine And.intro (fun hb => ?_) (fun hb => ?_) <;> first | contradiction | ((try simp only [SB, reduceCtorEq] at hb); try (exfalso; first | contradiction | omega))) | refine G2 ?_ | rw [ints_at (by omega)] | rw [ints_at0 (by omega)] | rw [ints_at' (by omega) (by omega)] | refine G1 ?_ | refine ⟨_, _, RIn_mk, ?_⟩ | fail) <;> conv => whnf)
    · refine ⟨i + 1, ⟨by omega, fun j hj hl => ?_⟩, by omega, [], rfl, rfl, trivial, ?_⟩
      · by_cases hji : j = i
        · subst hji; exact hb
        · exact hall j (by omega) hl
      · repeat' (first
          | exact trivial
          | refine ⟨?_, ?_⟩
          | fail)
        all_goals first
          | with_reducible rfl
          | (conv => whnf
             try left
             conv => lhs; whnf
             first
               | rfl
               | exact congrArg (AV.int .i64) (by omega)
               | skip)
    · refine ⟨.inl rfl, ?_⟩
      conv => whnf
      refine ⟨[], ⟨rfl, trivial⟩, ?_, rfl, rfl⟩
      conv => whnf
      left
      conv => lhs; whnf
      exact congrArg AV.bool (lettersB_not (by omega) hb).symm
    · refine ⟨.inl rfl, ?_⟩
      conv => whnf
      refine ⟨[], ⟨rfl, trivial⟩, ?_, rfl, rfl⟩
      conv => whnf
      left
      conv => lhs; whnf
      exact congrArg AV.bool (lettersB_of hall (by omega)).symm
def RIsLetters (xs : List AV) (r : AV) (objs : List AObj) : Prop := ∃ n, xs = [.int .i64 n] ∧ r = .bool (decide (1 ≤ n ∧ n ≤ 8)) ∧ objs = []
theorem RIsLetters_mk {n : Int} : RIsLetters [.int .i64 n] (.bool (decide (1 ≤ n ∧ n ≤ 8))) [] := ⟨n, rfl, rfl, rfl⟩
theorem s_impl_isLetters : PureSound Try.prog 173 RIsLetters := by
  have hR : Rely Try.prog (ctxOf [(72, .pure RIn)]) := rely_cons b_impl_inRange.has s_impl_inRange (rely_nil mixed)
  refine pure_of_aw b_impl_isLetters ?_
  rintro xs r objs ⟨n, rfl, rfl, rfl⟩ -
  refine ⟨by simp, vc2_sound hR _ _ _ _ _ ?_⟩
  conv => whnf
  repeat' ((first | contradiction | (refine And.intro (fun hb => ?_) (fun hb => ?_) <;> first | contradiction | ((try simp only [SB, reduceCtorEq] at hb); try (exfalso; first | contradiction | omega))) | refine G2 ?_ | rw [ints_at (by omega)] | rw [ints_at0 (by omega)] | rw [ints_at' (by omega) (by omega)] | refine G1 ?_ | refine ⟨_, _, RIn_mk, ?_⟩ | fail) <;> conv => whnf)
  all_goals
    refine ⟨.inl rfl, ?_⟩
    conv => whnf
    refine ⟨[], ⟨rfl, trivial⟩, ?_, rfl, rfl⟩
    conv => whnf
    left
    conv => lhs; whnf
    try exact congrArg AV.bool (by simp_all)
abbrev word (s l : List Int) : AV := .agg [.val (ints s), .val (ints l)]
def wordOk (s l : List Int) (n : Int) : Bool := decide (1 ≤ n ∧ n ≤ 8) && decide (s.length ≤ 40) && decide (1 ≤ l.length ∧ l.length ≤ 40) && lettersB s n && lettersB l n
def RWordOk (xs : List AV) (r : AV) (objs : List AObj) : Prop := ∃ s l n, xs = [word s l, .int .i64 n] ∧ r = .bool (wordOk s l n) ∧ objs = []
theorem RWordOk_mk {s l : List Int} {n : Int} : RWordOk [word s l, .int .i64 n] (.bool (wordOk s l n)) [] := ⟨s, l, n, rfl, rfl, rfl⟩
theorem s_spec_WordOk : PureSound Try.prog 29 RWordOk := by
  have hR : Rely Try.prog (ctxOf [(69, .pure RIn), (83, .pure RLetters)]) := rely_cons b_spec_l1In.has s_spec_l1In (rely_cons b_spec_l3Letters.has s_spec_l3Letters (rely_nil mixed))
  refine pure_of_aw b_spec_WordOk ?_
  rintro xs r objs ⟨s, l, n, rfl, rfl, rfl⟩ -
  refine ⟨by simp, vc2_sound hR _ _ _ _ _ ?_⟩
  conv => whnf
  repeat' ((first | contradiction | (refine And.intro (fun hb => ?_) (fun hb => ?_) <;> first | contradiction | ((try simp only [SB, reduceCtorEq] at hb); try (exfalso; first | contradiction | omega))) | refine G2 ?_ | rw [ints_at (by omega)] | rw [ints_at0 (by omega)] | rw [ints_at' (by omega) (by omega)] | refine G1 ?_ | refine ⟨_, _, RIn_mk, ?_⟩ | refine ⟨_, _, RLetters_mk (by omega) (by omega), ?_⟩ | fail) <;> conv => whnf)
  all_goals
    refine ⟨.inl rfl, ?_⟩
    conv => whnf
    refine ⟨[], ⟨rfl, trivial⟩, ?_, rfl, rfl⟩
    conv => whnf
    left
    conv => lhs; whnf
    refine congrArg AV.bool ?_
    simp_all [wordOk]
  all_goals omega
theorem s_impl_WordOk : PureSound Try.prog 123 RWordOk := by
  have hR : Rely Try.prog (ctxOf [(72, .pure RIn), (174, .pure RLetters), (173, .pure RIsLetters)]) :=
    rely_cons b_impl_inRange.has s_impl_inRange (rely_cons b_impl_areLetters.has s_impl_areLetters (rely_cons b_impl_isLetters.has s_impl_isLetters (rely_nil mixed)))
  refine pure_of_aw b_impl_WordOk ?_
  rintro xs r objs ⟨s, l, n, rfl, rfl, rfl⟩ -
  refine ⟨by simp, vc2_sound hR _ _ _ _ _ ?_⟩
  conv => whnf
  repeat' ((first | contradiction | (refine And.intro (fun hb => ?_) (fun hb => ?_) <;> first | contradiction | ((try simp only [SB, reduceCtorEq] at hb); try (exfalso; first | contradiction | omega))) | refine G2 ?_ | rw [ints_at (by omega)] | rw [ints_at0 (by omega)] | rw [ints_at' (by omega) (by omega)] | refine G1 ?_ | refine ⟨_, _, RIn_mk, ?_⟩ | refine ⟨_, _, RLetters_mk (by omega) (by omega), ?_⟩ | refine ⟨_, _, RIsLetters_mk, ?_⟩ | fail) <;> conv => whnf)
  all_goals
    refine ⟨.inl rfl, ?_⟩
    conv => whnf
    refine ⟨[], ⟨rfl, trivial⟩, ?_, rfl, rfl⟩
    conv => whnf
    left
    conv => lhs; whnf
    refine congrArg AV.bool ?_
    simp_all [wordOk]
  all_goals omega
def RRight (xs : List AV) (r : AV) (objs : List AObj) : Prop := ∃ s l, xs = [word s l] ∧ r = .bool (wordOk s l 8) ∧ objs = []
theorem RRight_mk {s l : List Int} : RRight [word s l] (.bool (wordOk s l 8)) [] := ⟨s, l, rfl, rfl, rfl⟩
theorem s_spec_l3Right : PureSound Try.prog 62 RRight := by
  have hR : Rely Try.prog (ctxOf [(29, .pure RWordOk)]) := rely_cons b_spec_WordOk.has s_spec_WordOk (rely_nil mixed)
  refine pure_of_aw b_spec_l3Right ?_
  rintro xs r objs ⟨s, l, rfl, rfl, rfl⟩ -
  refine ⟨by simp, vc2_sound hR _ _ _ _ _ ?_⟩
  conv => whnf
  repeat' ((first | contradiction | (refine And.intro (fun hb => ?_) (fun hb => ?_) <;> first | contradiction | ((try simp only [SB, reduceCtorEq] at hb); try (exfalso; first | contradiction | omega))) | refine G2 ?_ | rw [ints_at (by omega)] | rw [ints_at0 (by omega)] | rw [ints_at' (by omega) (by omega)] | refine G1 ?_ | refine ⟨_, _, RWordOk_mk, ?_⟩ | fail) <;> conv => whnf)
  all_goals
    refine ⟨.inl rfl, ?_⟩
    conv => whnf
    refine ⟨[], ⟨rfl, trivial⟩, ?_, rfl, rfl⟩
    conv => whnf
    left
    conv => lhs; whnf
    try exact congrArg AV.bool (by simp_all)
theorem s_impl_isRight : PureSound Try.prog 65 RRight := by
  have hR : Rely Try.prog (ctxOf [(123, .pure RWordOk)]) := rely_cons b_impl_WordOk.has s_impl_WordOk (rely_nil mixed)
  refine pure_of_aw b_impl_isRight ?_
  rintro xs r objs ⟨s, l, rfl, rfl, rfl⟩ -
  refine ⟨by simp, vc2_sound hR _ _ _ _ _ ?_⟩
  conv => whnf
  repeat' ((first | contradiction | (refine And.intro (fun hb => ?_) (fun hb => ?_) <;> first | contradiction | ((try simp only [SB, reduceCtorEq] at hb); try (exfalso; first | contradiction | omega))) | refine G2 ?_ | rw [ints_at (by omega)] | rw [ints_at0 (by omega)] | rw [ints_at' (by omega) (by omega)] | refine G1 ?_ | refine ⟨_, _, RWordOk_mk, ?_⟩ | fail) <;> conv => whnf)
  all_goals
    refine ⟨.inl rfl, ?_⟩
    conv => whnf
    refine ⟨[], ⟨rfl, trivial⟩, ?_, rfl, rfl⟩
    conv => whnf
    left
    conv => lhs; whnf
    try exact congrArg AV.bool (by simp_all)
end Go.Proofs.Ytpfbkblgefddlaa.Ct
namespace Go.Proofs.Ytpfbkblgefddlaa.Ct
set_option linter.unusedSimpArgs false
set_option linter.unusedVariables false
open Go Go.Proofs Go.Proofs.Ytpfbkblgefddlaa.Av
def c_laws_eqIntS : ICode := (.seq (.reg [Ol 4 .mv [cb false]]) (.seq (.seq (.reg [O1 6 .mv 0, O1 7 .len 6, O1 8 .mv 1, O1 9 .len 8, O2 10 (.bin .neq) 7 9]) (.cond (.t 10) (.seq (.reg [Ol 4 .mv [cb false]]) .ret) .skip)) (.seq (.seq (.reg [Ol 5 .mv [ci 0]]) (.block 0 (.loop (.seq (.seq (.reg [O1 11 .mv 5, O1 12 .mv 0, O1 13 .len 12, O2 14 (.bin .lss) 11 13]) (.cond (.t 14) .skip (.exit 0))) (.seq (.block 1 (.seq (.drw [O1 17 .mv 0, O1 18 .mv 5, O2 19 (.iadr 1) 17 18, O1 20 .ld1 19, O1 21 .mv 1, O1 22 .mv 5, O2 23 (.iadr 1) 21 22, O1 24 .ld1 23, O2 25 (.bin .neq) 20 24] (unB [0, 0, 3, 7, 0, 0, 48, 112, 255] 0) true true) (.cond (.t 25) (.seq (.reg [Ol 4 .mv [cb false]]) .ret) .skip))) (.reg [O1 15 .mv 5, Ol 16 (.bin .add) [.t 15, ci 1], O1 5 .mv 16])))))) (.seq (.reg [Ol 4 .mv [cb true]]) .ret))))
theorem b_laws_eqIntS : Body Try.prog 67 26 c_laws_eqIntS [(.t 4)] := body_mk Try.func67 (by kernel_rfl) (by decide)
def c_laws_eqWord : ICode := (.seq (.reg [O1 2 (.box 2) 0, O1 3 (.box 2) 1, Ol 4 .mv [cb false]]) (.seq (.seq (.reg [O1 5 (.fadr 0) 2, O1 6 .ld1 5, O1 7 (.fadr 0) 3, O1 8 .ld1 7, O2 9 (.call 67) 6 8, O1 10 .not 9]) (.cond (.t 10) (.seq (.reg [Ol 4 .mv [cb false]]) .ret) .skip)) (.seq (.seq (.reg [O1 11 (.fadr 1) 2, O1 12 .ld1 11, O1 13 (.fadr 1) 3, O1 14 .ld1 13, O2 15 (.call 67) 12 14, O1 16 .not 15]) (.cond (.t 16) (.seq (.reg [Ol 4 .mv [cb false]]) .ret) .skip)) (.seq (.reg [Ol 4 .mv [cb true]]) .ret))))
theorem b_laws_eqWord : Body Try.prog 17 17 c_laws_eqWord [(.t 4)] := body_mk Try.func17 (by kernel_rfl) (by decide)
def REqIntS (xs : List AV) (r : AV) (objs : List AObj) : Prop := ∃ a b, xs = [.val (ints a), .val (ints b)] ∧ r = .bool (decide (a = b)) ∧ objs = []
theorem REqIntS_eq {xs : List AV} {a b : List Int} (h : xs = [.val (ints a), .val (ints b)]) : REqIntS xs (.bool (decide (a = b))) [] := ⟨a, b, h, rfl, rfl⟩
theorem eq_of_getD {a b : List Int} (h : a.length = b.length) (hj : ∀ j, j < a.length → a.getD j 0 = b.getD j 0) : a = b := by
  apply List.ext_getElem h
  intro i h1 h2
  have := hj i h1
  simpa [List.getD_eq_getElem?_getD, List.getElem?_eq_getElem h1, List.getElem?_eq_getElem h2] using this
theorem s_laws_eqIntS : PureSound Try.prog 67 REqIntS := by
  have hR : Rely Try.prog (ctxOf []) := rely_nil mixed
  refine pure_of_aw b_laws_eqIntS ?_
  rintro xs r objs ⟨a, b, rfl, rfl, rfl⟩ ⟨w, own, vs, hrel⟩
  have hl : (ints a).length ≤ 9223372036854775807 := by
    obtain ⟨v, hv⟩ := rels_at hrel (i := 0) rfl
    exact rel_len hv
  rw [length_ints] at hl
  clear hrel
  refine ⟨by simp, vc2_sound hR _ _ _ _ _ ?_⟩
  conv => whnf
  repeat' ((first | contradiction | (refine And.intro (fun hb => ?_) (fun hb => ?_) <;> first | contradiction | ((try simp only [SB, reduceCtorEq] at hb); try (exfalso; first | contradiction | omega))) | refine G2 ?_ | rw [ints_at (by omega)] | rw [ints_at0 (by omega)] | rw [ints_at' (by omega) (by omega)] | refine G1 ?_ | fail) <;> conv => whnf)
  · refine ⟨.inl rfl, ?_⟩
    conv => whnf
    refine ⟨[], ⟨rfl, trivial⟩, ?_, rfl, rfl⟩
    conv => whnf
    left
    conv => lhs; whnf
    refine congrArg AV.bool (Eq.symm (decide_eq_false ?_))
    intro h; subst h; exact hb rfl
  · refine Lp.intro (α := Nat) (fun i => i ≤ a.length ∧ ∀ j, j < i → a.getD j 0 = b.getD j 0) (fun i => a.length - i) (fun i => [(0, .val (ints a)), (1, .val (ints b)), (5, .int .i64 i)]) (fun _ => []) ?_ ?_
    · refine ⟨0, ⟨by omega, by omega⟩, [], rfl, rfl, trivial, ?_⟩
      repeat' (first
        | exact trivial
        | refine ⟨?_, ?_⟩
        | fail)
      all_goals first
        | with_reducible rfl
        | (conv => whnf
           try left
           conv => lhs; whnf
           first
             | rfl
             | exact congrArg (AV.int .i64) (by omega)
             | skip)
    · rintro i ⟨hi, hall⟩
      refine vc2_sound hR _ _ _ _ _ ?_
      conv => whnf
      repeat' ((first | contradiction | (refine And.intro (fun hb => ?_) (fun hb => ?_) <;> first | contradiction | ((try simp only [SB, reduceCtorEq] at hb); try (exfalso; first | contradiction | omega))) | refine G2 ?_ | rw [ints_at (by omega)] | rw [ints_at0 (by omega)] | rw [ints_at' (by omega) (by omega)] | refine G1 ?_ | fail) <;> conv => whnf)
      · refine ⟨.inl rfl, ?_⟩
        conv => whnf
        refine ⟨[], ⟨rfl, trivial⟩, ?_, rfl, rfl⟩
        conv => whnf
        left
        conv => lhs; whnf
        refine congrArg AV.bool (Eq.symm (decide_eq_false ?_))
        intro h; subst h; exact hb rfl
      · refine ⟨i + 1, ⟨by omega, fun j hj => ?_⟩, by omega, [], rfl, rfl, trivial, ?_⟩
        · by_cases hji : j = i
          · subst hji; exact hb
          · exact hall j (by omega)
        · repeat' (first
            | exact trivial
            | refine ⟨?_, ?_⟩
            | fail)
          all_goals first
            | with_reducible rfl
            | (conv => whnf
               try left
               conv => lhs; whnf
               first
                 | rfl
                 | exact congrArg (AV.int .i64) (by omega)
                 | skip)
      · refine ⟨.inl rfl, ?_⟩
        conv => whnf
        refine ⟨[], ⟨rfl, trivial⟩, ?_, rfl, rfl⟩
        conv => whnf
        left
        conv => lhs; whnf
        refine congrArg AV.bool (Eq.symm (decide_eq_true ?_))
        exact eq_of_getD (by omega) (fun j hj => hall j (by omega))
def REqWord (xs : List AV) (r : AV) (objs : List AObj) : Prop := ∃ s l s' l', xs = [word s l, word s' l'] ∧ r = .bool (decide (s = s') && decide (l = l')) ∧ objs = []
theorem REqWord_eq {xs : List AV} {s l s' l' : List Int} (h : xs = [word s l, word s' l']) : REqWord xs (.bool (decide (s = s') && decide (l = l'))) [] := ⟨s, l, s', l', h, rfl, rfl⟩
theorem s_laws_eqWord : PureSound Try.prog 17 REqWord := by
  have hR : Rely Try.prog (ctxOf [(67, .pure REqIntS)]) := rely_cons b_laws_eqIntS.has s_laws_eqIntS (rely_nil mixed)
  refine pure_of_aw b_laws_eqWord ?_
  rintro xs r objs ⟨s, l, s', l', rfl, rfl, rfl⟩ -
  refine ⟨by simp, vc2_sound hR _ _ _ _ _ ?_⟩
  conv => whnf
  repeat' ((first | contradiction | (refine And.intro (fun hb => ?_) (fun hb => ?_) <;> first | contradiction | ((try simp only [SB, reduceCtorEq] at hb); try (exfalso; first | contradiction | omega))) | refine G2 ?_ | rw [ints_at (by omega)] | rw [ints_at0 (by omega)] | rw [ints_at' (by omega) (by omega)] | refine G1 ?_ | refine ⟨_, _, REqIntS_eq rfl, ?_⟩ | fail) <;> conv => whnf)
  all_goals
    refine ⟨.inl rfl, ?_⟩
    conv => whnf
    refine ⟨[], ⟨rfl, trivial⟩, ?_, rfl, rfl⟩
    conv => whnf
    left
    conv => lhs; whnf
    refine congrArg AV.bool ?_
    simp_all
end Go.Proofs.Ytpfbkblgefddlaa.Ct
namespace Go.Proofs.Ytpfbkblgefddlaa.Ct
set_option linter.unusedSimpArgs false
set_option linter.unusedVariables false
open Go Go.Proofs Go.Proofs.Ytpfbkblgefddlaa.Av
structure EdgeD where
  src : Int
  letter : Int
  dst : Int
  mark : Bool
  deriving Inhabited, DecidableEq
structure AutoD where
  letters : Int
  states : Int
  start : Int
  edges : List EdgeD
  deriving Inhabited, DecidableEq
structure NamedD where
  name : Int
  auto : AutoD
  deriving Inhabited, DecidableEq
def edgeRow (x : EdgeD) : List AV := [.int .i64 x.src, .int .i64 x.letter, .int .i64 x.dst, .bool x.mark]
def edgeRows (l : List EdgeD) : List (List AV) := l.map edgeRow
def autoRow (a : AutoD) : List AV := [.int .i64 a.letters, .int .i64 a.states, .int .i64 a.start, .val (edgeRows a.edges)]
def namedRow (x : NamedD) : List AV := [.int .i64 x.name, .int .i64 x.auto.letters, .int .i64 x.auto.states, .int .i64 x.auto.start, .val (edgeRows x.auto.edges)]
def namedRows (l : List NamedD) : List (List AV) := l.map namedRow
def c_laws_szEdgeS : ICode := (.seq (.reg [Ol 4 .mv [ci 0]]) (.seq (.reg [O1 5 .mv 1, O1 6 .mv 0, O1 7 .len 6, O2 8 (.bin .sub) 5 7, O1 1 .mv 8]) (.seq (.seq (.reg [O1 9 .mv 1, Ol 10 (.bin .lss) [.t 9, ci 0]]) (.cond (.t 10) (.seq (.reg [Ol 4 .mv [ci (-1)]]) .ret) .skip)) (.seq (.reg [O1 11 .mv 1, O1 4 .mv 11]) .ret))))
theorem b_laws_szEdgeS : Body Try.prog 108 12 c_laws_szEdgeS [(.t 4)] := body_mk Try.func108 (by kernel_rfl) (by decide)
def c_laws_szAuto : ICode := (.seq (.reg [O1 2 (.box 4) 0, Ol 4 .mv [ci 0]]) (.seq (.reg [O1 5 (.fadr 3) 2, O1 6 .ld1 5, O1 7 .mv 1, O2 8 (.call 108) 6 7, O1 1 .mv 8]) (.seq (.seq (.reg [O1 9 .mv 1, Ol 10 (.bin .lss) [.t 9, ci 0]]) (.cond (.t 10) (.seq (.reg [Ol 4 .mv [ci (-1)]]) .ret) .skip)) (.seq (.reg [O1 11 .mv 1, O1 4 .mv 11]) .ret))))
theorem b_laws_szAuto : Body Try.prog 46 12 c_laws_szAuto [(.t 4)] := body_mk Try.func46 (by kernel_rfl) (by decide)
def c_laws_szNamed : ICode := (.seq (.reg [O1 2 (.box 5) 0, Ol 4 .mv [ci 0]]) (.seq (.reg [O1 5 (.fadr 1) 2, O1 6 (.ldn 4) 5, O1 7 .mv 1, O2 8 (.call 46) 6 7, O1 1 .mv 8]) (.seq (.seq (.reg [O1 9 .mv 1, Ol 10 (.bin .lss) [.t 9, ci 0]]) (.cond (.t 10) (.seq (.reg [Ol 4 .mv [ci (-1)]]) .ret) .skip)) (.seq (.reg [O1 11 .mv 1, O1 4 .mv 11]) .ret))))
theorem b_laws_szNamed : Body Try.prog 68 12 c_laws_szNamed [(.t 4)] := body_mk Try.func68 (by kernel_rfl) (by decide)
def c_laws_szNamedS : ICode := (.seq (.reg [Ol 4 .mv [ci 0]]) (.seq (.reg [O1 6 .mv 1, O1 7 .mv 0, O1 8 .len 7, O2 9 (.bin .sub) 6 8, O1 1 .mv 9]) (.seq (.seq (.reg [O1 10 .mv 1, Ol 11 (.bin .lss) [.t 10, ci 0]]) (.cond (.t 11) (.seq (.reg [Ol 4 .mv [ci (-1)]]) .ret) .skip)) (.seq (.seq (.reg [Ol 5 .mv [ci 0]]) (.block 0 (.loop (.seq (.seq (.reg [O1 12 .mv 5, O1 13 .mv 0, O1 14 .len 13, O2 15 (.bin .lss) 12 14]) (.cond (.t 15) .skip (.exit 0))) (.seq (.block 1 (.seq (.reg [O1 18 .mv 0, O1 19 .mv 5, O2 20 (.iadr 5) 18 19, O1 21 (.ldn 5) 20, O1 22 .mv 1, O2 23 (.call 68) 21 22, O1 1 .mv 23]) (.seq (.reg [O1 24 .mv 1, Ol 25 (.bin .lss) [.t 24, ci 0]]) (.cond (.t 25) (.seq (.reg [Ol 4 .mv [ci (-1)]]) .ret) .skip)))) (.reg [O1 16 .mv 5, Ol 17 (.bin .add) [.t 16, ci 1], O1 5 .mv 17])))))) (.seq (.reg [O1 26 .mv 1, O1 4 .mv 26]) .ret)))))
theorem b_laws_szNamedS : Body Try.prog 18 27 c_laws_szNamedS [(.t 4)] := body_mk Try.func18 (by kernel_rfl) (by decide)
def c_laws_toEdge : ICode := (.seq (.reg [O1 1 (.box 4) 0, O0 2 (.alc [(.int .i64 0), (.int .i64 0), (.int .i64 0), (.bool false)])]) (.seq (.reg [O0 3 (.alc [(.int .i64 0), (.int .i64 0), (.int .i64 0), (.bool false)])]) (.seq (.reg [O1 4 (.fadr 0) 1, O1 5 .ld1 4, O1 6 (.fadr 0) 3, S2 (.st 1) 6 5]) (.seq (.reg [O1 7 (.fadr 1) 1, O1 8 .ld1 7, O1 9 (.fadr 1) 3, S2 (.st 1) 9 8]) (.seq (.reg [O1 10 (.fadr 2) 1, O1 11 .ld1 10, O1 12 (.fadr 2) 3, S2 (.st 1) 12 11]) (.seq (.reg [O1 13 (.fadr 3) 1, O1 14 .ld1 13, O1 15 (.fadr 3) 3, S2 (.st 1) 15 14]) (.seq (.reg [O1 16 (.ldn 4) 3, S2 (.st 4) 2 16]) .ret)))))))
theorem b_laws_toEdge : Body Try.prog 158 17 c_laws_toEdge [(.cn 2 4)] := body_mk Try.func158 (by kernel_rfl) (by decide)
def c_laws_toEdgeS : ICode := (.seq (.reg [Ol 2 .mv [.c .snil]]) (.seq (.reg [O1 5 .mv 0, O1 6 .len 5, O2 7 (.mks 4 32 [(.int .i64 0), (.int .i64 0), (.int .i64 0), (.bool false)]) 6 6, O1 3 .mv 7]) (.seq (.seq (.reg [Ol 4 .mv [ci 0]]) (.block 0 (.loop (.seq (.seq (.reg [O1 8 .mv 4, O1 9 .mv 0, O1 10 .len 9, O2 11 (.bin .lss) 8 10]) (.cond (.t 11) .skip (.exit 0))) (.seq (.block 1 (.reg [O1 14 .mv 3, O1 15 .mv 4, O1 16 .mv 0, O1 17 .mv 4, O2 18 (.iadr 4) 16 17, O1 19 (.ldn 4) 18, O1 20 (.call 158) 19, O2 21 (.iadr 4) 14 15, S2 (.st 4) 21 20])) (.reg [O1 12 .mv 4, Ol 13 (.bin .add) [.t 12, ci 1], O1 4 .mv 13])))))) (.seq (.reg [O1 22 .mv 3, O1 2 .mv 22]) .ret))))
theorem b_laws_toEdgeS : Body Try.prog 113 23 c_laws_toEdgeS [(.t 2)] := body_mk Try.func113 (by kernel_rfl) (by decide)
def c_laws_toAuto : ICode := (.seq (.reg [O1 1 (.box 4) 0, O0 2 (.alc [(.int .i64 0), (.int .i64 0), (.int .i64 0), .snil])]) (.seq (.reg [O0 3 (.alc [(.int .i64 0), (.int .i64 0), (.int .i64 0), .snil])]) (.seq (.reg [O1 4 (.fadr 0) 1, O1 5 .ld1 4, O1 6 (.fadr 0) 3, S2 (.st 1) 6 5]) (.seq (.reg [O1 7 (.fadr 1) 1, O1 8 .ld1 7, O1 9 (.fadr 1) 3, S2 (.st 1) 9 8]) (.seq (.reg [O1 10 (.fadr 2) 1, O1 11 .ld1 10, O1 12 (.fadr 2) 3, S2 (.st 1) 12 11]) (.seq (.reg [O1 13 (.fadr 3) 1, O1 14 .ld1 13, O1 15 (.call 113) 14, O1 16 (.fadr 3) 3, S2 (.st 1) 16 15]) (.seq (.reg [O1 17 (.ldn 4) 3, S2 (.st 4) 2 17]) .ret)))))))
theorem b_laws_toAuto : Body Try.prog 48 18 c_laws_toAuto [(.cn 2 4)] := body_mk Try.func48 (by kernel_rfl) (by decide)
def c_laws_toNamed : ICode := (.seq (.reg [O1 1 (.box 5) 0, O0 2 (.alc [(.int .i64 0), (.int .i64 0), (.int .i64 0), (.int .i64 0), .snil])]) (.seq (.reg [O0 3 (.alc [(.int .i64 0), (.int .i64 0), (.int .i64 0), (.int .i64 0), .snil])]) (.seq (.reg [O1 4 (.fadr 0) 1, O1 5 .ld1 4, O1 6 (.fadr 0) 3, S2 (.st 1) 6 5]) (.seq (.reg [O1 7 (.fadr 1) 1, O1 8 (.ldn 4) 7, O1 9 (.call 48) 8, O1 10 (.fadr 1) 3, S2 (.st 4) 10 9]) (.seq (.reg [O1 11 (.ldn 5) 3, S2 (.st 5) 2 11]) .ret)))))
theorem b_laws_toNamed : Body Try.prog 71 12 c_laws_toNamed [(.cn 2 5)] := body_mk Try.func71 (by kernel_rfl) (by decide)
def c_laws_toNamedS : ICode := (.seq (.reg [Ol 2 .mv [.c .snil]]) (.seq (.reg [O1 5 .mv 0, O1 6 .len 5, O2 7 (.mks 5 56 [(.int .i64 0), (.int .i64 0), (.int .i64 0), (.int .i64 0), .snil]) 6 6, O1 3 .mv 7]) (.seq (.seq (.reg [Ol 4 .mv [ci 0]]) (.block 0 (.loop (.seq (.seq (.reg [O1 8 .mv 4, O1 9 .mv 0, O1 10 .len 9, O2 11 (.bin .lss) 8 10]) (.cond (.t 11) .skip (.exit 0))) (.seq (.block 1 (.reg [O1 14 .mv 3, O1 15 .mv 4, O1 16 .mv 0, O1 17 .mv 4, O2 18 (.iadr 5) 16 17, O1 19 (.ldn 5) 18, O1 20 (.call 71) 19, O2 21 (.iadr 5) 14 15, S2 (.st 5) 21 20])) (.reg [O1 12 .mv 4, Ol 13 (.bin .add) [.t 12, ci 1], O1 4 .mv 13])))))) (.seq (.reg [O1 22 .mv 3, O1 2 .mv 22]) .ret))))
theorem b_laws_toNamedS : Body Try.prog 20 23 c_laws_toNamedS [(.t 2)] := body_mk Try.func20 (by kernel_rfl) (by decide)
def RSzEdgeS (xs : List AV) (r : AV) (objs : List AObj) : Prop := ∃ l n, xs = [.val (edgeRows l), .int .i64 n] ∧ -1 ≤ n ∧ n ≤ 1048576 ∧ r = .int .i64 (if n - l.length < 0 then -1 else n - l.length) ∧ objs = []
theorem RSzEdgeS_mk {l : List EdgeD} {n : Int} (h1 : -1 ≤ n) (h2 : n ≤ 1048576) : RSzEdgeS [.val (edgeRows l), .int .i64 n] (.int .i64 (if n - l.length < 0 then -1 else n - l.length)) [] := ⟨l, n, rfl, h1, h2, rfl, rfl⟩
@[simp] theorem length_edgeRows (l : List EdgeD) : (edgeRows l).length = l.length := by simp [edgeRows]
theorem s_laws_szEdgeS : PureSound Try.prog 108 RSzEdgeS := by
  have hR : Rely Try.prog (ctxOf []) := rely_nil mixed
  refine pure_of_aw b_laws_szEdgeS ?_
  rintro xs r objs ⟨l, n, rfl, h1, h2, rfl, rfl⟩ ⟨w, own, vs, hrel⟩
  have hl : (edgeRows l).length ≤ 9223372036854775807 := by
    obtain ⟨v, hv⟩ := rels_at hrel (i := 0) rfl
    exact rel_len hv
  clear hrel
  have hle := length_edgeRows l
  refine ⟨by simp, vc2_sound hR _ _ _ _ _ ?_⟩
  conv => whnf
  repeat' ((first | contradiction | (refine And.intro (fun hb => ?_) (fun hb => ?_) <;> first | contradiction | ((try simp only [SB, reduceCtorEq] at hb); try (exfalso; first | contradiction | omega))) | refine G2 ?_ | rw [ints_at (by omega)] | rw [ints_at0 (by omega)] | rw [ints_at' (by omega) (by omega)] | refine G1 ?_ | fail) <;> conv => whnf)
  · refine ⟨.inl rfl, ?_⟩
    conv => whnf
    refine ⟨[], ⟨rfl, trivial⟩, ?_, rfl, rfl⟩
    conv => whnf
    left
    conv => lhs; whnf
    exact congrArg (AV.int .i64) (by rw [if_pos (by omega)])
  · refine ⟨.inl rfl, ?_⟩
    conv => whnf
    refine ⟨[], ⟨rfl, trivial⟩, ?_, rfl, rfl⟩
    conv => whnf
    left
    conv => lhs; whnf
    exact congrArg (AV.int .i64) (by rw [if_neg (by omega)]; omega)
def REdge (xs : List AV) (r : AV) (objs : List AObj) : Prop := ∃ x, xs = [.agg (edgeRow x)] ∧ r = .agg (edgeRow x) ∧ objs = []
theorem REdge_mk {x : EdgeD} : REdge [.agg (edgeRow x)] (.agg (edgeRow x)) [] := ⟨x, rfl, rfl, rfl⟩
theorem s_laws_toEdge : PureSound Try.prog 158 REdge := by
  have hR : Rely Try.prog (ctxOf []) := rely_nil mixed
  refine pure_of_aw b_laws_toEdge ?_
  rintro xs r objs ⟨⟨a, b, c, m⟩, rfl, rfl, rfl⟩ -
  refine ⟨by simp, vc2_sound hR _ _ _ _ _ ?_⟩
  cases m
  all_goals
    conv => whnf
    repeat' ((first | contradiction | (refine And.intro (fun hb => ?_) (fun hb => ?_) <;> first | contradiction | ((try simp only [SB, reduceCtorEq] at hb); try (exfalso; first | contradiction | omega))) | refine G2 ?_ | rw [ints_at (by omega)] | rw [ints_at0 (by omega)] | rw [ints_at' (by omega) (by omega)] | refine G1 ?_ | fail) <;> conv => whnf)
    refine ⟨.inl rfl, ?_⟩
    conv => whnf
    refine And.intro (Nat.le_of_ble_eq_true rfl) ?_
    conv => whnf
    refine ⟨[], ⟨rfl, trivial⟩, ?_, rfl, rfl⟩
    exact And.intro (.inl rfl) (And.intro (.inl rfl) (And.intro (.inl rfl) (And.intro (.inl rfl) trivial)))
def RToEdgeS (xs : List AV) (r : AV) (objs : List AObj) : Prop := ∃ l, xs = [.val (edgeRows l)] ∧ l.length ≤ 1048576 ∧ r = .ref 0 0 l.length ∧ objs = [.arr 4 (edgeRows l)]
theorem RToEdgeS_mk {l : List EdgeD} (h : l.length ≤ 1048576) : RToEdgeS [.val (edgeRows l)] (.ref 0 0 l.length) [.arr 4 (edgeRows l)] := ⟨l, rfl, h, rfl, rfl⟩
theorem edgeRows_nov (l : List EdgeD) : (edgeRows l).all AV.novs = true := by
  simp [edgeRows, edgeRow, AV.novs, AV.nov]
def zeroEdge : EdgeD := ⟨0, 0, 0, false⟩
theorem s_laws_toEdgeS : PureSound Try.prog 113 RToEdgeS := by
  have hR : Rely Try.prog (ctxOf [(158, .pure REdge)]) := rely_cons b_laws_toEdge.has s_laws_toEdge (rely_nil mixed)
  refine pure_of_aw b_laws_toEdgeS ?_
  rintro xs r objs ⟨l, rfl, hl, rfl, rfl⟩ -
  have hle := length_edgeRows l
  refine ⟨by simp, vc2_sound hR _ _ _ _ _ ?_⟩
  conv => whnf
  repeat' ((first | contradiction | (refine And.intro (fun hb => ?_) (fun hb => ?_) <;> first | contradiction | ((try simp only [SB, reduceCtorEq] at hb); try (exfalso; first | contradiction | omega))) | refine G2 ?_ | rw [ints_at (by omega)] | rw [ints_at0 (by omega)] | rw [ints_at' (by omega) (by omega)] | refine G1 ?_ | fail) <;> conv => whnf)
  refine Lp.intro (α := Nat) (fun i => i ≤ l.length) (fun i => l.length - i) (fun i => [(0, .val (edgeRows l)), (3, .ref 0 0 l.length), (4, .int .i64 i)]) (fun i => [some (.arr 4 ((l.take i ++ List.replicate (l.length - i) zeroEdge).map edgeRow))]) ?_ ?_
  · refine ⟨0, by omega, [some 0], rfl, rfl, And.intro (And.intro rfl ?_) trivial, ?_⟩
    · show List.replicate ((edgeRows l).length : Int).toNat _ = _
      simp [edgeRows, edgeRow, zeroEdge]
    · repeat' (first
        | exact trivial
        | refine ⟨?_, ?_⟩
        | fail)
      all_goals first
        | with_reducible rfl
        | (conv => whnf
           try left
           conv => lhs; whnf
           first
             | rfl
             | exact congrArg (AV.int .i64) (by omega)
             | skip)
      exact congrArg (AV.ref 0 0) (by simp [edgeRows])
  · intro i hi
    refine vc2_sound hR _ _ _ _ _ ?_
    by_cases hlt : i < l.length
    · conv => whnf
      repeat' ((first | contradiction | (refine And.intro (fun hb => ?_) (fun hb => ?_) <;> first | contradiction | ((try simp only [SB, reduceCtorEq] at hb); try (exfalso; first | contradiction | omega))) | refine G2 ?_ | rw [ints_at (by omega)] | rw [ints_at0 (by omega)] | rw [ints_at' (by omega) (by omega)] | refine G1 ?_ | fail) <;> conv => whnf)
      rw [show (edgeRows l)[((i : Nat) : Int).toNat]? = some (edgeRow (l.getD i default)) from map_at hlt]
      conv => whnf
      repeat' ((first | contradiction | (refine And.intro (fun hb => ?_) (fun hb => ?_) <;> first | contradiction | ((try simp only [SB, reduceCtorEq] at hb); try (exfalso; first | contradiction | omega))) | refine G2 ?_ | rw [ints_at (by omega)] | rw [ints_at0 (by omega)] | rw [ints_at' (by omega) (by omega)] | refine G1 ?_ | refine ⟨_, _, REdge_mk (x := l.getD i default), ?_⟩ | fail) <;> conv => whnf)
      rw [map_at0 (f := edgeRow) (by simp; omega)]
      conv => whnf
      repeat' ((first | contradiction | (refine And.intro (fun hb => ?_) (fun hb => ?_) <;> first | contradiction | ((try simp only [SB, reduceCtorEq] at hb); try (exfalso; first | contradiction | omega))) | refine G2 ?_ | rw [ints_at (by omega)] | rw [ints_at0 (by omega)] | rw [ints_at' (by omega) (by omega)] | refine G1 ?_ | fail) <;> conv => whnf)
      refine ⟨i + 1, by omega, by omega, [some 0], rfl, rfl, And.intro (And.intro rfl ?_) trivial, ?_⟩
      · show (List.map edgeRow _).set (0 + ((i : Nat) : Int).toNat) (edgeRow (l.getD i default)) = _
        rw [Nat.zero_add]
        exact fill_stepD hlt
      · repeat' (first
          | exact trivial
          | refine ⟨?_, ?_⟩
          | fail)
        all_goals first
          | with_reducible rfl
          | (conv => whnf
             try left
             conv => lhs; whnf
             first
               | rfl
               | exact congrArg (AV.int .i64) (by omega)
               | skip)
    · conv => whnf
      repeat' ((first | contradiction | (refine And.intro (fun hb => ?_) (fun hb => ?_) <;> first | contradiction | ((try simp only [SB, reduceCtorEq] at hb); try (exfalso; first | contradiction | omega))) | refine G2 ?_ | rw [ints_at (by omega)] | rw [ints_at0 (by omega)] | rw [ints_at' (by omega) (by omega)] | refine G1 ?_ | fail) <;> conv => whnf)
      refine ⟨.inl rfl, ?_⟩
      conv => whnf
      refine ⟨[some 0], ⟨rfl, And.intro (And.intro rfl ?_) trivial⟩, rfl, rfl, by simp [AObj.nov, edgeRows_nov]⟩
      have : i = l.length := by omega
      subst this
      simp [edgeRows]
def RToAuto (xs : List AV) (r : AV) (objs : List AObj) : Prop := ∃ x, xs = [.agg (autoRow x)] ∧ x.edges.length ≤ 1048576 ∧ r = .agg (autoRow x) ∧ objs = []
theorem RToAuto_mk {x : AutoD} (h : x.edges.length ≤ 1048576) : RToAuto [.agg (autoRow x)] (.agg (autoRow x)) [] := ⟨x, rfl, h, rfl, rfl⟩
theorem s_laws_toAuto : LooseSound Try.prog 48 RToAuto := by
  have hR : Rely Try.prog (ctxOf [(113, .pure RToEdgeS)]) := rely_cons b_laws_toEdgeS.has s_laws_toEdgeS (rely_nil mixed)
  refine loose_of_aw b_laws_toAuto ?_
  rintro xs r objs ⟨x, rfl, hx, rfl, rfl⟩ -
  refine ⟨by simp, vc2_sound hR _ _ _ _ _ ?_⟩
  conv => whnf
  repeat' ((first | contradiction | (refine And.intro (fun hb => ?_) (fun hb => ?_) <;> first | contradiction | ((try simp only [SB, reduceCtorEq] at hb); try (exfalso; first | contradiction | omega))) | refine G2 ?_ | rw [ints_at (by omega)] | rw [ints_at0 (by omega)] | rw [ints_at' (by omega) (by omega)] | refine G1 ?_ | refine ⟨_, _, RToEdgeS_mk hx, ?_⟩ | fail) <;> conv => whnf)
  refine ⟨.inl rfl, ?_⟩
  conv => whnf
  refine And.intro (Nat.le_of_ble_eq_true rfl) ?_
  conv => whnf
  refine ⟨[], ⟨rfl, trivial⟩, ?_⟩
  refine And.intro (.inl rfl) (And.intro (.inl rfl) (And.intro (.inl rfl) (And.intro (.inr ?_) trivial)))
  exact snap_all rfl (by simp [edgeRows])
def RToNamed (xs : List AV) (r : AV) (objs : List AObj) : Prop := ∃ x, xs = [.agg (namedRow x)] ∧ x.auto.edges.length ≤ 1048576 ∧ r = .agg (namedRow x) ∧ objs = []
theorem RToNamed_mk {x : NamedD} (h : x.auto.edges.length ≤ 1048576) : RToNamed [.agg (namedRow x)] (.agg (namedRow x)) [] := ⟨x, rfl, h, rfl, rfl⟩
theorem s_laws_toNamed : LooseSound Try.prog 71 RToNamed := by
  have hR : Rely Try.prog (ctxOf [(48, .loose RToAuto)]) := rely_cons b_laws_toAuto.has s_laws_toAuto (rely_nil mixed)
  refine loose_of_aw b_laws_toNamed ?_
  rintro xs r objs ⟨x, rfl, hx, rfl, rfl⟩ -
  refine ⟨by simp, vc2_sound hR _ _ _ _ _ ?_⟩
  conv => whnf
  repeat' ((first | contradiction | (refine And.intro (fun hb => ?_) (fun hb => ?_) <;> first | contradiction | ((try simp only [SB, reduceCtorEq] at hb); try (exfalso; first | contradiction | omega))) | refine G2 ?_ | rw [ints_at (by omega)] | rw [ints_at0 (by omega)] | rw [ints_at' (by omega) (by omega)] | refine G1 ?_ | fail) <;> conv => whnf)
  refine ⟨_, _, RToAuto_mk (x := x.auto) hx, ?_⟩
  conv => whnf
  repeat' ((first | contradiction | (refine And.intro (fun hb => ?_) (fun hb => ?_) <;> first | contradiction | ((try simp only [SB, reduceCtorEq] at hb); try (exfalso; first | contradiction | omega))) | refine G2 ?_ | rw [ints_at (by omega)] | rw [ints_at0 (by omega)] | rw [ints_at' (by omega) (by omega)] | refine G1 ?_ | fail) <;> conv => whnf)
  refine ⟨.inl rfl, ?_⟩
  conv => whnf
  refine And.intro (Nat.le_of_ble_eq_true rfl) ?_
  conv => whnf
  refine ⟨[], ⟨rfl, trivial⟩, ?_⟩
  exact And.intro (.inl rfl) (And.intro (.inl rfl) (And.intro (.inl rfl) (And.intro (.inl rfl) (And.intro (.inl rfl) trivial))))
def RSzAuto (xs : List AV) (r : AV) (objs : List AObj) : Prop := ∃ x n, xs = [.agg (autoRow x), .int .i64 n] ∧ -1 ≤ n ∧ n ≤ 1048576 ∧ r = .int .i64 (if n - x.edges.length < 0 then -1 else n - x.edges.length) ∧ objs = []
theorem RSzAuto_mk {x : AutoD} {n : Int} (h1 : -1 ≤ n) (h2 : n ≤ 1048576) : RSzAuto [.agg (autoRow x), .int .i64 n] (.int .i64 (if n - x.edges.length < 0 then -1 else n - x.edges.length)) [] := ⟨x, n, rfl, h1, h2, rfl, rfl⟩
theorem s_laws_szAuto : PureSound Try.prog 46 RSzAuto := by
  have hR : Rely Try.prog (ctxOf [(108, .pure RSzEdgeS)]) := rely_cons b_laws_szEdgeS.has s_laws_szEdgeS (rely_nil mixed)
  refine pure_of_aw b_laws_szAuto ?_
  rintro xs r objs ⟨x, n, rfl, h1, h2, rfl, rfl⟩ -
  refine ⟨by simp, vc2_sound hR _ _ _ _ _ ?_⟩
  conv => whnf
  repeat' ((first | contradiction | (refine And.intro (fun hb => ?_) (fun hb => ?_) <;> first | contradiction | ((try simp only [SB, reduceCtorEq] at hb); try (exfalso; first | contradiction | omega))) | refine G2 ?_ | rw [ints_at (by omega)] | rw [ints_at0 (by omega)] | rw [ints_at' (by omega) (by omega)] | refine G1 ?_ | refine ⟨_, _, RSzEdgeS_mk h1 h2, ?_⟩ | fail) <;> conv => whnf)
  · refine ⟨.inl rfl, ?_⟩
    conv => whnf
    refine ⟨[], ⟨rfl, trivial⟩, ?_, rfl, rfl⟩
    conv => whnf
    left
    conv => lhs; whnf
    exact congrArg (AV.int .i64) (by split at hb <;> (try rw [if_pos (by omega)]) <;> omega)
  · refine ⟨.inl rfl, ?_⟩
    conv => whnf
    refine ⟨[], ⟨rfl, trivial⟩, ?_, rfl, rfl⟩
    conv => whnf
    left
    conv => lhs; whnf
def RSzNamed (xs : List AV) (r : AV) (objs : List AObj) : Prop := ∃ x n, xs = [.agg (namedRow x), .int .i64 n] ∧ -1 ≤ n ∧ n ≤ 1048576 ∧ r = .int .i64 (if n - x.auto.edges.length < 0 then -1 else n - x.auto.edges.length) ∧ objs = []
theorem RSzNamed_mk {x : NamedD} {n : Int} (h1 : -1 ≤ n) (h2 : n ≤ 1048576) : RSzNamed [.agg (namedRow x), .int .i64 n] (.int .i64 (if n - x.auto.edges.length < 0 then -1 else n - x.auto.edges.length)) [] := ⟨x, n, rfl, h1, h2, rfl, rfl⟩
theorem s_laws_szNamed : PureSound Try.prog 68 RSzNamed := by
  have hR : Rely Try.prog (ctxOf [(46, .pure RSzAuto)]) := rely_cons b_laws_szAuto.has s_laws_szAuto (rely_nil mixed)
  refine pure_of_aw b_laws_szNamed ?_
  rintro xs r objs ⟨x, n, rfl, h1, h2, rfl, rfl⟩ -
  refine ⟨by simp, vc2_sound hR _ _ _ _ _ ?_⟩
  conv => whnf
  repeat' ((first | contradiction | (refine And.intro (fun hb => ?_) (fun hb => ?_) <;> first | contradiction | ((try simp only [SB, reduceCtorEq] at hb); try (exfalso; first | contradiction | omega))) | refine G2 ?_ | rw [ints_at (by omega)] | rw [ints_at0 (by omega)] | rw [ints_at' (by omega) (by omega)] | refine G1 ?_ | refine ⟨_, _, RSzAuto_mk (x := x.auto) h1 h2, ?_⟩ | fail) <;> conv => whnf)
  · refine ⟨.inl rfl, ?_⟩
    conv => whnf
    refine ⟨[], ⟨rfl, trivial⟩, ?_, rfl, rfl⟩
    conv => whnf
    left
    conv => lhs; whnf
    exact congrArg (AV.int .i64) (by split at hb <;> (try rw [if_pos (by omega)]) <;> omega)
  · refine ⟨.inl rfl, ?_⟩
    conv => whnf
    refine ⟨[], ⟨rfl, trivial⟩, ?_, rfl, rfl⟩
    conv => whnf
    left
    conv => lhs; whnf
def edgeSum : List NamedD → Int
  | [] => 0
  | x :: r => x.auto.edges.length + edgeSum r
theorem edgeSum_nonneg : ∀ (l : List NamedD), 0 ≤ edgeSum l
  | [] => by simp [edgeSum]
  | x :: r => by have := edgeSum_nonneg r; simp only [edgeSum]; omega
theorem edgeSum_append : ∀ (a b : List NamedD), edgeSum (a ++ b) = edgeSum a + edgeSum b
  | [], b => by simp [edgeSum]
  | x :: r, b => by simp only [List.cons_append, edgeSum, edgeSum_append r b]; omega
theorem edgeSum_take {l : List NamedD} {i : Nat} (hi : i < l.length) : edgeSum (l.take (i + 1)) = edgeSum (l.take i) + (l.getD i default).auto.edges.length := by
  rw [take_succ_D hi, edgeSum_append]
  simp [edgeSum]
theorem edgeSum_le (l : List NamedD) (i : Nat) : edgeSum (l.take i) ≤ edgeSum l := by
  have h := edgeSum_append (l.take i) (l.drop i)
  rw [List.take_append_drop] at h
  have := edgeSum_nonneg (l.drop i)
  omega
def leftNamed (l : List NamedD) (n : Int) : Int := if n - l.length - edgeSum l < 0 then -1 else n - l.length - edgeSum l
def RSzNamedS (xs : List AV) (r : AV) (objs : List AObj) : Prop := ∃ l n, xs = [.val (namedRows l), .int .i64 n] ∧ 0 ≤ n ∧ n ≤ 1048576 ∧ r = .int .i64 (leftNamed l n) ∧ objs = []
theorem RSzNamedS_mk {l : List NamedD} {n : Int} (h1 : 0 ≤ n) (h2 : n ≤ 1048576) : RSzNamedS [.val (namedRows l), .int .i64 n] (.int .i64 (leftNamed l n)) [] := ⟨l, n, rfl, h1, h2, rfl, rfl⟩
@[simp] theorem length_namedRows (l : List NamedD) : (namedRows l).length = l.length := by simp [namedRows]
theorem s_laws_szNamedS : PureSound Try.prog 18 RSzNamedS := by
  have hR : Rely Try.prog (ctxOf [(68, .pure RSzNamed)]) := rely_cons b_laws_szNamed.has s_laws_szNamed (rely_nil mixed)
  refine pure_of_aw b_laws_szNamedS ?_
  rintro xs r objs ⟨l, n, rfl, h1, h2, rfl, rfl⟩ ⟨w, own, vs, hrel⟩
  have hl : (namedRows l).length ≤ 9223372036854775807 := by
    obtain ⟨v, hv⟩ := rels_at hrel (i := 0) rfl
    exact rel_len hv
  clear hrel
  have hle := length_namedRows l
  have hnn := edgeSum_nonneg l
  refine ⟨by simp, vc2_sound hR _ _ _ _ _ ?_⟩
  conv => whnf
  repeat' ((first | contradiction | (refine And.intro (fun hb => ?_) (fun hb => ?_) <;> first | contradiction | ((try simp only [SB, reduceCtorEq] at hb); try (exfalso; first | contradiction | omega))) | refine G2 ?_ | rw [ints_at (by omega)] | rw [ints_at0 (by omega)] | rw [ints_at' (by omega) (by omega)] | refine G1 ?_ | fail) <;> conv => whnf)
  · refine ⟨.inl rfl, ?_⟩
    conv => whnf
    refine ⟨[], ⟨rfl, trivial⟩, ?_, rfl, rfl⟩
    conv => whnf
    left
    conv => lhs; whnf
    exact congrArg (AV.int .i64) (by unfold leftNamed; rw [if_pos (by omega)])
  · refine Lp.intro (α := Nat) (fun i => i ≤ l.length ∧ 0 ≤ n - l.length - edgeSum (l.take i)) (fun i => l.length - i) (fun i => [(0, .val (namedRows l)), (1, .int .i64 (n - l.length - edgeSum (l.take i))), (5, .int .i64 i)]) (fun _ => []) ?_ ?_
    · refine ⟨0, ⟨by omega, by simp [edgeSum] <;> omega⟩, [], rfl, rfl, trivial, ?_⟩
      repeat' (first
        | exact trivial
        | refine ⟨?_, ?_⟩
        | fail)
      all_goals first
        | with_reducible rfl
        | (conv => whnf
           try left
           conv => lhs; whnf
           first
             | rfl
             | exact congrArg (AV.int .i64) (by omega)
             | skip)
      exact congrArg (AV.int .i64) (by simp [edgeSum] <;> omega)
    · rintro i ⟨hi, hpos⟩
      refine vc2_sound hR _ _ _ _ _ ?_
      by_cases hlt : i < l.length
      · have hsum := edgeSum_take hlt
        have htot := edgeSum_le l (i + 1)
        have hge := edgeSum_nonneg (l.take i)
        conv => whnf
        repeat' ((first | contradiction | (refine And.intro (fun hb => ?_) (fun hb => ?_) <;> first | contradiction | ((try simp only [SB, reduceCtorEq] at hb); try (exfalso; first | contradiction | omega))) | refine G2 ?_ | rw [ints_at (by omega)] | rw [ints_at0 (by omega)] | rw [ints_at' (by omega) (by omega)] | refine G1 ?_ | fail) <;> conv => whnf)
        rw [show (namedRows l)[((i : Nat) : Int).toNat]? = some (namedRow (l.getD i default)) from map_at hlt]
        conv => whnf
        repeat' ((first | contradiction | (refine And.intro (fun hb => ?_) (fun hb => ?_) <;> first | contradiction | ((try simp only [SB, reduceCtorEq] at hb); try (exfalso; first | contradiction | omega))) | refine G2 ?_ | rw [ints_at (by omega)] | rw [ints_at0 (by omega)] | rw [ints_at' (by omega) (by omega)] | refine G1 ?_ | refine ⟨_, _, RSzNamed_mk (x := l.getD i default) (by omega) (by omega), ?_⟩ | fail) <;> conv => whnf)
        · refine ⟨.inl rfl, ?_⟩
          conv => whnf
          refine ⟨[], ⟨rfl, trivial⟩, ?_, rfl, rfl⟩
          conv => whnf
          left
          conv => lhs; whnf
          exact congrArg (AV.int .i64) (by unfold leftNamed; split at hb <;> (try rw [if_pos (by omega)]) <;> omega)
        · refine ⟨i + 1, ⟨by omega, by split at hb <;> omega⟩, by omega, [], rfl, rfl, trivial, ?_⟩
          repeat' (first
            | exact trivial
            | refine ⟨?_, ?_⟩
            | fail)
          all_goals first
            | with_reducible rfl
            | (conv => whnf
               try left
               conv => lhs; whnf
               first
                 | rfl
                 | exact congrArg (AV.int .i64) (by omega)
                 | skip)
      · have e : l.take i = l := List.take_of_length_le (by omega)
        rw [e] at hpos ⊢
        conv => whnf
        repeat' ((first | contradiction | (refine And.intro (fun hb => ?_) (fun hb => ?_) <;> first | contradiction | ((try simp only [SB, reduceCtorEq] at hb); try (exfalso; first | contradiction | omega))) | refine G2 ?_ | rw [ints_at (by omega)] | rw [ints_at0 (by omega)] | rw [ints_at' (by omega) (by omega)] | refine G1 ?_ | fail) <;> conv => whnf)
        refine ⟨.inl rfl, ?_⟩
        conv => whnf
        refine ⟨[], ⟨rfl, trivial⟩, ?_, rfl, rfl⟩
        conv => whnf
        left
        conv => lhs; whnf
        exact congrArg (AV.int .i64) (by unfold leftNamed; rw [if_neg (by omega)])
def RToNamedS (xs : List AV) (r : AV) (objs : List AObj) : Prop := ∃ l, xs = [.val (namedRows l)] ∧ l.length ≤ 1048576 ∧ (∀ x ∈ l, x.auto.edges.length ≤ 1048576) ∧ r = .val (namedRows l) ∧ objs = []
theorem RToNamedS_mk {l : List NamedD} (h : l.length ≤ 1048576) (h2 : ∀ x ∈ l, x.auto.edges.length ≤ 1048576) : RToNamedS [.val (namedRows l)] (.val (namedRows l)) [] := ⟨l, rfl, h, h2, rfl, rfl⟩
theorem mem_getD {α : Type} [Inhabited α] {l : List α} {i : Nat} (h : i < l.length) : l.getD i default ∈ l := by
  rw [List.getD_eq_getElem?_getD, List.getElem?_eq_getElem h]
  exact List.getElem_mem h
def zeroNamedRow : List AV := [.int .i64 0, .int .i64 0, .int .i64 0, .int .i64 0, .snil]
theorem fill_rows {α : Type} [Inhabited α] {f : α → List AV} {l : List α} {z : List AV} {i : Nat} (hi : i < l.length) : ((l.take i).map f ++ List.replicate (l.length - i) z).set i (f (l.getD i default)) = (l.take (i + 1)).map f ++ List.replicate (l.length - (i + 1)) z := by
  rw [take_succ_D hi]
  have e : l.length - i = (l.length - (i + 1)) + 1 := by omega
  rw [e, List.replicate_succ]
  simp [List.set_append, Nat.min_eq_left (Nat.le_of_lt hi)]
theorem fill_at {α : Type} [Inhabited α] {f : α → List AV} {l : List α} {z : List AV} {i : Nat} (hi : i < l.length) : ((l.take i).map f ++ List.replicate (l.length - i) z)[0 + ((i : Nat) : Int).toNat]? = some z := by
  have e : l.length - i = (l.length - (i + 1)) + 1 := by omega
  rw [e, List.replicate_succ]
  simp [List.getElem?_append, Nat.min_eq_left (Nat.le_of_lt hi)]
theorem s_laws_toNamedS : LooseSound Try.prog 20 RToNamedS := by
  have hR : Rely Try.prog (ctxOf [(71, .loose RToNamed)]) := rely_cons b_laws_toNamed.has s_laws_toNamed (rely_nil mixed)
  refine loose_of_aw b_laws_toNamedS ?_
  rintro xs r objs ⟨l, rfl, hl, hed, rfl, rfl⟩ -
  have hle := length_namedRows l
  refine ⟨by simp, vc2_sound hR _ _ _ _ _ ?_⟩
  conv => whnf
  repeat' ((first | contradiction | (refine And.intro (fun hb => ?_) (fun hb => ?_) <;> first | contradiction | ((try simp only [SB, reduceCtorEq] at hb); try (exfalso; first | contradiction | omega))) | refine G2 ?_ | rw [ints_at (by omega)] | rw [ints_at0 (by omega)] | rw [ints_at' (by omega) (by omega)] | refine G1 ?_ | fail) <;> conv => whnf)
  refine Lp.intro (α := Nat) (fun i => i ≤ l.length) (fun i => l.length - i) (fun i => [(0, .val (namedRows l)), (3, .ref 0 0 l.length), (4, .int .i64 i)]) (fun i => [some (.arr 5 ((l.take i).map namedRow ++ List.replicate (l.length - i) zeroNamedRow))]) ?_ ?_
  · refine ⟨0, by omega, [some 0], rfl, rfl, And.intro (And.intro rfl ?_) trivial, ?_⟩
    · show List.replicate ((namedRows l).length : Int).toNat _ = _
      simp [namedRows, zeroNamedRow]
    · repeat' (first
        | exact trivial
        | refine ⟨?_, ?_⟩
        | fail)
      all_goals first
        | with_reducible rfl
        | (conv => whnf
           try left
           conv => lhs; whnf
           first
             | rfl
             | exact congrArg (AV.int .i64) (by omega)
             | skip)
      exact congrArg (AV.ref 0 0) (by simp [namedRows])
  · intro i hi
    refine vc2_sound hR _ _ _ _ _ ?_
    by_cases hlt : i < l.length
    · conv => whnf
      repeat' ((first | contradiction | (refine And.intro (fun hb => ?_) (fun hb => ?_) <;> first | contradiction | ((try simp only [SB, reduceCtorEq] at hb); try (exfalso; first | contradiction | omega))) | refine G2 ?_ | rw [ints_at (by omega)] | rw [ints_at0 (by omega)] | rw [ints_at' (by omega) (by omega)] | refine G1 ?_ | fail) <;> conv => whnf)
      rw [show (namedRows l)[((i : Nat) : Int).toNat]? = some (namedRow (l.getD i default)) from map_at hlt]
      conv => whnf
      repeat' ((first | contradiction | (refine And.intro (fun hb => ?_) (fun hb => ?_) <;> first | contradiction | ((try simp only [SB, reduceCtorEq] at hb); try (exfalso; first | contradiction | omega))) | refine G2 ?_ | rw [ints_at (by omega)] | rw [ints_at0 (by omega)] | rw [ints_at' (by omega) (by omega)] | refine G1 ?_ | refine ⟨_, _, RToNamed_mk (x := l.getD i default) (hed _ (mem_getD hlt)), ?_⟩ | fail) <;> conv => whnf)
      rw [fill_at (f := namedRow) hlt]
      conv => whnf
      repeat' ((first | contradiction | (refine And.intro (fun hb => ?_) (fun hb => ?_) <;> first | contradiction | ((try simp only [SB, reduceCtorEq] at hb); try (exfalso; first | contradiction | omega))) | refine G2 ?_ | rw [ints_at (by omega)] | rw [ints_at0 (by omega)] | rw [ints_at' (by omega) (by omega)] | refine G1 ?_ | fail) <;> conv => whnf)
      refine ⟨i + 1, by omega, by omega, [some 0], rfl, rfl, And.intro (And.intro rfl ?_) trivial, ?_⟩
      · show (List.map namedRow (l.take i) ++ _).set (0 + ((i : Nat) : Int).toNat) (namedRow (l.getD i default)) = _
        rw [Nat.zero_add]
        exact fill_rows hlt
      · repeat' (first
          | exact trivial
          | refine ⟨?_, ?_⟩
          | fail)
        all_goals first
          | with_reducible rfl
          | (conv => whnf
             try left
             conv => lhs; whnf
             first
               | rfl
               | exact congrArg (AV.int .i64) (by omega)
               | skip)
    · conv => whnf
      repeat' ((first | contradiction | (refine And.intro (fun hb => ?_) (fun hb => ?_) <;> first | contradiction | ((try simp only [SB, reduceCtorEq] at hb); try (exfalso; first | contradiction | omega))) | refine G2 ?_ | rw [ints_at (by omega)] | rw [ints_at0 (by omega)] | rw [ints_at' (by omega) (by omega)] | refine G1 ?_ | fail) <;> conv => whnf)
      refine ⟨.inl rfl, ?_⟩
      conv => whnf
      refine ⟨[], ⟨rfl, trivial⟩, .inr ?_⟩
      refine snap_all (z := 5) (rows := namedRows l) ?_ hle
      show some (AObj.arr 5 ((l.take i).map namedRow ++ List.replicate (l.length - i) zeroNamedRow)) = _
      have : i = l.length := by omega
      subst this
      simp [namedRows]
end Go.Proofs.Ytpfbkblgefddlaa.Ct
namespace Go.Proofs.Ytpfbkblgefddlaa.Ct
set_option linter.unusedSimpArgs false
set_option linter.unusedVariables false
open Go Go.Proofs Go.Proofs.Ytpfbkblgefddlaa.Av
def c_laws_eqEdge : ICode := (.seq (.reg [O1 2 (.box 4) 0, O1 3 (.box 4) 1, Ol 4 .mv [cb false]]) (.seq (.seq (.reg [O1 5 (.fadr 0) 2, O1 6 .ld1 5, O1 7 (.fadr 0) 3, O1 8 .ld1 7, O2 9 (.bin .neq) 6 8]) (.cond (.t 9) (.seq (.reg [Ol 4 .mv [cb false]]) .ret) .skip)) (.seq (.seq (.reg [O1 10 (.fadr 1) 2, O1 11 .ld1 10, O1 12 (.fadr 1) 3, O1 13 .ld1 12, O2 14 (.bin .neq) 11 13]) (.cond (.t 14) (.seq (.reg [Ol 4 .mv [cb false]]) .ret) .skip)) (.seq (.seq (.reg [O1 15 (.fadr 2) 2, O1 16 .ld1 15, O1 17 (.fadr 2) 3, O1 18 .ld1 17, O2 19 (.bin .neq) 16 18]) (.cond (.t 19) (.seq (.reg [Ol 4 .mv [cb false]]) .ret) .skip)) (.seq (.seq (.reg [O1 20 (.fadr 3) 2, O1 21 .ld1 20, O1 22 (.fadr 3) 3, O1 23 .ld1 22, O2 24 (.beq true) 21 23]) (.cond (.t 24) (.seq (.reg [Ol 4 .mv [cb false]]) .ret) .skip)) (.seq (.reg [Ol 4 .mv [cb true]]) .ret))))))
theorem b_laws_eqEdge : Body Try.prog 143 25 c_laws_eqEdge [(.t 4)] := body_mk Try.func143 (by kernel_rfl) (by decide)
def c_laws_eqEdgeS : ICode := (.seq (.reg [Ol 4 .mv [cb false]]) (.seq (.seq (.reg [O1 6 .mv 0, O1 7 .len 6, O1 8 .mv 1, O1 9 .len 8, O2 10 (.bin .neq) 7 9]) (.cond (.t 10) (.seq (.reg [Ol 4 .mv [cb false]]) .ret) .skip)) (.seq (.seq (.reg [Ol 5 .mv [ci 0]]) (.block 0 (.loop (.seq (.seq (.reg [O1 11 .mv 5, O1 12 .mv 0, O1 13 .len 12, O2 14 (.bin .lss) 11 13]) (.cond (.t 14) .skip (.exit 0))) (.seq (.block 1 (.seq (.drw [O1 17 .mv 0, O1 18 .mv 5, O2 19 (.iadr 4) 17 18, O1 20 (.ldn 4) 19, O1 21 .mv 1, O1 22 .mv 5, O2 23 (.iadr 4) 21 22, O1 24 (.ldn 4) 23, O2 25 (.call 143) 20 24, O1 26 .not 25] (unB [0, 0, 3, 7, 0, 0, 48, 112, 255, 511] 0) true true) (.cond (.t 26) (.seq (.reg [Ol 4 .mv [cb false]]) .ret) .skip))) (.reg [O1 15 .mv 5, Ol 16 (.bin .add) [.t 15, ci 1], O1 5 .mv 16])))))) (.seq (.reg [Ol 4 .mv [cb true]]) .ret))))
theorem b_laws_eqEdgeS : Body Try.prog 92 27 c_laws_eqEdgeS [(.t 4)] := body_mk Try.func92 (by kernel_rfl) (by decide)
def c_laws_eqAuto : ICode := (.seq (.reg [O1 2 (.box 4) 0, O1 3 (.box 4) 1, Ol 4 .mv [cb false]]) (.seq (.seq (.reg [O1 5 (.fadr 0) 2, O1 6 .ld1 5, O1 7 (.fadr 0) 3, O1 8 .ld1 7, O2 9 (.bin .neq) 6 8]) (.cond (.t 9) (.seq (.reg [Ol 4 .mv [cb false]]) .ret) .skip)) (.seq (.seq (.reg [O1 10 (.fadr 1) 2, O1 11 .ld1 10, O1 12 (.fadr 1) 3, O1 13 .ld1 12, O2 14 (.bin .neq) 11 13]) (.cond (.t 14) (.seq (.reg [Ol 4 .mv [cb false]]) .ret) .skip)) (.seq (.seq (.reg [O1 15 (.fadr 2) 2, O1 16 .ld1 15, O1 17 (.fadr 2) 3, O1 18 .ld1 17, O2 19 (.bin .neq) 16 18]) (.cond (.t 19) (.seq (.reg [Ol 4 .mv [cb false]]) .ret) .skip)) (.seq (.seq (.reg [O1 20 (.fadr 3) 2, O1 21 .ld1 20, O1 22 (.fadr 3) 3, O1 23 .ld1 22, O2 24 (.call 92) 21 23, O1 25 .not 24]) (.cond (.t 25) (.seq (.reg [Ol 4 .mv [cb false]]) .ret) .skip)) (.seq (.reg [Ol 4 .mv [cb true]]) .ret))))))
theorem b_laws_eqAuto : Body Try.prog 34 26 c_laws_eqAuto [(.t 4)] := body_mk Try.func34 (by kernel_rfl) (by decide)
def c_laws_eqNamed : ICode := (.seq (.reg [O1 2 (.box 5) 0, O1 3 (.box 5) 1, Ol 4 .mv [cb false]]) (.seq (.seq (.reg [O1 5 (.fadr 0) 2, O1 6 .ld1 5, O1 7 (.fadr 0) 3, O1 8 .ld1 7, O2 9 (.bin .neq) 6 8]) (.cond (.t 9) (.seq (.reg [Ol 4 .mv [cb false]]) .ret) .skip)) (.seq (.seq (.reg [O1 10 (.fadr 1) 2, O1 11 (.ldn 4) 10, O1 12 (.fadr 1) 3, O1 13 (.ldn 4) 12, O2 14 (.call 34) 11 13, O1 15 .not 14]) (.cond (.t 15) (.seq (.reg [Ol 4 .mv [cb false]]) .ret) .skip)) (.seq (.reg [Ol 4 .mv [cb true]]) .ret))))
theorem b_laws_eqNamed : Body Try.prog 74 16 c_laws_eqNamed [(.t 4)] := body_mk Try.func74 (by kernel_rfl) (by decide)
def c_laws_eqNamedS : ICode := (.seq (.reg [Ol 4 .mv [cb false]]) (.seq (.seq (.reg [O1 6 .mv 0, O1 7 .len 6, O1 8 .mv 1, O1 9 .len 8, O2 10 (.bin .neq) 7 9]) (.cond (.t 10) (.seq (.reg [Ol 4 .mv [cb false]]) .ret) .skip)) (.seq (.seq (.reg [Ol 5 .mv [ci 0]]) (.block 0 (.loop (.seq (.seq (.reg [O1 11 .mv 5, O1 12 .mv 0, O1 13 .len 12, O2 14 (.bin .lss) 11 13]) (.cond (.t 14) .skip (.exit 0))) (.seq (.block 1 (.seq (.drw [O1 17 .mv 0, O1 18 .mv 5, O2 19 (.iadr 5) 17 18, O1 20 (.ldn 5) 19, O1 21 .mv 1, O1 22 .mv 5, O2 23 (.iadr 5) 21 22, O1 24 (.ldn 5) 23, O2 25 (.call 74) 20 24, O1 26 .not 25] (unB [0, 0, 3, 7, 0, 0, 48, 112, 255, 511] 0) true true) (.cond (.t 26) (.seq (.reg [Ol 4 .mv [cb false]]) .ret) .skip))) (.reg [O1 15 .mv 5, Ol 16 (.bin .add) [.t 15, ci 1], O1 5 .mv 16])))))) (.seq (.reg [Ol 4 .mv [cb true]]) .ret))))
theorem b_laws_eqNamedS : Body Try.prog 22 27 c_laws_eqNamedS [(.t 4)] := body_mk Try.func22 (by kernel_rfl) (by decide)
def REqEdge (xs : List AV) (r : AV) (objs : List AObj) : Prop := ∃ x y, xs = [.agg (edgeRow x), .agg (edgeRow y)] ∧ r = .bool (decide (x = y)) ∧ objs = []
theorem REqEdge_mk {x y : EdgeD} : REqEdge [.agg (edgeRow x), .agg (edgeRow y)] (.bool (decide (x = y))) [] := ⟨x, y, rfl, rfl, rfl⟩
theorem edge_eq_iff {x y : EdgeD} : x = y ↔ x.src = y.src ∧ x.letter = y.letter ∧ x.dst = y.dst ∧ x.mark = y.mark := by
  cases x; cases y; simp
theorem s_laws_eqEdge : PureSound Try.prog 143 REqEdge := by
  have hR : Rely Try.prog (ctxOf []) := rely_nil mixed
  refine pure_of_aw b_laws_eqEdge ?_
  rintro xs r objs ⟨x, y, rfl, rfl, rfl⟩ -
  refine ⟨by simp, vc2_sound hR _ _ _ _ _ ?_⟩
  conv => whnf
  repeat' ((first | contradiction | (refine And.intro (fun hb => ?_) (fun hb => ?_) <;> first | contradiction | ((try simp only [SB, reduceCtorEq] at hb); try (exfalso; first | contradiction | omega))) | refine G2 ?_ | rw [ints_at (by omega)] | rw [ints_at0 (by omega)] | rw [ints_at' (by omega) (by omega)] | refine G1 ?_ | fail) <;> conv => whnf)
  all_goals
    refine ⟨.inl rfl, ?_⟩
    conv => whnf
    refine ⟨[], ⟨rfl, trivial⟩, ?_, rfl, rfl⟩
    conv => whnf
    left
    conv => lhs; whnf
    refine congrArg AV.bool ?_
    simp_all [edge_eq_iff]
theorem eq_of_getDD {α : Type} [Inhabited α] {a b : List α} (h : a.length = b.length) (hj : ∀ j, j < a.length → a.getD j default = b.getD j default) : a = b := by
  apply List.ext_getElem h
  intro i h1 h2
  have := hj i h1
  simpa [List.getD_eq_getElem?_getD, List.getElem?_eq_getElem h1, List.getElem?_eq_getElem h2] using this
def REqEdgeS (xs : List AV) (r : AV) (objs : List AObj) : Prop := ∃ a b, xs = [.val (edgeRows a), .val (edgeRows b)] ∧ r = .bool (decide (a = b)) ∧ objs = []
theorem REqEdgeS_mk {a b : List EdgeD} : REqEdgeS [.val (edgeRows a), .val (edgeRows b)] (.bool (decide (a = b))) [] := ⟨a, b, rfl, rfl, rfl⟩
theorem s_laws_eqEdgeS : PureSound Try.prog 92 REqEdgeS := by
  have hR : Rely Try.prog (ctxOf [(143, .pure REqEdge)]) := rely_cons b_laws_eqEdge.has s_laws_eqEdge (rely_nil mixed)
  refine pure_of_aw b_laws_eqEdgeS ?_
  rintro xs r objs ⟨a, b, rfl, rfl, rfl⟩ ⟨w, own, vs, hrel⟩
  have hl : (edgeRows a).length ≤ 9223372036854775807 := by
    obtain ⟨v, hv⟩ := rels_at hrel (i := 0) rfl
    exact rel_len hv
  rw [length_edgeRows] at hl
  clear hrel
  have ha := length_edgeRows a
  have hb' := length_edgeRows b
  refine ⟨by simp, vc2_sound hR _ _ _ _ _ ?_⟩
  conv => whnf
  repeat' ((first | contradiction | (refine And.intro (fun hb => ?_) (fun hb => ?_) <;> first | contradiction | ((try simp only [SB, reduceCtorEq] at hb); try (exfalso; first | contradiction | omega))) | refine G2 ?_ | rw [ints_at (by omega)] | rw [ints_at0 (by omega)] | rw [ints_at' (by omega) (by omega)] | refine G1 ?_ | fail) <;> conv => whnf)
  · refine ⟨.inl rfl, ?_⟩
    conv => whnf
    refine ⟨[], ⟨rfl, trivial⟩, ?_, rfl, rfl⟩
    conv => whnf
    left
    conv => lhs; whnf
    refine congrArg AV.bool (Eq.symm (decide_eq_false ?_))
    intro h; subst h; exact hb rfl
  · refine Lp.intro (α := Nat) (fun i => i ≤ a.length ∧ ∀ j, j < i → a.getD j default = b.getD j default) (fun i => a.length - i) (fun i => [(0, .val (edgeRows a)), (1, .val (edgeRows b)), (5, .int .i64 i)]) (fun _ => []) ?_ ?_
    · refine ⟨0, ⟨by omega, by omega⟩, [], rfl, rfl, trivial, ?_⟩
      repeat' (first
        | exact trivial
        | refine ⟨?_, ?_⟩
        | fail)
      all_goals first
        | with_reducible rfl
        | (conv => whnf
           try left
           conv => lhs; whnf
           first
             | rfl
             | exact congrArg (AV.int .i64) (by omega)
             | skip)
    · rintro i ⟨hi, hall⟩
      refine vc2_sound hR _ _ _ _ _ ?_
      by_cases hlt : i < a.length
      · conv => whnf
        repeat' ((first | contradiction | (refine And.intro (fun hb => ?_) (fun hb => ?_) <;> first | contradiction | ((try simp only [SB, reduceCtorEq] at hb); try (exfalso; first | contradiction | omega))) | refine G2 ?_ | rw [ints_at (by omega)] | rw [ints_at0 (by omega)] | rw [ints_at' (by omega) (by omega)] | refine G1 ?_ | fail) <;> conv => whnf)
        rw [show (edgeRows a)[((i : Nat) : Int).toNat]? = some (edgeRow (a.getD i default)) from map_at hlt]
        conv => whnf
        repeat' ((first | contradiction | (refine And.intro (fun hb => ?_) (fun hb => ?_) <;> first | contradiction | ((try simp only [SB, reduceCtorEq] at hb); try (exfalso; first | contradiction | omega))) | refine G2 ?_ | rw [ints_at (by omega)] | rw [ints_at0 (by omega)] | rw [ints_at' (by omega) (by omega)] | refine G1 ?_ | fail) <;> conv => whnf)
        rw [show (edgeRows b)[((i : Nat) : Int).toNat]? = some (edgeRow (b.getD i default)) from map_at (by omega)]
        conv => whnf
        repeat' ((first | contradiction | (refine And.intro (fun hb => ?_) (fun hb => ?_) <;> first | contradiction | ((try simp only [SB, reduceCtorEq] at hb); try (exfalso; first | contradiction | omega))) | refine G2 ?_ | rw [ints_at (by omega)] | rw [ints_at0 (by omega)] | rw [ints_at' (by omega) (by omega)] | refine G1 ?_ | refine ⟨_, _, REqEdge_mk (x := a.getD i default) (y := b.getD i default), ?_⟩ | fail) <;> conv => whnf)
        · refine ⟨i + 1, ⟨by omega, fun j hj => ?_⟩, by omega, [], rfl, rfl, trivial, ?_⟩
          · by_cases hji : j = i
            · subst hji; exact hb
            · exact hall j (by omega)
          · repeat' (first
              | exact trivial
              | refine ⟨?_, ?_⟩
              | fail)
            all_goals first
              | with_reducible rfl
              | (conv => whnf
                 try left
                 conv => lhs; whnf
                 first
                   | rfl
                   | exact congrArg (AV.int .i64) (by omega)
                   | skip)
        · refine ⟨.inl rfl, ?_⟩
          conv => whnf
          refine ⟨[], ⟨rfl, trivial⟩, ?_, rfl, rfl⟩
          conv => whnf
          left
          conv => lhs; whnf
          refine congrArg AV.bool (Eq.symm (decide_eq_false ?_))
          intro h; subst h; exact hb rfl
      · conv => whnf
        repeat' ((first | contradiction | (refine And.intro (fun hb => ?_) (fun hb => ?_) <;> first | contradiction | ((try simp only [SB, reduceCtorEq] at hb); try (exfalso; first | contradiction | omega))) | refine G2 ?_ | rw [ints_at (by omega)] | rw [ints_at0 (by omega)] | rw [ints_at' (by omega) (by omega)] | refine G1 ?_ | fail) <;> conv => whnf)
        refine ⟨.inl rfl, ?_⟩
        conv => whnf
        refine ⟨[], ⟨rfl, trivial⟩, ?_, rfl, rfl⟩
        conv => whnf
        left
        conv => lhs; whnf
        refine congrArg AV.bool (Eq.symm (decide_eq_true ?_))
        exact eq_of_getDD (by omega) (fun j hj => hall j (by omega))
def REqAuto (xs : List AV) (r : AV) (objs : List AObj) : Prop := ∃ x y, xs = [.agg (autoRow x), .agg (autoRow y)] ∧ r = .bool (decide (x = y)) ∧ objs = []
theorem REqAuto_mk {x y : AutoD} : REqAuto [.agg (autoRow x), .agg (autoRow y)] (.bool (decide (x = y))) [] := ⟨x, y, rfl, rfl, rfl⟩
theorem auto_eq_iff {x y : AutoD} : x = y ↔ x.letters = y.letters ∧ x.states = y.states ∧ x.start = y.start ∧ x.edges = y.edges := by
  cases x; cases y; simp
theorem s_laws_eqAuto : PureSound Try.prog 34 REqAuto := by
  have hR : Rely Try.prog (ctxOf [(92, .pure REqEdgeS)]) := rely_cons b_laws_eqEdgeS.has s_laws_eqEdgeS (rely_nil mixed)
  refine pure_of_aw b_laws_eqAuto ?_
  rintro xs r objs ⟨x, y, rfl, rfl, rfl⟩ -
  refine ⟨by simp, vc2_sound hR _ _ _ _ _ ?_⟩
  conv => whnf
  repeat' ((first | contradiction | (refine And.intro (fun hb => ?_) (fun hb => ?_) <;> first | contradiction | ((try simp only [SB, reduceCtorEq] at hb); try (exfalso; first | contradiction | omega))) | refine G2 ?_ | rw [ints_at (by omega)] | rw [ints_at0 (by omega)] | rw [ints_at' (by omega) (by omega)] | refine G1 ?_ | refine ⟨_, _, REqEdgeS_mk (a := x.edges) (b := y.edges), ?_⟩ | fail) <;> conv => whnf)
  all_goals
    refine ⟨.inl rfl, ?_⟩
    conv => whnf
    refine ⟨[], ⟨rfl, trivial⟩, ?_, rfl, rfl⟩
    conv => whnf
    left
    conv => lhs; whnf
    refine congrArg AV.bool ?_
    simp_all [auto_eq_iff]
def REqNamed (xs : List AV) (r : AV) (objs : List AObj) : Prop := ∃ x y, xs = [.agg (namedRow x), .agg (namedRow y)] ∧ r = .bool (decide (x = y)) ∧ objs = []
theorem REqNamed_mk {x y : NamedD} : REqNamed [.agg (namedRow x), .agg (namedRow y)] (.bool (decide (x = y))) [] := ⟨x, y, rfl, rfl, rfl⟩
theorem named_eq_iff {x y : NamedD} : x = y ↔ x.name = y.name ∧ x.auto = y.auto := by
  cases x; cases y; simp
theorem s_laws_eqNamed : PureSound Try.prog 74 REqNamed := by
  have hR : Rely Try.prog (ctxOf [(34, .pure REqAuto)]) := rely_cons b_laws_eqAuto.has s_laws_eqAuto (rely_nil mixed)
  refine pure_of_aw b_laws_eqNamed ?_
  rintro xs r objs ⟨x, y, rfl, rfl, rfl⟩ -
  refine ⟨by simp, vc2_sound hR _ _ _ _ _ ?_⟩
  conv => whnf
  repeat' ((first | contradiction | (refine And.intro (fun hb => ?_) (fun hb => ?_) <;> first | contradiction | ((try simp only [SB, reduceCtorEq] at hb); try (exfalso; first | contradiction | omega))) | refine G2 ?_ | rw [ints_at (by omega)] | rw [ints_at0 (by omega)] | rw [ints_at' (by omega) (by omega)] | refine G1 ?_ | refine ⟨_, _, REqAuto_mk (x := x.auto) (y := y.auto), ?_⟩ | fail) <;> conv => whnf)
  all_goals
    refine ⟨.inl rfl, ?_⟩
    conv => whnf
    refine ⟨[], ⟨rfl, trivial⟩, ?_, rfl, rfl⟩
    conv => whnf
    left
    conv => lhs; whnf
    refine congrArg AV.bool ?_
    simp_all [named_eq_iff]
def REqNamedS (xs : List AV) (r : AV) (objs : List AObj) : Prop := ∃ a b, xs = [.val (namedRows a), .val (namedRows b)] ∧ r = .bool (decide (a = b)) ∧ objs = []
theorem REqNamedS_mk {a b : List NamedD} : REqNamedS [.val (namedRows a), .val (namedRows b)] (.bool (decide (a = b))) [] := ⟨a, b, rfl, rfl, rfl⟩
theorem s_laws_eqNamedS : PureSound Try.prog 22 REqNamedS := by
  have hR : Rely Try.prog (ctxOf [(74, .pure REqNamed)]) := rely_cons b_laws_eqNamed.has s_laws_eqNamed (rely_nil mixed)
  refine pure_of_aw b_laws_eqNamedS ?_
  rintro xs r objs ⟨a, b, rfl, rfl, rfl⟩ ⟨w, own, vs, hrel⟩
  have hl : (namedRows a).length ≤ 9223372036854775807 := by
    obtain ⟨v, hv⟩ := rels_at hrel (i := 0) rfl
    exact rel_len hv
  rw [length_namedRows] at hl
  clear hrel
  have ha := length_namedRows a
  have hb' := length_namedRows b
  refine ⟨by simp, vc2_sound hR _ _ _ _ _ ?_⟩
  conv => whnf
  repeat' ((first | contradiction | (refine And.intro (fun hb => ?_) (fun hb => ?_) <;> first | contradiction | ((try simp only [SB, reduceCtorEq] at hb); try (exfalso; first | contradiction | omega))) | refine G2 ?_ | rw [ints_at (by omega)] | rw [ints_at0 (by omega)] | rw [ints_at' (by omega) (by omega)] | refine G1 ?_ | fail) <;> conv => whnf)
  · refine ⟨.inl rfl, ?_⟩
    conv => whnf
    refine ⟨[], ⟨rfl, trivial⟩, ?_, rfl, rfl⟩
    conv => whnf
    left
    conv => lhs; whnf
    refine congrArg AV.bool (Eq.symm (decide_eq_false ?_))
    intro h; subst h; exact hb rfl
  · refine Lp.intro (α := Nat) (fun i => i ≤ a.length ∧ ∀ j, j < i → a.getD j default = b.getD j default) (fun i => a.length - i) (fun i => [(0, .val (namedRows a)), (1, .val (namedRows b)), (5, .int .i64 i)]) (fun _ => []) ?_ ?_
    · refine ⟨0, ⟨by omega, by omega⟩, [], rfl, rfl, trivial, ?_⟩
      repeat' (first
        | exact trivial
        | refine ⟨?_, ?_⟩
        | fail)
      all_goals first
        | with_reducible rfl
        | (conv => whnf
           try left
           conv => lhs; whnf
           first
             | rfl
             | exact congrArg (AV.int .i64) (by omega)
             | skip)
    · rintro i ⟨hi, hall⟩
      refine vc2_sound hR _ _ _ _ _ ?_
      by_cases hlt : i < a.length
      · conv => whnf
        repeat' ((first | contradiction | (refine And.intro (fun hb => ?_) (fun hb => ?_) <;> first | contradiction | ((try simp only [SB, reduceCtorEq] at hb); try (exfalso; first | contradiction | omega))) | refine G2 ?_ | rw [ints_at (by omega)] | rw [ints_at0 (by omega)] | rw [ints_at' (by omega) (by omega)] | refine G1 ?_ | fail) <;> conv => whnf)
        rw [show (namedRows a)[((i : Nat) : Int).toNat]? = some (namedRow (a.getD i default)) from map_at hlt]
        conv => whnf
        repeat' ((first | contradiction | (refine And.intro (fun hb => ?_) (fun hb => ?_) <;> first | contradiction | ((try simp only [SB, reduceCtorEq] at hb); try (exfalso; first | contradiction | omega))) | refine G2 ?_ | rw [ints_at (by omega)] | rw [ints_at0 (by omega)] | rw [ints_at' (by omega) (by omega)] | refine G1 ?_ | fail) <;> conv => whnf)
        rw [show (namedRows b)[((i : Nat) : Int).toNat]? = some (namedRow (b.getD i default)) from map_at (by omega)]
        conv => whnf
        repeat' ((first | contradiction | (refine And.intro (fun hb => ?_) (fun hb => ?_) <;> first | contradiction | ((try simp only [SB, reduceCtorEq] at hb); try (exfalso; first | contradiction | omega))) | refine G2 ?_ | rw [ints_at (by omega)] | rw [ints_at0 (by omega)] | rw [ints_at' (by omega) (by omega)] | refine G1 ?_ | refine ⟨_, _, REqNamed_mk (x := a.getD i default) (y := b.getD i default), ?_⟩ | fail) <;> conv => whnf)
        · refine ⟨i + 1, ⟨by omega, fun j hj => ?_⟩, by omega, [], rfl, rfl, trivial, ?_⟩
          · by_cases hji : j = i
            · subst hji; exact hb
            · exact hall j (by omega)
          · repeat' (first
              | exact trivial
              | refine ⟨?_, ?_⟩
              | fail)
            all_goals first
              | with_reducible rfl
              | (conv => whnf
                 try left
                 conv => lhs; whnf
                 first
                   | rfl
                   | exact congrArg (AV.int .i64) (by omega)
                   | skip)
        · refine ⟨.inl rfl, ?_⟩
          conv => whnf
          refine ⟨[], ⟨rfl, trivial⟩, ?_, rfl, rfl⟩
          conv => whnf
          left
          conv => lhs; whnf
          refine congrArg AV.bool (Eq.symm (decide_eq_false ?_))
          intro h; subst h; exact hb rfl
      · conv => whnf
        repeat' ((first | contradiction | (refine And.intro (fun hb => ?_) (fun hb => ?_) <;> first | contradiction | ((try simp only [SB, reduceCtorEq] at hb); try (exfalso; first | contradiction | omega))) | refine G2 ?_ | rw [ints_at (by omega)] | rw [ints_at0 (by omega)] | rw [ints_at' (by omega) (by omega)] | refine G1 ?_ | fail) <;> conv => whnf)
        refine ⟨.inl rfl, ?_⟩
        conv => whnf
        refine ⟨[], ⟨rfl, trivial⟩, ?_, rfl, rfl⟩
        conv => whnf
        left
        conv => lhs; whnf
        refine congrArg AV.bool (Eq.symm (decide_eq_true ?_))
        exact eq_of_getDD (by omega) (fun j hj => hall j (by omega))
end Go.Proofs.Ytpfbkblgefddlaa.Ct
namespace Go.Proofs.Ytpfbkblgefddlaa.Ct
set_option linter.unusedSimpArgs false
set_option linter.unusedVariables false
open Go Go.Proofs Go.Proofs.Ytpfbkblgefddlaa.Av
theorem two_pow_pos (n : Nat) : (1 : Int) ≤ 2 ^ n := by
  have : 0 < 2 ^ n := Nat.two_pow_pos n
  have h : ((2 ^ n : Nat) : Int) = (2 : Int) ^ n := by simp
  rw [← h]; omega
theorem two_pow_mono {m n : Nat} (h : m ≤ n) : (2 : Int) ^ m ≤ 2 ^ n := by
  have := Nat.pow_le_pow_right (n := 2) (by omega) h
  have h1 : ((2 ^ n : Nat) : Int) = (2 : Int) ^ n := by simp
  have h2 : ((2 ^ m : Nat) : Int) = (2 : Int) ^ m := by simp
  rw [← h1, ← h2]; omega
theorem two_pow_62 {n : Nat} (h : n ≤ 62) : (2 : Int) ^ n ≤ 4611686018427387904 := two_pow_mono h
theorem two_pow_31 {n : Nat} (h : n ≤ 31) : (2 : Int) ^ n ≤ 2147483648 := two_pow_mono h
theorem two_pow_30 {n : Nat} (h : n ≤ 30) : (2 : Int) ^ n ≤ 1073741824 := two_pow_mono h
theorem shl_one {s : Int} (h0 : 0 ≤ s) (h1 : s ≤ 62) : IntKind.i64.wrap (1 * 2 ^ (Nat.min s.toNat IntKind.i64.bits)) = 2 ^ s.toNat := by
  have hb : IntKind.i64.bits = 64 := rfl
  have hm : Nat.min s.toNat IntKind.i64.bits = s.toNat := by rw [hb]; exact Nat.min_eq_left (by omega)
  rw [hm]
  have h2 := two_pow_62 (n := s.toNat) (by omega)
  have h3 := two_pow_pos s.toNat
  rw [Int.one_mul]
  exact IntWalk.i64_in _ (by omega)
theorem toNat_ofInt64 {t : Int} (h0 : 0 ≤ t) (h1 : t < 18446744073709551616) : (BitVec.ofInt 64 t).toNat = t.toNat := by
  rw [BitVec.toNat_ofInt]
  congr 1
  exact Int.emod_eq_of_lt h0 (by simpa using h1)
theorem and_val {a b : Int} (ha : 0 ≤ a) (ha' : a ≤ 4611686018427387904) (hb : 0 ≤ b) (hb' : b ≤ 4611686018427387904) :
    IntKind.i64.wrap (BitVec.ofInt IntKind.i64.bits a &&& BitVec.ofInt IntKind.i64.bits b).toNat = ((a.toNat &&& b.toNat : Nat) : Int) := by
  have hbits : IntKind.i64.bits = 64 := rfl
  rw [hbits, BitVec.toNat_and, toNat_ofInt64 ha (by omega), toNat_ofInt64 hb (by omega)]
  have : a.toNat &&& b.toNat ≤ a.toNat := Nat.and_le_left
  exact IntWalk.i64_in _ (by omega)
theorem and_mask {t s : Int} (h0 : 0 ≤ t) (h1 : t ≤ 2147483647) (hs : 0 ≤ s) (hs' : s ≤ 31) :
    IntKind.i64.wrap (BitVec.ofInt IntKind.i64.bits t &&& BitVec.ofInt IntKind.i64.bits (2 ^ s.toNat - 1)).toNat = t % 2 ^ s.toNat := by
  have h2 := two_pow_31 (n := s.toNat) (by omega)
  have h3 := two_pow_pos s.toNat
  rw [and_val h0 (by omega) (by omega) (by omega)]
  have e : ((2 : Int) ^ s.toNat - 1).toNat = 2 ^ s.toNat - 1 := by
    have h : ((2 ^ s.toNat : Nat) : Int) = (2 : Int) ^ s.toNat := by simp
    omega
  rw [e, Nat.and_two_pow_sub_one_eq_mod]
  rw [Int.natCast_emod]
  simp
  rw [Int.max_eq_left h0]
theorem mask_same {t s : Int} (h0 : 0 ≤ t) : t % 2 ^ s.toNat = t ↔ t < 2 ^ s.toNat := by
  have h3 := two_pow_pos s.toNat
  constructor
  · intro h
    have := Int.emod_lt_of_pos t (b := 2 ^ s.toNat) (by omega)
    omega
  · intro h
    exact Int.emod_eq_of_lt h0 h
end Go.Proofs.Ytpfbkblgefddlaa.Ct
