/- Regions: operations one behind the other, guards, calls. -/
import Derived.Test.YtpfbkblgefddlaaAvCall2
import Derived.Test.YtpfbkblgefddlaaAvOps5
namespace Go.Proofs.Ytpfbkblgefddlaa.Av
set_option linter.unusedSimpArgs false
set_option linter.unusedVariables false
open Go

abbrev Ctx := Nat → Option Spec

def Env.updo (e : Env) (d : Option Nat) (v : AV) : Env := match d with
  | some t => e.upd t v
  | none => e

/-- what a call of function f with these arguments does -/
abbrev CallF := Nat → List AV → Heap → Nat → Kont → Prop

def opX (C : CallF) (o : IOper) (e : Env) (h : Heap) (n : Nat) (K : Kont) : Prop :=
  match o.tag with
  | .call f => C f (o.args.map (Opd.ev e)) h n K
  | .dyn => (match o.args.map (Opd.ev e) with
    | .fn f caps :: r => C f (r ++ caps) h n K
    | _ => False)
  | t => sem t (o.args.map (Opd.ev e)) h n K

def CK (Γ : Ctx) : CallF := fun f xs h n K => match Γ f with
  | some S => S.call xs h n K
  | none => False

def opK (Γ : Ctx) (o : IOper) (e : Env) (h : Heap) (n : Nat) (K : Kont) : Prop := opX (CK Γ) o e h n K

def guardK (o : IOper) (e : Env) (yes no : Prop) : Prop := match o.g with
  | none => yes
  | some (t, b) => match e t with
    | .bool c => (c = b → yes) ∧ (c ≠ b → no)
    | .undef => no
    | _ => False

def regK (Γ : Ctx) : List IOper → Env → Heap → Nat → (Env → Heap → Nat → Prop) → Prop
  | [], e, h, n, K => K e h n
  | o :: r, e, h, n, K => guardK o e (opK Γ o e h n fun v h' n' => regK Γ r (e.updo o.dst v) h' n' K) (regK Γ r (e.updo o.dst .undef) h n K)

def CtxSound (P : Program) (Γ : Ctx) : Prop := ∀ f S, Γ f = some S → S.Sound P f

/-- The objects that stay under their numbers: the first k. -/
structure Anch where
  k : Nat
  pl : Pl

def Anch.at (A : Anch) (π : Pl) (n : Nat) : Prop := A.k ≤ n ∧ ∀ id, id < A.k → π id = A.pl id ∨ π id = none

theorem Anch.at_mono {A : Anch} {own0 : Nat → Prop} {π π' : Pl} {n n' : Nat} {w w' : World} (h : A.at π n) (m : Mono own0 π π' n n' w w') : A.at π' n' := by
  refine ⟨Nat.le_trans h.1 m.le, fun id hid => ?_⟩
  cases hp : π id with
  | none => exact .inr (m.dead id hp (Nat.lt_of_lt_of_le hid h.1))
  | some p =>
    rcases h.2 id hid with h1 | h1
    · rcases (m.pl id p hp).1 with h2 | h2
      · exact .inl (by rw [h2, ← h1, hp])
      · exact .inr h2
    · rw [hp] at h1; cases h1

section
variable {P : Program} {w0 : World} {pass own0 : Nat → Prop} {A : Anch} {π : Pl} {e : Env} {h : Heap} {n : Nat} {a : Act} {w : World}

/-- The walk's knowledge, with the frame's form. -/
def St (w0 : World) (pass own0 : Nat → Prop) (A : Anch) (N : Nat) (e : Env) (h : Heap) (n : Nat) (a : Act) (w : World) : Prop :=
  a.defers = [] ∧ a.tmps.size = N ∧ ∃ π, A.at π n ∧ Sim w0 pass own0 π e h n a w

theorem St.put {N : Nat} {π' : Pl} {h' : Heap} {n' : Nat} {w' : World} (hd : a.defers = []) (hs : a.tmps.size = N) (hA : A.at π n) (s : Sim w0 pass own0 π e h n a w) (g : Go1 w0 pass own0 π n w π' h' n' w') {x : AV} {v : Value} (hr : Rel w' (ownOf own0 π') π' n' x v)
    (d : Option Nat) (hdst : ∀ t, d = some t → t < N) : St w0 pass own0 A N (e.updo d x) h' n' (a.put d v) w' := by
  cases d with
  | none => exact ⟨hd, hs, π', Anch.at_mono hA g.mono, s.put_none g v⟩
  | some t => exact ⟨hd, by simp [Act.put, hs], π', Anch.at_mono hA g.mono, s.put g hr t (by rw [hs]; exact hdst t rfl)⟩

theorem getD_bool {l : Array Value} {d : Nat} {c : Bool} (h : l.getD d Go.undef = .bool c) : l[d]? = some (.bool c) := by
  rw [Array.getD_eq_getD_getElem?] at h
  cases hq : l[d]? with
  | none => rw [hq] at h; simp [Go.undef] at h
  | some v => rw [hq] at h; simp at h; rw [h]

theorem call_sound (s : Sim w0 pass own0 π e h n a w) {f : Nat} {S : Spec} (hf : S.Sound P f) {xs : List AV} {vs : Array Value} (hr : Rels w (ownOf own0 π) π n xs vs.toList) {K : Kont} (hk : S.call xs h n K) :
    CallDone P w0 pass own0 π n w f vs K := by
  cases S with
  | pure R => exact call_pure s hf hr hk
  | loose R => exact call_loose s hf hr hk
  | gen k G => exact call_gen s hf hr hk

theorem rels_opds (s : Sim w0 pass own0 π e h n a w) {xs : List Operand} {ys : List Opd} (hc : cOpds xs = some ys) : Rels w (ownOf own0 π) π n (ys.map (Opd.ev e)) (xs.map a.eval) := rel_opds s xs ys hc

/-- a call of a Go function, as the model resolves it -/
theorem run_call {o : Oper} {c : Call} (hop : o.op = .call c) {fv : Operand} (hcal : c.callee = .value fv) {f : Nat} {cs : Array Value} (hfv : a.eval fv = .func (.func f) #[] cs) {fn : Func} (hfn : P.funcs[f]? = some fn) (hb : fn.body.isSome = true)
    (hname : fn.name ≠ "runtime.NumGoroutine") : (execOp a.eval o).run P w = .ok (.enter f (c.args.map a.eval ++ cs)) w := by
  obtain ⟨b, hb⟩ := Option.isSome_iff_exists.1 hb
  simp [execOp, hop, resolve, hcal, Deferred.ofValue, hfv, invoke, callFunc, hfn, hb, hname]

theorem cOp_call {op : Op} {f : Nat} {args : List Opd} (h : cOp P op = some (.call f, args)) : ∃ c, op = .call c ∧ c.callee = .value (.func f) ∧ cOpds c.args.toList = some args := by
  unfold cOp at h
  cases op <;> simp only [] at h
  case call c =>
    refine ⟨c, rfl, ?_⟩
    (repeat' split at h) <;> simp_all
  all_goals (repeat' split at h) <;> first | (simp at h; done) | simp_all

theorem cOp_dyn {op : Op} {args : List Opd} (h : cOp P op = some (.dyn, args)) : ∃ c t l, op = .call c ∧ c.callee = .value (.tmp t) ∧ cOpds c.args.toList = some l ∧ args = .t t :: l := by
  unfold cOp at h
  cases op <;> simp only [] at h
  case call c =>
    refine ⟨c, ?_⟩
    (repeat' split at h) <;> simp_all
    obtain ⟨l, h1, h2⟩ := h
    exact ⟨l, h1, h2.symm⟩
  all_goals (repeat' split at h) <;> first | (simp at h; done) | simp_all

theorem cOpT_call {op : Op} {f : Nat} {args : List Opd} (h : cOpT P op = some (.call f, args)) : cOp P op = some (.call f, args) := by
  unfold cOpT at h
  split at h
  · rename_i x hx; rw [hx]; exact h
  · first | exact absurd (Option.some.inj h) (cOpE_call _ _ _ _) | exact absurd (Option.some.inj h) (cOpE_dyn _ _ _)

theorem cOpT_dyn {op : Op} {args : List Opd} (h : cOpT P op = some (.dyn, args)) : cOp P op = some (.dyn, args) := by
  unfold cOpT at h
  split at h
  · rename_i x hx; rw [hx]; exact h
  · first | exact absurd (Option.some.inj h) (cOpE_call _ _ _ _) | exact absurd (Option.some.inj h) (cOpE_dyn _ _ _)

theorem upon_calls {o : Oper} {f : Nat} {vs : Array Value} (hrun : (execOp a.eval o).run P w = .ok (.enter f vs) w) {K : Kont} (hc : CallDone P w0 pass own0 π n w f vs K) {KK : Act → World → Prop} {Q : Exit → Act → World → Prop}
    (hk : ∀ v π' x h' n' w', Go1 w0 pass own0 π n w π' h' n' w' → Rel w' (ownOf own0 π') π' n' x v → K x h' n' → KK (a.put o.dst v) w') : o.wp P a w KK Q := by
  unfold Oper.wp
  rw [hrun, Oper.upon_enter]
  refine Calls.mono hc ?_
  rintro e w' ⟨v, π', x, h', n', rfl, g, hr, hkk⟩
  exact hk v π' x h' n' w' g hr hkk

/-- the functions that are called have Go bodies -/
def HasBody (P : Program) (f : Nat) : Prop := ∃ fn, P.funcs[f]? = some fn ∧ fn.body.isSome = true ∧ fn.name ≠ "runtime.NumGoroutine"
def CtxBody (P : Program) (Γ : Ctx) : Prop := ∀ f S, Γ f = some S → HasBody P f

/-- A meaning of calls that holds. -/
def CallOk (P : Program) (C : CallF) : Prop := ∀ f, (∃ xs h n K, C f xs h n K) → HasBody P f ∧
  ∀ (w0 : World) (pass own0 : Nat → Prop) (π : Pl) (e : Env) (h : Heap) (n : Nat) (a : Act) (w : World) (xs : List AV) (vs : Array Value) (K : Kont), Sim w0 pass own0 π e h n a w → Rels w (ownOf own0 π) π n xs vs.toList → C f xs h n K → CallDone P w0 pass own0 π n w f vs K

theorem callOk_K {Γ : Ctx} (hΓ : CtxSound P Γ) (hB : CtxBody P Γ) : CallOk P (CK Γ) := by
  rintro f ⟨xs, h, n, K, hc⟩
  unfold CK at hc
  cases hS : Γ f with
  | none => simp [hS] at hc
  | some S =>
    refine ⟨hB f S hS, fun w0 pass own0 π e h n a w xs vs K s hr hk => ?_⟩
    simp only [CK, hS] at hk
    exact call_sound s (hΓ f S hS) hr hk

theorem cTag_spec (ops : Array Oper) (o : Oper) (tag : Tag) (args : List Opd) : cTag ops o tag args = tag ∨ (∃ z, tag = .bsl z ∧ cTag ops o tag args = .bslv z) ∨ ∃ z, tag = .bsl z ∧ args = [] ∧ cTag ops o tag args = .bsle := by
  unfold cTag
  split
  · exact .inr (.inr ⟨_, rfl, rfl, rfl⟩)
  · rename_i s _ _
    by_cases hv : varArg ops o = true
    · exact .inr (.inl ⟨s, rfl, by rw [if_pos hv]⟩)
    · exact .inl (by rw [if_neg hv])
  · exact .inl rfl

theorem oper_sound {C : CallF} (hC : CallOk P C) {ops : Array Oper} {o : Oper} {io : IOper} (hc : cOper P ops o = some io) {N : Nat} (hdst : ∀ t, io.dst = some t → t < N) (st : St w0 pass own0 A N e h n a w)
    {K : Env → Heap → Nat → Prop} (hk : guardK io e (opX C io e h n fun v h' n' => K (e.updo io.dst v) h' n') (K (e.updo io.dst .undef) h n)) {Q : Exit → Act → World → Prop} {KK : Act → World → Prop}
    (hKK : ∀ e' h' n' a' w', K e' h' n' → St w0 pass own0 A N e' h' n' a' w' → KK a' w') :
    if Region.wanted o (yielded ops a.tmps) then o.wp P a w KK Q ∨ (o.asks P a w ∧ LetsOut Q) else KK (a.put o.dst Go.undef) w := by
  obtain ⟨hdef, hsz, π, hA, s⟩ := st
  unfold cOper at hc
  split at hc
  case h_2 => cases hc
  rename_i tag args hop
  have hio : io.dst = o.dst ∧ io.tag = cTag ops o tag args ∧ io.args = args := by
    split at hc
    · cases hc; exact ⟨rfl, rfl, rfl⟩
    · split at hc
      · cases hc; exact ⟨rfl, rfl, rfl⟩
      · cases hc
  obtain ⟨e1, e2, e3⟩ := hio
  have yes : opX C io e h n (fun v h' n' => K (e.updo io.dst v) h' n') → o.wp P a w KK Q := by
    intro hy
    have fin : ∀ v π' x h' n' w', Go1 w0 pass own0 π n w π' h' n' w' → Rel w' (ownOf own0 π') π' n' x v → K (e.updo io.dst x) h' n' → KK (a.put o.dst v) w' := by
      intro v π' x h' n' w' g hr hkk
      refine hKK _ _ _ _ _ hkk ?_
      rw [← e1]
      exact St.put hdef hsz hA s g hr io.dst hdst
    unfold opX at hy
    rw [e2, e3] at hy
    have plain : sem tag (args.map (Opd.ev e)) h n (fun v h' n' => K (e.updo io.dst v) h' n') → o.wp P a w KK Q := by
      intro hy
      obtain ⟨nx, v, w', π', x, h', n', g1, g2, g3, g4, g5⟩ := op_doneT (P := P) s hop hy
      unfold Oper.wp
      rw [g1]
      cases nx <;> simp only [nextVal, Option.some.injEq] at g2 <;> first | (cases g2; done) | skip
      · subst g2; rw [Oper.upon_value]; exact fin _ _ _ _ _ _ g3 g4 g5
      · subst g2; rw [Oper.upon_skip]; exact fin _ _ _ _ _ _ g3 g4 g5
    have docall : ∀ (c : Call) (fv : Operand) (f : Nat) (cs : Array Value) (caps : List AV) (l : List Opd), o.op = .call c → c.callee = .value fv → a.eval fv = .func (.func f) #[] cs → cOpds c.args.toList = some l →
        Rels w (ownOf own0 π) π n caps cs.toList → C f (l.map (Opd.ev e) ++ caps) h n (fun v h' n' => K (e.updo io.dst v) h' n') → o.wp P a w KK Q := by
      intro c fv f cs caps l h1 h2 h3 h4 h5 h7
      obtain ⟨⟨fn, b1, b2, b3⟩, hcall⟩ := hC f ⟨_, _, _, _, h7⟩
      refine upon_calls (run_call (P := P) h1 h2 h3 b1 b2 b3) (hcall w0 pass own0 π e h n a w _ _ _ s ?_ h7) fin
      obtain ⟨r1, r2⟩ := rels_opds s h4
      refine ⟨by simp [r1, h5.1], fun i x v k1 k2 => ?_⟩
      simp only [Array.toList_append, Array.toList_map] at k2
      rw [List.getElem?_append] at k1 k2
      rw [r1] at k1
      split at k1
      · rename_i hlt; rw [if_pos hlt] at k2; exact r2 i x v k1 k2
      · rename_i hlt; rw [if_neg hlt] at k2; exact h5.2 _ x v k1 k2
    rcases cTag_spec ops o tag args with hct | ⟨z, rfl, hct⟩ | ⟨z, rfl, rfl, hct⟩
    case inr.inr =>
      rw [hct] at hy
      simp only [] at hy
      obtain ⟨nx, v, w', π', x, h', n', g1, g2, g3, g4, g5⟩ := op_doneV0 (P := P) s hop hy
      unfold Oper.wp
      rw [g1]
      cases nx <;> simp only [nextVal, Option.some.injEq] at g2 <;> first | (cases g2; done) | skip
      · subst g2; rw [Oper.upon_value]; exact fin _ _ _ _ _ _ g3 g4 g5
      · subst g2; rw [Oper.upon_skip]; exact fin _ _ _ _ _ _ g3 g4 g5
    case inr.inl =>
      rw [hct] at hy
      simp only [] at hy
      obtain ⟨nx, v, w', π', x, h', n', g1, g2, g3, g4, g5⟩ := op_doneV (P := P) s hop hy
      unfold Oper.wp
      rw [g1]
      cases nx <;> simp only [nextVal, Option.some.injEq] at g2 <;> first | (cases g2; done) | skip
      · subst g2; rw [Oper.upon_value]; exact fin _ _ _ _ _ _ g3 g4 g5
      · subst g2; rw [Oper.upon_skip]; exact fin _ _ _ _ _ _ g3 g4 g5
    rw [hct] at hy
    split at hy
    · rename_i f
      obtain ⟨c, g1, g2, g3⟩ := cOp_call (cOpT_call hop)
      exact docall c _ f #[] [] args g1 g2 rfl g3 ⟨rfl, by simp⟩ (by simpa using hy)
    · obtain ⟨c, t, l, g1, g2, g3, rfl⟩ := cOp_dyn (cOpT_dyn hop)
      split at hy
      · rename_i f caps r hl
        simp only [List.map_cons, List.cons.injEq] at hl
        obtain ⟨k1, rfl⟩ := hl
        have hrel := s.env t
        have k1' : e t = .fn f caps := k1
        rw [k1'] at hrel
        generalize hv : a.tmps.getD t Go.undef = v at hrel
        cases hrel with
        | fn _ _ cs hl hh =>
          exact docall c (.tmp t) f cs caps l g1 g2 hv g3 ⟨by simpa using hl.symm, fun i x v h1 h2 => hh i x v h1 (by simpa using h2)⟩ hy
      · exact hy.elim
    · exact plain hy
  have no : K (e.updo io.dst .undef) h n → KK (a.put o.dst Go.undef) w := by
    intro hn
    refine hKK _ _ _ _ _ hn ?_
    rw [← e1]
    exact St.put hdef hsz hA s s.stay .undef io.dst hdst
  unfold guardK at hk
  cases hg : o.guard with
  | none =>
    have hig : io.g = none := by rw [hg] at hc; cases hc; rfl
    rw [hig] at hk
    have hw : Region.wanted o (yielded ops a.tmps) = true := by simp [Region.wanted, hg]
    rw [if_pos hw]
    exact .inl (yes hk)
  | some gb =>
    obtain ⟨j, b⟩ := gb
    rw [hg] at hc
    simp only [] at hc
    split at hc
    · rename_i d hd
      cases hc
      simp only [] at hk
      have hrel := s.env d
      have hyl : yielded ops a.tmps j = match a.tmps[d]? with | some (.bool c) => some c | _ => none := by
        simp only [yielded, hd, Option.bind_some]
        rfl
      cases hed : e d <;> rw [hed] at hk hrel <;> simp only [] at hk <;> first | exact hk.elim | skip
      · have hnw : ¬ (Region.wanted o (yielded ops a.tmps) = true) := by
          generalize hv : a.tmps.getD d Go.undef = v at hrel
          cases hrel
          have : yielded ops a.tmps j = none := by
            rw [hyl]
            rw [Array.getD_eq_getD_getElem?] at hv
            cases hq : a.tmps[d]? with
            | none => rfl
            | some u => rw [hq] at hv; simp at hv; rw [hv]; rfl
          simp [Region.wanted, hg, this]
        rw [if_neg hnw]
        exact no hk
      · rename_i c
        have hyc : yielded ops a.tmps j = some c := by
          generalize hv : a.tmps.getD d Go.undef = v at hrel
          cases hrel
          rw [hyl, getD_bool hv]
        by_cases hcb : c = b
        · have hw : Region.wanted o (yielded ops a.tmps) = true := by simp [Region.wanted, hg, hyc, hcb]
          rw [if_pos hw]
          exact .inl (yes (hk.1 hcb))
        · have hnw : ¬ (Region.wanted o (yielded ops a.tmps) = true) := by simp [Region.wanted, hg, hyc, hcb]
          rw [if_neg hnw]
          exact no (hk.2 hcb)
    · cases hc

/-- operations in the order of the text -/
theorem reg_sound {Γ : Ctx} (hC : CallOk P (CK Γ)) {ops : Array Oper} {N : Nat} {Q : Exit → Act → World → Prop} : ∀ (l : List Nat) (ios : List IOper) (e : Env) (h : Heap) (n : Nat) (a : Act) (w : World) (K : Env → Heap → Nat → Prop),
    l.length = ios.length → (∀ (i : Nat) k io, l[i]? = some k → ios[i]? = some io → ∃ o, ops[k]? = some o ∧ cOper P ops o = some io ∧ ∀ t, io.dst = some t → t < N) →
    St w0 pass own0 A N e h n a w → regK Γ ios e h n K → (∀ e' h' n' a' w', K e' h' n' → St w0 pass own0 A N e' h' n' a' w' → Q .normal a' w') → wpOps P ops Q l a w
  | [], [], e, h, n, a, w, K, _, _, st, hk, hQ => hQ _ _ _ _ _ hk st
  | k :: l, io :: ios, e, h, n, a, w, K, hl, hc, st, hk, hQ => by
    obtain ⟨o, ho, hco, hdst⟩ := hc 0 k io rfl rfl
    simp only [wpOps, ho]
    exact oper_sound (P := P) hC hco hdst st (K := fun e h n => regK Γ ios e h n K) hk (fun e' h' n' a' w' hk' st' => reg_sound hC l ios e' h' n' a' w' K (by simpa using hl) (fun i k io h1 h2 => hc (i + 1) k io (by simpa using h1) (by simpa using h2)) st' hk' hQ)
  | [], _ :: _, _, _, _, _, _, _, hl, _, _, _, _ => by simp at hl
  | _ :: _, [], _, _, _, _, _, _, hl, _, _, _, _ => by simp at hl

/-- .. a part of them, and then the rest -/
theorem reg_sound2 {Γ : Ctx} (hC : CallOk P (CK Γ)) {ops : Array Oper} {N : Nat} {Q : Exit → Act → World → Prop} {l2 : List Nat} : ∀ (l : List Nat) (ios : List IOper) (e : Env) (h : Heap) (n : Nat) (a : Act) (w : World) (K : Env → Heap → Nat → Prop),
    l.length = ios.length → (∀ (i : Nat) k io, l[i]? = some k → ios[i]? = some io → ∃ o, ops[k]? = some o ∧ cOper P ops o = some io ∧ ∀ t, io.dst = some t → t < N) →
    St w0 pass own0 A N e h n a w → regK Γ ios e h n K → (∀ e' h' n' a' w', K e' h' n' → St w0 pass own0 A N e' h' n' a' w' → wpOps P ops Q l2 a' w') → wpOps P ops Q (l ++ l2) a w
  | [], [], e, h, n, a, w, K, _, _, st, hk, hQ => hQ _ _ _ _ _ hk st
  | k :: l, io :: ios, e, h, n, a, w, K, hl, hc, st, hk, hQ => by
    obtain ⟨o, ho, hco, hdst⟩ := hc 0 k io rfl rfl
    simp only [List.cons_append, wpOps, ho]
    exact oper_sound (P := P) hC hco hdst st (K := fun e h n => regK Γ ios e h n K) hk (fun e' h' n' a' w' hk' st' => reg_sound2 hC l ios e' h' n' a' w' K (by simpa using hl) (fun i k io h1 h2 => hc (i + 1) k io (by simpa using h1) (by simpa using h2)) st' hk' hQ)
  | [], _ :: _, _, _, _, _, _, _, hl, _, _, _, _ => by simp at hl
  | _ :: _, [], _, _, _, _, _, _, hl, _, _, _, _ => by simp at hl

end
end Go.Proofs.Ytpfbkblgefddlaa.Av
