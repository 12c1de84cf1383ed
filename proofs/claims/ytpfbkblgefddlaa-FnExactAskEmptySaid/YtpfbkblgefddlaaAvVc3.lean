/- The condition for bodies with regions of open order in which calls write. -/
import Derived.Test.YtpfbkblgefddlaaAvVc2
namespace Go.Proofs.Ytpfbkblgefddlaa.Av
set_option linter.unusedSimpArgs false
set_option linter.unusedVariables false
open Go

def allEq (f g : Heap) (ids : List Nat) (K : Prop) : Prop := List.rec (motive := fun _ => Prop) K (fun id _ ih => f id = g id ∧ ih) ids
theorem allEq_iff {f g : Heap} {K : Prop} : ∀ {ids : List Nat}, allEq f g ids K → (∀ id ∈ ids, f id = g id) ∧ K
  | [], h => ⟨fun _ h => (by cases h), h⟩
  | a :: r, h => by
    have h' : f a = g a ∧ allEq f g r K := h
    obtain ⟨h1, h2⟩ := allEq_iff h'.2
    refine ⟨fun id hid => ?_, h2⟩
    rcases List.mem_cons.1 hid with rfl | hid
    · exact h'.1
    · exact h1 id hid

def okE (a b : DRec) (K : Prop) : Prop := match a.w, b.w with
  | false, true => allEq b.ha b.hb a.ids K
  | true, false => allEq a.ha a.hb b.ids K
  | _, _ => K

theorem okE_iff {a b : DRec} {K : Prop} (h : okE a b K) : okPair a b ∧ K := by
  unfold okE at h
  unfold okPair
  cases ha : a.w <;> cases hb : b.w <;> simp only [ha, hb] at h
  · exact ⟨⟨fun _ h => (by cases h), fun h => (by cases h)⟩, h⟩
  · obtain ⟨h1, h2⟩ := allEq_iff h
    exact ⟨⟨fun _ _ => h1, fun h => (by cases h)⟩, h2⟩
  · obtain ⟨h1, h2⟩ := allEq_iff h
    exact ⟨⟨fun h => (by cases h), fun _ _ => h1⟩, h2⟩
  · exact ⟨⟨fun h => (by cases h), fun _ h => (by cases h)⟩, h⟩

def pairE (us : List (List Nat)) (i : Nat) (acc : List DRec) (r : DRec) (K : Prop) : Prop :=
  List.rec (motive := fun _ => Prop) K (fun a _ ih => match uOf us a.i i with
    | true => okE a r ih
    | false => ih) acc

theorem pairE_iff {us : List (List Nat)} {i : Nat} {r : DRec} {K : Prop} : ∀ {acc : List DRec}, pairE us i acc r K → (∀ a ∈ acc, uOf us a.i i = true → okPair a r) ∧ K
  | [], h => ⟨fun _ h => (by cases h), h⟩
  | a :: l, h => by
    have h' : (match uOf us a.i i with
      | true => okE a r (pairE us i l r K)
      | false => pairE us i l r K) := h
    cases hu : uOf us a.i i with
    | true =>
      rw [hu] at h'
      obtain ⟨h1, h2⟩ := okE_iff h'
      obtain ⟨h3, h4⟩ := pairE_iff h2
      refine ⟨fun b hb hub => ?_, h4⟩
      rcases List.mem_cons.1 hb with rfl | hb
      · exact h1
      · exact h3 b hb hub
    | false =>
      rw [hu] at h'
      obtain ⟨h3, h4⟩ := pairE_iff h'
      refine ⟨fun b hb hub => ?_, h4⟩
      rcases List.mem_cons.1 hb with rfl | hb
      · rw [hu] at hub; cases hub
      · exact h3 b hb hub

/-- does an operation touch objects at all -/
def IOper.tch (o : IOper) : Bool := o.wr || o.rd

def drdE (Γ : Ctx) (us : List (List Nat)) (l : List IOper) : Nat → List DRec → Env → Heap → Nat → (Env → Heap → Nat → Prop) → Prop :=
  List.rec (motive := fun _ => Nat → List DRec → Env → Heap → Nat → (Env → Heap → Nat → Prop) → Prop) (fun _ _ e h n K => K e h n)
    (fun o _ ih i acc e h n K => guardK2 o e
      (opK2 Γ o e h n fun v h' n' => match o.tch with
        | true => pairE us i acc (recOf i o e h h') (forceT o.tag v fun v => ih (i + 1) (recOf i o e h h' :: acc) (e.updo o.dst v) h' n' K)
        | false => forceT o.tag v fun v => ih (i + 1) acc (e.updo o.dst v) h' n' K)
      (ih (i + 1) acc (e.updo o.dst .undef) h n K)) l

theorem opX_U {Γ : Ctx} {o : IOper} {e : Env} {h : Heap} {n : Nat} {K K' : Kont} (hk : ∀ v h' n', K v h' n' → K' v h' n') (hs : opK Γ o e h n K) : opX (CU Γ) o e h n K' := by
  unfold opK opX at hs
  unfold opX
  split at hs
  · exact ⟨K, hs, hk⟩
  · split at hs
    · exact ⟨K, hs, hk⟩
    · exact hs.elim
  · exact sem_mono hk hs

theorem drdE_sound {Γ : Ctx} {us : List (List Nat)} {ios : List IOper} {K : Env → Heap → Nat → Prop} : ∀ (l : List IOper) (i : Nat) (acc accF : List DRec) (e : Env) (h : Heap) (n : Nat),
    l = ios.drop i → (∀ z ∈ accF, (z ∈ acc ∨ (z.w = false ∧ z.ids = [])) ∧ z.i < i) → drdE Γ us l i acc e h n K → drdK (CU Γ) (uOf us) ios (List.range' i l.length) accF e h n K
  | [], i, acc, accF, e, h, n, _, _, hk => hk
  | o :: r, i, acc, accF, e, h, n, hl, hacc, hk => by
    have ho : ios[i]? = some o := by
      have := congrArg (fun z => z[0]?) hl
      simp only [List.getElem?_cons_zero, List.getElem?_drop, Nat.add_zero] at this
      exact this.symm
    have hr : r = ios.drop (i + 1) := by
      have := congrArg List.tail hl
      simpa using this
    have hk' : guardK2 o e
      (opK2 Γ o e h n fun v h' n' => match o.tch with
        | true => pairE us i acc (recOf i o e h h') (forceT o.tag v fun v => drdE Γ us r (i + 1) (recOf i o e h h' :: acc) (e.updo o.dst v) h' n' K)
        | false => forceT o.tag v fun v => drdE Γ us r (i + 1) acc (e.updo o.dst v) h' n' K)
      (drdE Γ us r (i + 1) acc (e.updo o.dst .undef) h n K) := hk
    simp only [List.length_cons, List.range'_succ, drdK, ho, stepT]
    rw [guardK2_eq, guardK_iff] at hk'
    rw [guardK_iff]
    rcases hk' with ⟨g1, g2⟩ | ⟨g1, g2⟩
    · refine .inl ⟨g1, ?_⟩
      rw [opK2_eq] at g2
      refine opX_U (fun v h' n' hv => ?_) g2
      have hlt : ∀ z ∈ accF, ¬ uOf us i z.i = true := by
        intro z hz hu
        have := (hacc z hz).2
        simp only [uOf, Bool.and_eq_true, decide_eq_true_eq] at hu
        omega
      cases ht : o.tch with
      | true =>
        simp only [ht, forceT_eq] at hv
        obtain ⟨h1, h2⟩ := pairE_iff hv
        refine ⟨fun z hz hu => ?_, drdE_sound r (i + 1) _ _ _ _ _ hr (fun z hz => ?_) h2⟩
        · rcases hu with hu | hu
          · rcases (hacc z hz).1 with hm | ⟨hw, hi⟩
            · exact h1 z hm hu
            · exact ⟨fun _ _ id hid => (by rw [hi] at hid; cases hid), fun hf => (by rw [hw] at hf; cases hf)⟩
          · exact absurd hu (hlt z hz)
        · rcases List.mem_cons.1 hz with rfl | hz
          · exact ⟨.inl (by simp), Nat.lt_succ_self i⟩
          · refine ⟨?_, Nat.lt_succ_of_lt (hacc z hz).2⟩
            rcases (hacc z hz).1 with hm | hm
            · exact .inl (by simp [hm])
            · exact .inr hm
      | false =>
        simp only [ht, forceT_eq] at hv
        have hw : o.wr = false ∧ o.rd = false := by simpa [IOper.tch] using ht
        have hrec : (recOf i o e h h').w = false ∧ (recOf i o e h h').ids = [] := by simp [recOf, hw.1, hw.2]
        refine ⟨fun z hz hu => ?_, drdE_sound r (i + 1) _ _ _ _ _ hr (fun z hz => ?_) hv⟩
        · exact ⟨fun _ hf => (by rw [hrec.1] at hf; cases hf), fun _ _ id hid => (by rw [hrec.2] at hid; cases hid)⟩
        · rcases List.mem_cons.1 hz with rfl | hz
          · exact ⟨.inr hrec, Nat.lt_succ_self i⟩
          · exact ⟨(hacc z hz).1, Nat.lt_succ_of_lt (hacc z hz).2⟩
    · refine .inr ⟨g1, drdE_sound r (i + 1) _ _ _ _ _ hr (fun z hz => ⟨(hacc z hz).1, Nat.lt_succ_of_lt (hacc z hz).2⟩) g2⟩

def vc3 (P : Program) (N k : Nat) (Γ : Ctx) (ic : ICode) : XK → Env → Heap → Nat → Prop :=
  ICode.rec (motive := fun _ => XK → Env → Heap → Nat → Prop)
    (fun K e h n => K .normal e h n)
    (fun ios K e h n => regK2 Γ ios e h n (K .normal))
    (fun ios us _ b2 K e h n => match b2 with
      | true => drdE Γ us ios 0 [] e h n (K .normal)
      | false => False)
    (fun _ _ va vb K e h n => va (thenK (vb K) K) e h n)
    (fun z _ _ vx vy K e h n => condK2 (z.ev e) (vx K e h n) (vy K e h n))
    (fun id _ vb K e h n => vb (blockK id K) e h n)
    (fun b _ K e h n => Lp P N k b K e h n)
    (fun id K e h n => K (.exit id) e h n)
    (fun K e h n => K .ret e h n) ic

theorem vc3_sound {P : Program} {N k : Nat} {Γ : Ctx} (hR : Rely P Γ) (hV : CtxNV Γ) : ∀ (ic : ICode) (K : XK) (e : Env) (h : Heap) (n : Nat), vc3 P N k Γ ic K e h n → Aw P N k ic K e h n
  | .skip, K, e, h, n, hv => Aw.skip hv
  | .reg ios, K, e, h, n, hv => Aw.reg (Γ := Γ) (callOk_K hR.sound hR.body) (by rw [← regK2_eq]; exact hv)
  | .drw ios us b1 true, K, e, h, n, hv => Aw.drd (Γ := Γ) hR.mixed (callOk_U hR.sound hR.body) hV (by
      rw [List.range_eq_range']
      exact drdE_sound ios 0 [] [] e h n rfl (fun z hz => by cases hz) hv)
  | .drw ios us b1 false, K, e, h, n, hv => hv.elim
  | .seq a b, K, e, h, n, hv => Aw.seq (Aw.mono (fun x e' h' n' g => by
      cases x <;> simp only [thenK] at g ⊢ <;> first | exact g | exact vc3_sound hR hV b K e' h' n' g) (vc3_sound hR hV a _ e h n hv))
  | .cond z x y, K, e, h, n, hv => Aw.cond (condK_mono (vc3_sound hR hV x K e h n) (vc3_sound hR hV y K e h n) (by rw [← condK2_eq]; exact hv))
  | .block id b, K, e, h, n, hv => Aw.block (vc3_sound hR hV b _ e h n hv)
  | .loop b, K, e, h, n, hv => hv.aw
  | .exit id, K, e, h, n, hv => Aw.exit hv
  | .ret, K, e, h, n, hv => Aw.ret hv

end Go.Proofs.Ytpfbkblgefddlaa.Av
