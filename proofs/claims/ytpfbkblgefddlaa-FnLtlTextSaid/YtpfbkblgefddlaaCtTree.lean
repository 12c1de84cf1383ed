/- The trees behind the lists of nodes. -/
import Derived.Test.YtpfbkblgefddlaaCtLawTree
namespace Go.Proofs.Ytpfbkblgefddlaa.Ct
set_option linter.unusedSimpArgs false
set_option linter.unusedVariables false
open Go Go.Proofs Go.Proofs.Ytpfbkblgefddlaa.Av

inductive Tr where
  | leaf (k a : Int)
  | one (k : Int) (t : Tr)
  | two (k : Int) (s t : Tr)
  deriving Inhabited

def Tr.size : Tr → Nat
  | .leaf _ _ => 1
  | .one _ t => t.size + 1
  | .two _ s t => s.size + t.size + 1

/-- the tree's nodes, the first one at place o -/
def Tr.enc : Tr → Nat → List NodeD
  | .leaf k a, _ => [⟨k, a, 0⟩]
  | .one k t, o => t.enc o ++ [⟨k, ((o + t.size : Nat) : Int) - 1, 0⟩]
  | .two k s t, o => s.enc o ++ t.enc (o + s.size) ++ [⟨k, ((o + s.size : Nat) : Int) - 1, ((o + s.size + t.size : Nat) : Int) - 1⟩]

/-- right kinds and leaves -/
def Tr.ok : Tr → Prop
  | .leaf k a => ((k = 1 ∨ k = 2) ∧ a = 0) ∨ (k = 3 ∧ 0 ≤ a ∧ a ≤ 2)
  | .one k t => (k = 4 ∨ k = 7 ∨ k = 10 ∨ k = 11) ∧ t.ok
  | .two k s t => (k = 5 ∨ k = 6 ∨ k = 8 ∨ k = 9) ∧ s.ok ∧ t.ok

/-- the tree stands in a list from place o on -/
def Tr.At (l : List NodeD) : Tr → Nat → Prop
  | .leaf k a, o => o < l.length ∧ l.getD o default = ⟨k, a, 0⟩
  | .one k t, o => t.At l o ∧ o + t.size < l.length ∧ l.getD (o + t.size) default = ⟨k, ((o + t.size : Nat) : Int) - 1, 0⟩
  | .two k s t, o => s.At l o ∧ t.At l (o + s.size) ∧ o + s.size + t.size < l.length ∧ l.getD (o + s.size + t.size) default = ⟨k, ((o + s.size : Nat) : Int) - 1, ((o + s.size + t.size : Nat) : Int) - 1⟩

theorem Tr.size_pos : ∀ t : Tr, 1 ≤ t.size
  | .leaf _ _ => Nat.le_refl _
  | .one _ t => by simp [Tr.size]
  | .two _ s t => by simp [Tr.size]

theorem Tr.length_enc : ∀ (t : Tr) (o : Nat), (t.enc o).length = t.size
  | .leaf _ _, _ => rfl
  | .one _ t, o => by simp [Tr.enc, Tr.size, t.length_enc]
  | .two _ s t, o => by simp [Tr.enc, Tr.size, s.length_enc, t.length_enc]; omega

theorem Tr.At_len {l : List NodeD} : ∀ (t : Tr) (o : Nat), t.At l o → o + t.size ≤ l.length
  | .leaf _ _, o, h => by have := h.1; simp [Tr.size]; omega
  | .one _ t, o, h => by have := h.2.1; simp [Tr.size]; omega
  | .two _ s t, o, h => by have := h.2.2.1; simp [Tr.size]; omega

theorem take_drop_app {l : List NodeD} {o m n : Nat} : (l.drop o).take (m + n) = (l.drop o).take m ++ (l.drop (o + m)).take n := by
  rw [List.take_add, List.drop_drop]
theorem take_one {l : List NodeD} {o : Nat} (h : o < l.length) : (l.drop o).take 1 = [l.getD o default] := by
  have e : l.getD o default = l[o] := by simp [List.getD_eq_getElem?_getD, List.getElem?_eq_getElem h]
  rw [e, List.drop_eq_getElem_cons h]
  rfl

/-- the nodes that stand there are the tree's -/
theorem Tr.At_enc {l : List NodeD} : ∀ (t : Tr) (o : Nat), t.At l o → (l.drop o).take t.size = t.enc o
  | .leaf k a, o, h => by
    obtain ⟨h1, h2⟩ := h
    simp only [Tr.size, Tr.enc, take_one h1, h2]
  | .one k t, o, h => by
    obtain ⟨h0, h1, h2⟩ := h
    simp only [Tr.size, Tr.enc, take_drop_app, take_one h1, h2, t.At_enc o h0]
  | .two k s t, o, h => by
    obtain ⟨h0, h1, h2, h3⟩ := h
    have e : o + (s.size + t.size) = o + s.size + t.size := by omega
    simp only [Tr.size, Tr.enc, take_drop_app, s.At_enc o h0, t.At_enc _ h1]
    rw [e, take_one h2, h3]

theorem Tr.At_all {l : List NodeD} {t : Tr} (h : t.At l 0) (hl : t.size = l.length) : l = t.enc 0 := by
  have := t.At_enc 0 h
  rw [List.drop_zero, hl, List.take_length] at this
  exact this

theorem kind_leaf {n : NodeD} (h0 : partsS n.kind = 0) (h : leafS n = true) (hb : n.b = 0) : (Tr.leaf n.kind n.a).ok := by
  obtain ⟨k, a, b⟩ := n
  simp only [partsS] at h0
  simp only [leafS] at h
  simp only [Tr.ok]
  by_cases h3 : k = 3
  · subst h3; simp at h; exact .inr ⟨rfl, h⟩
  · rw [if_neg h3] at h
    simp at h
    (repeat' split at h0) <;> omega
theorem kind_one {k : Int} (h : partsS k = 1) : k = 4 ∨ k = 7 ∨ k = 10 ∨ k = 11 := by
  unfold partsS at h
  (repeat' split at h) <;> omega
theorem kind_two {k : Int} (h : partsS k = 2) : k = 5 ∨ k = 6 ∨ k = 8 ∨ k = 9 := by
  unfold partsS at h
  (repeat' split at h) <;> omega

/-- where sizes are told there are trees -/
theorem sizes_tree {l : List NodeD} : ∀ i, i ≤ l.length → (∀ j, j < i → nodeS (l.getD j default) = true) → ∀ out, sizes l (psS l) i = some out →
    ∀ j, j < i → ∃ t : Tr, t.ok ∧ (t.size : Int) = out.getD j 0 ∧ t.size ≤ j + 1 ∧ t.At l (j + 1 - t.size)
  | 0, _, _, _, _, j, hj => absurd hj (by omega)
  | i + 1, hi, hn, out', hs', j, hj => by
    have ih := sizes_tree i (by omega) (fun j hj => hn j (by omega))
    simp only [sizes] at hs'
    cases hs : sizes l (psS l) i with
    | none => rw [hs] at hs'; simp at hs'
    | some out =>
      rw [hs] at hs'
      obtain ⟨s, hsz, rfl⟩ := Option.map_eq_some_iff.1 hs'
      obtain ⟨hol, hob⟩ := sizes_bound i out hs
      by_cases hji : j < i
      · rw [getD_app_lt (by omega)]; exact ih out hs j hji
      have hji' : j = i := by omega
      subst hji'
      rw [getD_app_eq (by omega)]
      rw [psS_getD (by omega)] at hsz
      have hnode := nodeS_cases (hn j (by omega))
      generalize hnn : l.getD j default = n at hsz hnode
      unfold sizeAt at hsz
      rcases hnode with ⟨p0, p1, _, _⟩ | ⟨p0, _⟩ | ⟨p0, _⟩
      · rw [p0] at hsz
        simp only [Int.reduceEq, ↓reduceIte] at hsz
        split at hsz
        · cases hsz
        · cases hsz
          rename_i hb
          have hb0 : n.b = 0 := by omega
          refine ⟨.leaf n.kind n.a, kind_leaf p0 p1 hb0, rfl, by simp [Tr.size], ?_⟩
          simp only [Tr.size, Tr.At, Nat.add_sub_cancel]
          refine ⟨by omega, ?_⟩
          rw [hnn, ← hb0]
      · rw [p0] at hsz
        simp only [Int.reduceEq, ↓reduceIte] at hsz
        split at hsz
        · cases hsz
        · cases hsz
          rename_i hc
          obtain ⟨t, t1, t2, t3, t4⟩ := ih out hs (j - 1) (by omega)
          have ej : j - 1 + 1 = j := by omega
          rw [ej] at t3 t4
          refine ⟨.one n.kind t, ⟨kind_one p0, t1⟩, by simp only [Tr.size]; omega, by simp only [Tr.size]; omega, ?_⟩
          have eo : j + 1 - (t.size + 1) = j - t.size := by omega
          have eo2 : j - t.size + t.size = j := by omega
          simp only [Tr.size, Tr.At, eo, eo2]
          refine ⟨t4, by omega, ?_⟩
          rw [hnn]
          obtain ⟨k, a, b⟩ := n
          simp only at hc ⊢
          rw [NodeD.mk.injEq]
          exact ⟨rfl, by omega, by omega⟩
      · rw [p0] at hsz
        simp only [Int.reduceEq, ↓reduceIte] at hsz
        split at hsz
        · cases hsz
        · split at hsz
          · cases hsz
          · cases hsz
            rename_i hc hd
            have hk := hob (j - 1) (by omega)
            obtain ⟨t, t1, t2, t3, t4⟩ := ih out hs (j - 1) (by omega)
            have ej : j - 1 + 1 = j := by omega
            rw [ej] at t3 t4
            have em : ((j : Int) - 1 - out.getD (j - 1) 0).toNat = j - t.size - 1 := by omega
            obtain ⟨s, s1, s2, s3, s4⟩ := ih out hs (j - t.size - 1) (by omega)
            have es : j - t.size - 1 + 1 = j - t.size := by omega
            rw [es] at s3 s4
            rw [em]
            refine ⟨.two n.kind s t, ⟨kind_two p0, s1, t1⟩, by simp only [Tr.size]; omega, by simp only [Tr.size]; omega, ?_⟩
            have eo : j + 1 - (s.size + t.size + 1) = j - t.size - s.size := by omega
            have eo2 : j - t.size - s.size + s.size = j - t.size := by omega
            have eo3 : j - t.size + t.size = j := by omega
            simp only [Tr.size, Tr.At, eo, eo2, eo3]
            refine ⟨s4, t4, by omega, ?_⟩
            rw [hnn]
            obtain ⟨k, a, b⟩ := n
            simp only at hc hd ⊢
            rw [NodeD.mk.injEq]
            exact ⟨rfl, by omega, by omega⟩

/-- a list that is right is a right tree's -/
theorem ltlOk_tree {l : List NodeD} (h : ltlOk l = true) : ∃ t : Tr, t.ok ∧ t.size = l.length ∧ t.size ≤ 31 ∧ t.At l 0 ∧ l = t.enc 0 := by
  unfold ltlOk at h
  simp only [Bool.and_eq_true, decide_eq_true_eq] at h
  obtain ⟨⟨h1, h2⟩, h3⟩ := h
  have ha : ∀ j, j < l.length → nodeS (l.getD j default) = true := by
    intro j hj
    rw [List.all_eq_true] at h2
    refine h2 _ ?_
    rw [List.getD_eq_getElem?_getD, List.getElem?_eq_getElem hj]
    exact List.getElem_mem hj
  split at h3
  · rename_i out hs
    simp only [decide_eq_true_eq] at h3
    obtain ⟨t, t1, t2, t3, t4⟩ := sizes_tree l.length (Nat.le_refl _) ha out hs (l.length - 1) (by omega)
    have e : l.length - 1 + 1 - t.size = 0 := by omega
    rw [e] at t4
    have hsz : t.size = l.length := by omega
    exact ⟨t, t1, hsz, by omega, t4, Tr.At_all t4 hsz⟩
  · cases h3

end Go.Proofs.Ytpfbkblgefddlaa.Ct

