/- Formulas that are right: both tests answer alike; the trees behind them. -/
import Derived.Test.YtpfbkblgefddlaaCtNode4
namespace Go.Proofs.Ytpfbkblgefddlaa.Ct
set_option linter.unusedSimpArgs false
set_option linter.unusedVariables false
open Go Go.Proofs Go.Proofs.Ytpfbkblgefddlaa.Av

theorem nodeS_cases {n : NodeD} (h : nodeS n = true) : (partsS n.kind = 0 ∧ leafS n = true ∧ (n.b = 0 → partsL n = 0) ∧ (n.b ≠ 0 → partsL n = -1)) ∨ (partsS n.kind = 1 ∧ partsL n = 1) ∨ (partsS n.kind = 2 ∧ partsL n = 2) := by
  obtain ⟨k, a, b⟩ := n
  simp only [nodeS, Bool.and_eq_true, Bool.not_eq_true', decide_eq_false_iff_not, Bool.and_eq_false_iff, leafS, partsS, partsL, partsE, leafI] at h ⊢
  by_cases h1 : k = 1
  · subst h1; simp at h ⊢; omega
  by_cases h2 : k = 2
  · subst h2; simp at h ⊢; omega
  by_cases h3 : k = 3
  · subst h3; simp at h ⊢; omega
  by_cases h4 : k = 4
  · subst h4; simp
  by_cases h5 : k = 5
  · subst h5; simp
  by_cases h6 : k = 6
  · subst h6; simp
  by_cases h7 : k = 7
  · subst h7; simp
  by_cases h8 : k = 8
  · subst h8; simp
  by_cases h9 : k = 9
  · subst h9; simp
  by_cases h10 : k = 10
  · subst h10; simp
  by_cases h11 : k = 11
  · subst h11; simp
  simp [h1, h2, h3, h4, h5, h6, h7, h8, h9, h10, h11] at h

theorem nodeS_of {n : NodeD} (h : partsL n = 0 ∨ partsL n = 1 ∨ partsL n = 2) : nodeS n = true := by
  obtain ⟨k, a, b⟩ := n
  by_cases h1 : k = 1
  · subst h1; simp [nodeS, leafS, partsS, partsL, partsE, leafI] at h ⊢; omega
  by_cases h2 : k = 2
  · subst h2; simp [nodeS, leafS, partsS, partsL, partsE, leafI] at h ⊢; omega
  by_cases h3 : k = 3
  · subst h3; simp [nodeS, leafS, partsS, partsL, partsE, leafI] at h ⊢; omega
  by_cases h4 : k = 4
  · subst h4; simp [nodeS, partsS]
  by_cases h5 : k = 5
  · subst h5; simp [nodeS, partsS]
  by_cases h6 : k = 6
  · subst h6; simp [nodeS, partsS]
  by_cases h7 : k = 7
  · subst h7; simp [nodeS, partsS]
  by_cases h8 : k = 8
  · subst h8; simp [nodeS, partsS]
  by_cases h9 : k = 9
  · subst h9; simp [nodeS, partsS]
  by_cases h10 : k = 10
  · subst h10; simp [nodeS, partsS]
  by_cases h11 : k = 11
  · subst h11; simp [nodeS, partsS]
  simp [partsL, partsE, h1, h2, h3, h4, h5, h6, h7, h8, h9, h10, h11] at h

theorem begs_nodes {l : List NodeD} : ∀ (i : Nat) (bs : List Int), begs l i = some bs → ∀ j, j < i → nodeS (l.getD j default) = true
  | 0, bs, h => fun j hj => absurd hj (by omega)
  | i + 1, bs, h => fun j hj => by
    simp only [begs] at h
    split at h
    · rename_i o ho
      obtain ⟨s, hs, rfl⟩ := Option.map_eq_some_iff.1 h
      by_cases hji : j < i
      · exact begs_nodes i o ho j hji
      · have hj' : j = i := by omega
        subst hj'
        apply nodeS_of
        unfold beginAt at hs
        split at hs
        · exact .inl ‹_›
        · split at hs
          · exact .inr (.inl ‹_›)
          · split at hs
            · exact .inr (.inr ‹_›)
            · cases hs
    · cases h

theorem getD_app_lt {l : List Int} {x : Int} {j : Nat} (h : j < l.length) : (l ++ [x]).getD j 0 = l.getD j 0 := by
  rw [List.getD_eq_getElem?_getD, List.getElem?_append, if_pos h, ← List.getD_eq_getElem?_getD]
theorem getD_app_eq {l : List Int} {x : Int} {j : Nat} (h : j = l.length) : (l ++ [x]).getD j 0 = x := by
  subst h
  simp [List.getD_eq_getElem?_getD]
theorem psS_getD {l : List NodeD} {i : Nat} (h : i < l.length) : (psS l).getD i 0 = partsS (l.getD i default).kind := by
  simp [psS, List.getD_eq_getElem?_getD, List.getElem?_eq_getElem h]

def Alike (i : Nat) : Option (List Int) → Option (List Int) → Prop
  | some out, some bs => ∀ j, j < i → bs.getD j 0 = j + 1 - out.getD j 0
  | none, none => True
  | _, _ => False

theorem sizes_begs {l : List NodeD} : ∀ i, i ≤ l.length → (∀ j, j < i → nodeS (l.getD j default) = true) → Alike i (sizes l (psS l) i) (begs l i)
  | 0, _, _ => fun j hj => absurd hj (by omega)
  | i + 1, hi, hn => by
    have ih := sizes_begs i (by omega) (fun j hj => hn j (by omega))
    simp only [sizes, begs]
    cases hs : sizes l (psS l) i with
    | none =>
      cases hb : begs l i with
      | none => trivial
      | some bs => rw [hs, hb] at ih; exact ih.elim
    | some out =>
      cases hb : begs l i with
      | none => rw [hs, hb] at ih; exact ih.elim
      | some bs =>
        rw [hs, hb] at ih
        obtain ⟨hol, hob⟩ := sizes_bound i out hs
        obtain ⟨hbl, hbb⟩ := begs_bound i bs hb
        have ih' : ∀ j, j < i → bs.getD j 0 = j + 1 - out.getD j 0 := ih
        rw [psS_getD (by omega)]
        have key : Alike (i + 1) ((sizeAt (l.getD i default) (partsS (l.getD i default).kind) i out).map fun s => out ++ [s]) ((beginAt (l.getD i default) i bs).map fun s => bs ++ [s]) := by
          have step : ∀ s t : Int, t = i + 1 - s → Alike (i + 1) (some (out ++ [s])) (some (bs ++ [t])) := by
            intro s t hst j hj
            by_cases hji : j < i
            · rw [getD_app_lt (by omega), getD_app_lt (by omega)]; exact ih' j hji
            · have : j = i := by omega
              subst this
              rw [getD_app_eq (by omega), getD_app_eq (by omega)]; omega
          generalize hnn : l.getD i default = n
          have hnode := nodeS_cases (hnn ▸ hn i (by omega))
          unfold sizeAt beginAt
          rcases hnode with ⟨p0, _, p1, p2⟩ | ⟨p0, p1⟩ | ⟨p0, p1⟩
          · rw [p0]
            by_cases hb0 : n.b = 0
            · rw [p1 hb0, hb0]
              simp only [Int.reduceEq, ↓reduceIte, ne_eq, not_true_eq_false]
              exact step _ _ (by omega)
            · rw [p2 hb0]
              simp only [Int.reduceEq, Int.reduceNeg, ↓reduceIte, ne_eq, hb0, not_false_eq_true]
              trivial
          · rw [p0, p1]
            simp only [Int.reduceEq, ↓reduceIte]
            by_cases hc : i < 1 ∨ n.a ≠ (i : Int) - 1 ∨ n.b ≠ 0
            · rw [if_pos hc, if_pos (by omega)]; trivial
            · rw [if_neg hc, if_neg (by omega)]
              have e : n.a.toNat = i - 1 := by omega
              rw [e]
              have := ih' (i - 1) (by omega)
              exact step _ _ (by omega)
          · rw [p0, p1]
            simp only [Int.reduceEq, ↓reduceIte]
            by_cases h0 : i = 0
            · rw [if_pos (by omega), if_pos (by omega)]; trivial
            have e1 := ih' (i - 1) (by omega)
            by_cases hc : i < 2 ∨ n.b ≠ (i : Int) - 1
            · rw [if_pos hc, if_pos ?_]; · trivial
              rcases hc with hc | hc
              · have := hob (i - 1) (by omega)
                omega
              · exact .inr (.inl hc)
            · rw [if_neg hc]
              by_cases hd : (i : Int) - 1 - out.getD (i - 1) 0 < 0 ∨ n.a ≠ (i : Int) - 1 - out.getD (i - 1) 0
              · rw [if_pos hd, if_pos (by omega)]; trivial
              · rw [if_neg hd, if_neg (by omega)]
                have hk := hob (i - 1) (by omega)
                have e2 := ih' n.a.toNat (by omega)
                have e3 : ((i : Int) - 1 - out.getD (i - 1) 0).toNat = n.a.toNat := by omega
                rw [e3]
                exact step _ _ (by omega)
        exact key

theorem treeL_eq (l : List NodeD) : treeL l = ltlOk l := by
  unfold treeL begsL
  by_cases hl : 1 ≤ l.length ∧ l.length ≤ 31
  · rw [if_pos hl]
    by_cases ha : ∀ j, j < l.length → nodeS (l.getD j default) = true
    · rw [ltlOk_end hl ha]
      have := sizes_begs l.length (Nat.le_refl _) ha
      unfold sizesL
      cases hs : sizes l (psS l) l.length with
      | none =>
        cases hb : begs l l.length with
        | none =>
          symm
          simp
          intro h
          have := hl.1
          omega
        | some bs => rw [hs, hb] at this; exact this.elim
      | some out =>
        cases hb : begs l l.length with
        | none => rw [hs, hb] at this; exact this.elim
        | some bs =>
          rw [hs, hb] at this
          have hbl := (begs_bound _ _ hb).1
          have hol := (sizes_bound _ _ hs).1
          have h1 : bs.getD (l.length - 1) 0 = ((l.length - 1 : Nat) : Int) + 1 - out.getD (l.length - 1) 0 := this (l.length - 1) (by omega)
          simp only [Option.getD_some]
          rw [hbl, h1]
          apply decide_eq_decide.2
          constructor
          · intro h; exact ⟨hol, by omega⟩
          · rintro ⟨_, h⟩; omega
    · have hne : ∃ j, j < l.length ∧ nodeS (l.getD j default) = false := by
        apply Classical.byContradiction
        intro hc
        apply ha
        intro j hj
        cases h : nodeS (l.getD j default) with
        | true => rfl
        | false => exact absurd ⟨j, hj, h⟩ hc
      obtain ⟨j, hj, hf⟩ := hne
      rw [ltlOk_not hj hf]
      cases hb : begs l l.length with
      | none => rfl
      | some bs =>
        have := begs_nodes _ _ hb j hj
        rw [hf] at this
        cases this
  · rw [if_neg hl]
    simp [ltlOk, hl]

end Go.Proofs.Ytpfbkblgefddlaa.Ct

