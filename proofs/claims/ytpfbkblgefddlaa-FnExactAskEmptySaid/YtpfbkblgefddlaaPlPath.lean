/- The nearest of a set; sets of what is so near. No program in sight. -/
import Derived.Test.YtpfbkblgefddlaaPlBfs
namespace Go.Proofs.Ytpfbkblgefddlaa.Pl
set_option linter.unusedSimpArgs false
set_option linter.unusedVariables false

/-- the members of a set below n -/
def bitL (X n : Nat) : List Nat := (List.range n).filter fun i => X.testBit i
theorem mem_bitL {X n i : Nat} : i ∈ bitL X n ↔ i < n ∧ X.testBit i = true := by simp [bitL]
theorem bitL_succ {X n : Nat} : bitL X (n + 1) = bitL X n ++ if X.testBit n = true then [n] else [] := by
  unfold bitL
  rw [List.range_succ, List.filter_append]
  congr 1
  by_cases h : X.testBit n = true <;> simp [h]
theorem bitL_len {X n : Nat} : (bitL X n).length ≤ n := by
  have := List.length_filter_le (fun i => X.testBit i) (List.range n)
  simpa [bitL] using this
theorem bitL_more {X n m : Nat} (h : X < 2 ^ n) (hm : n ≤ m) : bitL X m = bitL X n := by
  induction m with
  | zero => rw [show n = 0 by omega]
  | succ m ih =>
    by_cases hn : n = m + 1
    · rw [hn]
    · rw [bitL_succ, ih (by omega), if_neg]
      · simp
      · intro hb
        have := bit_lt h hb
        omega

def near1 (F : List Int) (b : Int) (s : Nat) : Int := if 0 ≤ F.getD s 0 ∧ (b < 0 ∨ F.getD s 0 < b) then F.getD s 0 else b
/-- the least number that is told of some; -1: none is told -/
def best (F : List Int) (L : List Nat) : Int := L.foldl (near1 F) (-1)
theorem best_app {F : List Int} {L : List Nat} {s : Nat} : best F (L ++ [s]) = near1 F (best F L) s := by simp [best]
theorem best_spec {F : List Int} : ∀ (L : List Nat) (b : Int), -1 ≤ b → let r := L.foldl (near1 F) b; (-1 ≤ r ∧ (0 ≤ b → 0 ≤ r ∧ r ≤ b) ∧ (∀ s ∈ L, 0 ≤ F.getD s 0 → 0 ≤ r ∧ r ≤ F.getD s 0) ∧ (r = b ∨ ∃ s ∈ L, 0 ≤ r ∧ F.getD s 0 = r))
  | [], b, hb => ⟨hb, fun h => ⟨h, Int.le_refl _⟩, fun s hs => by simp at hs, .inl rfl⟩
  | s :: L, b, hb => by
    have h1 : -1 ≤ near1 F b s := by unfold near1; split <;> omega
    obtain ⟨g1, g2, g3, g4⟩ := best_spec L (near1 F b s) h1
    have e1 : 0 ≤ b → 0 ≤ near1 F b s ∧ near1 F b s ≤ b := fun h => by unfold near1; split <;> omega
    have e2 : 0 ≤ F.getD s 0 → 0 ≤ near1 F b s ∧ near1 F b s ≤ F.getD s 0 := fun h => by unfold near1; split <;> omega
    refine ⟨g1, fun h => ?_, fun t ht h => ?_, ?_⟩
    · have := e1 h
      have := g2 this.1
      simp only [List.foldl_cons]
      omega
    · rcases List.mem_cons.1 ht with rfl | ht
      · have := e2 h
        have := g2 this.1
        simp only [List.foldl_cons]
        omega
      · exact g3 t ht h
    · rcases g4 with g4 | ⟨t, ht, h1, h2⟩
      · simp only [List.foldl_cons, g4]
        by_cases hc : 0 ≤ F.getD s 0 ∧ (b < 0 ∨ F.getD s 0 < b)
        · have e : near1 F b s = F.getD s 0 := by unfold near1; rw [if_pos hc]
          exact .inr ⟨s, by simp, by omega, e.symm⟩
        · left; unfold near1; rw [if_neg hc]
      · exact .inr ⟨t, by simp [ht], h1, h2⟩
theorem best_le {F : List Int} {L : List Nat} {s : Nat} (hs : s ∈ L) (h : 0 ≤ F.getD s 0) : 0 ≤ best F L ∧ best F L ≤ F.getD s 0 := (best_spec L (-1) (by omega)).2.2.1 s hs h
theorem best_ge {F : List Int} {L : List Nat} : -1 ≤ best F L := (best_spec L (-1) (by omega)).1
theorem best_mem {F : List Int} {L : List Nat} (h : 0 ≤ best F L) : ∃ s ∈ L, F.getD s 0 = best F L := by
  rcases (best_spec (F := F) L (-1) (by omega)).2.2.2 with h1 | ⟨s, h1, _, h2⟩
  · have : best F L = -1 := h1
    omega
  · exact ⟨s, h1, h2⟩

/-- those that are so near -/
noncomputable def atN (F : List Int) (k : Int) (n : Nat) : Nat := bitsOf (fun p => F.getD p 0 = k) n
/-- .. of a set -/
noncomputable def nearN (F : List Int) (X : Nat) (k : Int) (n : Nat) : Nat := bitsOf (fun p => X.testBit p = true ∧ 0 ≤ k ∧ F.getD p 0 = k) n
theorem nearN_eq {F : List Int} {X : Nat} {k : Int} {n : Nat} (hk : 0 ≤ k) : nearN F X k n = X &&& atN F k n := bits_ext fun i => by
  rw [Nat.testBit_and, Bool.and_eq_true]
  unfold nearN atN
  rw [testBit_bitsOf, testBit_bitsOf]
  constructor
  · rintro ⟨h1, h2, _, h3⟩; exact ⟨h2, h1, h3⟩
  · rintro ⟨h2, h1, h3⟩; exact ⟨h1, h2, hk, h3⟩

/-- one more is looked at: nearer, as near, or neither -/
theorem nearN_less {F : List Int} {X n : Nat} (hb : X.testBit n = true) (h0 : 0 ≤ F.getD n 0) (h : best F (bitL X n) < 0 ∨ F.getD n 0 < best F (bitL X n)) :
    best F (bitL X (n + 1)) = F.getD n 0 ∧ nearN F X (best F (bitL X (n + 1))) (n + 1) = 2 ^ n := by
  have e : best F (bitL X (n + 1)) = F.getD n 0 := by
    rw [bitL_succ, if_pos hb, best_app]
    unfold near1
    rw [if_pos ⟨h0, h⟩]
  refine ⟨e, ?_⟩
  rw [e]
  refine bits_ext fun i => ?_
  unfold nearN
  rw [testBit_bitsOf, Nat.testBit_two_pow, decide_eq_true_eq]
  constructor
  · rintro ⟨h1, h2, h3, h4⟩
    by_cases hin : n = i
    · exact hin
    · have := best_le (F := F) (mem_bitL.2 ⟨show i < n by omega, h2⟩) (by omega)
      omega
  · rintro rfl
    exact ⟨Nat.lt_succ_self _, hb, h0, rfl⟩
theorem nearN_same {F : List Int} {X n : Nat} (hb : X.testBit n = true) (h0 : 0 ≤ F.getD n 0) (h : F.getD n 0 = best F (bitL X n)) :
    best F (bitL X (n + 1)) = best F (bitL X n) ∧ nearN F X (best F (bitL X (n + 1))) (n + 1) = nearN F X (best F (bitL X n)) n ||| 2 ^ n := by
  have e : best F (bitL X (n + 1)) = best F (bitL X n) := by
    rw [bitL_succ, if_pos hb, best_app]
    unfold near1
    rw [if_neg (by omega)]
  refine ⟨e, ?_⟩
  rw [e]
  unfold nearN
  rw [bitsOf, if_pos ⟨hb, by omega, h⟩]
theorem nearN_none {F : List Int} {X n : Nat} (h : ¬ X.testBit n = true ∨ F.getD n 0 < 0 ∨ (0 ≤ best F (bitL X n) ∧ best F (bitL X n) < F.getD n 0)) :
    best F (bitL X (n + 1)) = best F (bitL X n) ∧ nearN F X (best F (bitL X (n + 1))) (n + 1) = nearN F X (best F (bitL X n)) n := by
  have hg := best_ge (F := F) (L := bitL X n)
  have e : best F (bitL X (n + 1)) = best F (bitL X n) := by
    rw [bitL_succ]
    by_cases hb : X.testBit n = true
    · rw [if_pos hb, best_app]
      unfold near1
      rw [if_neg]
      rcases h with h | h | h
      · exact absurd hb h
      · omega
      · omega
    · rw [if_neg hb, List.append_nil]
  refine ⟨e, ?_⟩
  rw [e]
  unfold nearN
  rw [bitsOf, if_neg]
  rintro ⟨h1, h2, h3⟩
  rcases h with h | h | h
  · exact h h1
  · omega
  · omega

/-! ### how far it can be -/

theorem walk_lt {A : Nat → Nat → Prop} {S : Nat → Prop} {n : Nat} (hA : ∀ p r, p < n → A p r → r < n) (hS : ∀ p, S p → p < n) : ∀ {k p : Nat}, Walk A S k p → p < n
  | 0, p, h => hS p h
  | k + 1, p, ⟨q, h, ha⟩ => hA q p (walk_lt hA hS h) ha
theorem dist_pred {A : Nat → Nat → Prop} {S : Nat → Prop} {p k : Nat} (h : IsDist A S p ((k + 1 : Nat) : Int)) : ∃ q, IsDist A S q (k : Int) ∧ A q p := by
  obtain ⟨_, ⟨q, h1, h2⟩, h3⟩ := h
  refine ⟨q, ⟨Int.natCast_nonneg _, by simpa using h1, fun j hj => ?_⟩, h2⟩
  have := h3 (j + 1) ⟨q, hj, h2⟩
  omega
theorem dist_all {A : Nat → Nat → Prop} {S : Nat → Prop} : ∀ {k p : Nat}, IsDist A S p (k : Int) → ∀ j, j ≤ k → ∃ q, IsDist A S q (j : Int)
  | 0, p, h, j, hj => ⟨p, by rw [show j = 0 by omega]; exact h⟩
  | k + 1, p, h, j, hj => by
    by_cases he : j = k + 1
    · subst he; exact ⟨p, h⟩
    · obtain ⟨q, h1, _⟩ := dist_pred h
      exact dist_all h1 j (by omega)
theorem dist_lt {A : Nat → Nat → Prop} {S : Nat → Prop} {n : Nat} (hA : ∀ p r, p < n → A p r → r < n) (hS : ∀ p, S p → p < n) {p : Nat} {d : Int} (h : IsDist A S p d) : d < n := by
  obtain ⟨k, rfl⟩ := Int.eq_ofNat_of_zero_le h.1
  have key : ∀ j, j ≤ k → j + 1 ≤ card (bitsOf (fun q => 0 ≤ distI A S q ∧ distI A S q ≤ (j : Int)) n) n := by
    intro j
    induction j with
    | zero =>
      intro hj
      obtain ⟨q, hq⟩ := dist_all h 0 hj
      have hqn := walk_lt hA hS hq.2.1
      have := card_lt (X := 0) (Y := bitsOf (fun q => 0 ≤ distI A S q ∧ distI A S q ≤ ((0 : Nat) : Int)) n) (fun i hi => by simp at hi) (j := q) (testBit_bitsOf.2 ⟨hqn, by rw [dist_of hq]; exact ⟨by omega, by omega⟩⟩) (by simp) n hqn
      omega
    | succ j ih =>
      intro hj
      have hi := ih (by omega)
      obtain ⟨q, hq⟩ := dist_all h (j + 1) hj
      have hqn := walk_lt hA hS hq.2.1
      have := card_lt (X := bitsOf (fun q => 0 ≤ distI A S q ∧ distI A S q ≤ ((j : Nat) : Int)) n) (Y := bitsOf (fun q => 0 ≤ distI A S q ∧ distI A S q ≤ ((j + 1 : Nat) : Int)) n)
        (fun i hi => by rw [testBit_bitsOf] at hi ⊢; exact ⟨hi.1, hi.2.1, by have := hi.2.2; omega⟩) (j := q) (testBit_bitsOf.2 ⟨hqn, by rw [dist_of hq]; exact ⟨by omega, by omega⟩⟩)
        (by rw [testBit_bitsOf, dist_of hq]; rintro ⟨_, _, h3⟩; omega) n hqn
      omega
  have := key k (Nat.le_refl _)
  have := card_le (bitsOf (fun q => 0 ≤ distI A S q ∧ distI A S q ≤ ((k : Nat) : Int)) n) n
  omega

end Go.Proofs.Ytpfbkblgefddlaa.Pl
