/- Sets as the bits of a number; what is reached by steps. No program in sight. -/
import Derived.KernelRfl
namespace Go.Proofs.Ytpfbkblgefddlaa.Pl
set_option linter.unusedSimpArgs false
set_option linter.unusedVariables false

open Classical in
/-- the number whose bits below n are those of p -/
noncomputable def bitsOf (p : Nat → Prop) : Nat → Nat
  | 0 => 0
  | n + 1 => if p n then bitsOf p n ||| 2 ^ n else bitsOf p n

theorem testBit_ins {X i j : Nat} : (X ||| 2 ^ i).testBit j = true ↔ X.testBit j = true ∨ j = i := by
  rw [Nat.testBit_or, Nat.testBit_two_pow, Bool.or_eq_true, decide_eq_true_eq, eq_comm (a := i)]

theorem testBit_bitsOf {p : Nat → Prop} {i : Nat} : ∀ {n : Nat}, (bitsOf p n).testBit i = true ↔ i < n ∧ p i
  | 0 => by simp [bitsOf]
  | n + 1 => by
    unfold bitsOf
    split
    · rename_i h
      rw [testBit_ins, testBit_bitsOf (n := n)]
      constructor
      · rintro (⟨h1, h2⟩ | rfl)
        · exact ⟨by omega, h2⟩
        · exact ⟨by omega, h⟩
      · rintro ⟨h1, h2⟩
        by_cases hi : i = n
        · exact .inr hi
        · exact .inl ⟨by omega, h2⟩
    · rename_i h
      rw [testBit_bitsOf (n := n)]
      constructor
      · rintro ⟨h1, h2⟩; exact ⟨by omega, h2⟩
      · rintro ⟨h1, h2⟩
        refine ⟨?_, h2⟩
        by_cases hi : i = n
        · subst hi; exact absurd h2 h
        · omega

theorem lt_two_pow_of {X n : Nat} (h : ∀ i, X.testBit i = true → i < n) : X < 2 ^ n :=
  Nat.lt_pow_two_of_testBit X fun i hi => by
    cases hb : X.testBit i with
    | false => rfl
    | true => have := h i hb; omega
theorem bit_lt {X n i : Nat} (h : X < 2 ^ n) (hb : X.testBit i = true) : i < n := by
  rcases Nat.lt_or_ge i n with hi | hi
  · exact hi
  · have : X < 2 ^ i := Nat.lt_of_lt_of_le h (Nat.pow_le_pow_right (by decide) hi)
    rw [Nat.testBit_lt_two_pow this] at hb
    cases hb
theorem bitsOf_lt {p : Nat → Prop} {n : Nat} : bitsOf p n < 2 ^ n := lt_two_pow_of fun _ h => (testBit_bitsOf.1 h).1
theorem bits_ext {X Y : Nat} (h : ∀ i, X.testBit i = true ↔ Y.testBit i = true) : X = Y :=
  Nat.eq_of_testBit_eq fun i => Bool.eq_iff_iff.2 (h i)
theorem ins_lt {X i n : Nat} (h : X < 2 ^ n) (hi : i < n) : X ||| 2 ^ i < 2 ^ n :=
  Nat.or_lt_two_pow h (Nat.pow_lt_pow_right (by decide) hi)

/-- a number whose bits are others' is no greater -/
theorem sub_le {X Y : Nat} (h : ∀ i, X.testBit i = true → Y.testBit i = true) : X ≤ Y := by
  have : X ||| Y = Y := bits_ext fun i => by
    rw [Nat.testBit_or, Bool.or_eq_true]
    exact ⟨fun h1 => h1.elim (h i) id, .inr⟩
  rw [← this]
  exact Nat.left_le_or

def card (X : Nat) : Nat → Nat
  | 0 => 0
  | n + 1 => card X n + if X.testBit n = true then 1 else 0
theorem card_le (X : Nat) : ∀ n, card X n ≤ n
  | 0 => Nat.le_refl _
  | n + 1 => by have := card_le X n; unfold card; split <;> omega
theorem card_mono {X Y : Nat} (h : ∀ i, X.testBit i = true → Y.testBit i = true) : ∀ n, card X n ≤ card Y n
  | 0 => Nat.le_refl _
  | n + 1 => by
    have ih := card_mono h n
    unfold card
    by_cases hx : X.testBit n = true
    · rw [if_pos hx, if_pos (h n hx)]; omega
    · rw [if_neg hx]; split <;> omega
theorem card_lt {X Y : Nat} (h : ∀ i, X.testBit i = true → Y.testBit i = true) {j : Nat} (hy : Y.testBit j = true) (hx : ¬ X.testBit j = true) : ∀ n, j < n → card X n < card Y n
  | 0, hj => by omega
  | n + 1, hj => by
    unfold card
    by_cases hjn : j = n
    · subst hjn
      rw [if_neg hx, if_pos hy]
      have := card_mono h j
      omega
    · have ih := card_lt h hy hx n (by omega)
      by_cases h1 : X.testBit n = true
      · rw [if_pos h1, if_pos (h n h1)]; omega
      · rw [if_neg h1]; split <;> omega

/-! ### what steps lead to -/

inductive Rch (A : Nat → Nat → Prop) (S : Nat → Prop) : Nat → Prop where
  | base {p : Nat} (h : S p) : Rch A S p
  | step {q p : Nat} (h : Rch A S q) (ha : A q p) : Rch A S p

theorem Rch.mono {A : Nat → Nat → Prop} {S T : Nat → Prop} (h : ∀ p, S p → Rch A T p) {p : Nat} (hp : Rch A S p) : Rch A T p := by
  induction hp with
  | base hs => exact h _ hs
  | step _ ha ih => exact .step ih ha
abbrev Rel1 (A : Nat → Nat → Prop) (p q : Nat) : Prop := Rch A (· = p) q
theorem Rel1.refl {A : Nat → Nat → Prop} {p : Nat} : Rel1 A p p := .base rfl
theorem Rel1.trans {A : Nat → Nat → Prop} {p q r : Nat} (h1 : Rel1 A p q) (h2 : Rel1 A q r) : Rel1 A p r := h2.mono fun x hx => hx ▸ h1
theorem Rel1.one {A : Nat → Nat → Prop} {p q : Nat} (h : A p q) : Rel1 A p q := .step Rel1.refl h
theorem Rel1.head {A : Nat → Nat → Prop} {p q r : Nat} (h : A p q) (h2 : Rel1 A q r) : Rel1 A p r := (Rel1.one h).trans h2
/-- .. by steps turned -/
theorem Rel1.turn {A : Nat → Nat → Prop} {p q : Nat} (h : Rel1 A p q) : Rel1 (fun x y => A y x) q p := by
  induction h with
  | base h => subst h; exact Rel1.refl
  | step _ ha ih => exact Rel1.head (A := fun x y => A y x) ha ih
theorem rch_of {A : Nat → Nat → Prop} {S : Nat → Prop} {p : Nat} (h : Rch A S p) : ∃ s, S s ∧ Rel1 A s p := by
  induction h with
  | base h => exact ⟨_, h, Rel1.refl⟩
  | step _ ha ih => obtain ⟨s, h1, h2⟩ := ih; exact ⟨s, h1, .step h2 ha⟩
theorem rch_mk {A : Nat → Nat → Prop} {S : Nat → Prop} {s p : Nat} (hs : S s) (h : Rel1 A s p) : Rch A S p := h.mono fun x hx => .base (hx ▸ hs)

/-- the set of what is reached from a set -/
noncomputable def reachN (A : Nat → Nat → Prop) (X n : Nat) : Nat := bitsOf (Rch A fun i => X.testBit i = true) n
theorem reachN_of {A : Nat → Nat → Prop} {X Y n : Nat} (hn : Y < 2 ^ n) (h1 : ∀ i, X.testBit i = true → Y.testBit i = true) (h2 : ∀ i, Y.testBit i = true → Rch A (fun i => X.testBit i = true) i)
    (h3 : ∀ i j, Y.testBit i = true → A i j → Y.testBit j = true) : Y = reachN A X n := by
  refine bits_ext fun i => ⟨fun h => testBit_bitsOf.2 ⟨bit_lt hn h, h2 i h⟩, fun h => ?_⟩
  have hr := (testBit_bitsOf.1 h).2
  clear h
  induction hr with
  | base h => exact h1 _ h
  | step _ ha ih => exact h3 _ _ ih ha

end Go.Proofs.Ytpfbkblgefddlaa.Pl
