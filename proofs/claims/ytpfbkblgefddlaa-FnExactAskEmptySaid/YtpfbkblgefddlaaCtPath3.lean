/- Words that lead to a state: the nearest way, its first letters. -/
import Derived.Test.YtpfbkblgefddlaaCtPath2
import Derived.Test.YtpfbkblgefddlaaCtRings
namespace Go.Proofs.Ytpfbkblgefddlaa.Ct
set_option linter.unusedSimpArgs false
set_option linter.unusedVariables false
open Go Go.Proofs Go.Proofs.Ytpfbkblgefddlaa.Av Go.Proofs.Ytpfbkblgefddlaa.Pl

def c_spec_PathWord : ICode := (.seq (.reg [⟨(some 3), (.box 4), [(.t 0)], none⟩, ⟨(some 6), .mv, [(.c .snil)], none⟩, ⟨(some 7), .mv, [(.c (.bool false))], none⟩]) (.seq (.reg [⟨(some 15), .bsle, [], none⟩, ⟨(some 8), .mv, [(.t 15)], none⟩]) (.seq (.seq (.reg [⟨(some 16), (.ldn 4), [(.t 3)], none⟩, ⟨(some 17), (.call 70), [(.t 16)], none⟩, ⟨(some 18), .not, [(.t 17)], none⟩, ⟨(some 19), .mv, [(.t 18)], none⟩, ⟨(some 20), .mv, [(.t 1)], (some (19, false))⟩, ⟨(some 21), (.fadr 1), [(.t 3)], (some (19, false))⟩, ⟨(some 22), .ld1, [(.t 21)], (some (19, false))⟩, ⟨(some 23), (.bin .shl), [(.c (.int .i64 1)), (.t 22)], (some (19, false))⟩, ⟨(some 24), (.bin .sub), [(.t 23), (.c (.int .i64 1))], (some (19, false))⟩, ⟨(some 25), (.call 130), [(.t 20), (.t 24)], (some (19, false))⟩, ⟨(some 26), .not, [(.t 25)], (some (19, false))⟩, ⟨(some 27), .pick, [(.t 19), (.c (.bool true)), (.t 26)], none⟩, ⟨(some 28), .mv, [(.t 27)], none⟩, ⟨(some 29), .mv, [(.t 2)], (some (28, false))⟩, ⟨(some 30), (.fadr 1), [(.t 3)], (some (28, false))⟩, ⟨(some 31), .ld1, [(.t 30)], (some (28, false))⟩, ⟨(some 32), (.call 131), [(.t 29), (.t 31)], (some (28, false))⟩, ⟨(some 33), .not, [(.t 32)], (some (28, false))⟩, ⟨(some 34), .pick, [(.t 28), (.c (.bool true)), (.t 33)], none⟩]) (.cond (.t 34) (.seq (.reg [⟨(some 35), .mv, [(.t 8)], none⟩, ⟨(some 6), .mv, [(.t 35)], none⟩, ⟨(some 7), .mv, [(.c (.bool false))], none⟩]) .ret) .skip)) (.seq (.reg [⟨(some 36), (.ldn 4), [(.t 3)], none⟩, ⟨(some 37), .mv, [(.t 2)], none⟩, ⟨(some 38), (.call 155), [(.t 36), (.t 37)], none⟩, ⟨(some 9), .mv, [(.t 38)], none⟩]) (.seq (.reg [⟨(some 40), .mv, [(.t 9)], none⟩, ⟨(some 41), .mv, [(.t 1)], none⟩, ⟨(some 42), (.call 156), [(.t 40), (.t 41)], none⟩, ⟨(some 39), .mv, [(.t 42)], none⟩, ⟨(some 43), (.ext 0), [(.t 39)], none⟩, ⟨(some 44), (.ext 1), [(.t 39)], none⟩, ⟨(some 10), .mv, [(.t 43)], none⟩, ⟨(some 11), .mv, [(.t 44)], none⟩]) (.seq (.seq (.reg [⟨(some 45), .mv, [(.t 11)], none⟩, ⟨(some 46), (.bin .lss), [(.t 45), (.c (.int .i64 0))], none⟩]) (.cond (.t 46) (.seq (.reg [⟨(some 47), .mv, [(.t 8)], none⟩, ⟨(some 6), .mv, [(.t 47)], none⟩, ⟨(some 7), .mv, [(.c (.bool false))], none⟩]) .ret) .skip)) (.seq (.block 0 (.loop (.seq (.seq (.reg [⟨(some 48), .mv, [(.t 11)], none⟩, ⟨(some 49), (.bin .gtr), [(.t 48), (.c (.int .i64 0))], none⟩]) (.cond (.t 49) .skip (.exit 0))) (.block 1 (.seq (.seq (.reg [⟨(some 12), .mv, [(.c (.int .i64 0))], none⟩]) (.block 2 (.loop (.seq (.seq (.reg [⟨(some 50), .mv, [(.t 12)], none⟩, ⟨(some 51), (.fadr 0), [(.t 3)], none⟩, ⟨(some 52), .ld1, [(.t 51)], none⟩, ⟨(some 53), (.bin .lss), [(.t 50), (.t 52)], none⟩]) (.cond (.t 53) .skip (.exit 2))) (.seq (.block 3 (.seq (.reg [⟨(some 57), .mv, [(.t 9)], none⟩, ⟨(some 58), (.ldn 4), [(.t 3)], none⟩, ⟨(some 59), .mv, [(.t 10)], none⟩, ⟨(some 60), .mv, [(.t 12)], none⟩, ⟨(some 61), (.call 157), [(.t 58), (.t 59), (.t 60)], none⟩, ⟨(some 62), (.call 156), [(.t 57), (.t 61)], none⟩, ⟨(some 56), .mv, [(.t 62)], none⟩, ⟨(some 63), (.ext 0), [(.t 56)], none⟩, ⟨(some 64), (.ext 1), [(.t 56)], none⟩, ⟨(some 13), .mv, [(.t 63)], none⟩, ⟨(some 14), .mv, [(.t 64)], none⟩]) (.seq (.reg [⟨(some 65), .mv, [(.t 14)], none⟩, ⟨(some 66), .mv, [(.t 11)], none⟩, ⟨(some 67), (.bin .sub), [(.t 66), (.c (.int .i64 1))], none⟩, ⟨(some 68), (.bin .eql), [(.t 65), (.t 67)], none⟩]) (.cond (.t 68) (.seq (.reg [⟨(some 69), .mv, [(.t 8)], none⟩, ⟨(some 70), .mv, [(.t 12)], none⟩, ⟨(some 71), (.bslv 1), [(.t 70)], none⟩, ⟨(some 72), (.app 1 8), [(.t 69), (.t 71)], none⟩, ⟨(some 8), .mv, [(.t 72)], none⟩]) (.seq (.reg [⟨(some 73), .mv, [(.t 13)], none⟩, ⟨(some 10), .mv, [(.t 73)], none⟩]) (.exit 2))) .skip)))) (.reg [⟨(some 54), .mv, [(.t 12)], none⟩, ⟨(some 55), (.bin .add), [(.t 54), (.c (.int .i64 1))], none⟩, ⟨(some 12), .mv, [(.t 55)], none⟩])))))) (.reg [⟨(some 74), .mv, [(.t 11)], none⟩, ⟨(some 75), (.bin .sub), [(.t 74), (.c (.int .i64 1))], none⟩, ⟨(some 11), .mv, [(.t 75)], none⟩])))))) (.seq (.reg [⟨(some 76), .mv, [(.t 8)], none⟩, ⟨(some 6), .mv, [(.t 76)], none⟩, ⟨(some 7), .mv, [(.c (.bool true))], none⟩]) .ret))))))))
theorem b_spec_PathWord : Body Try.prog 111 77 c_spec_PathWord [(.t 6), (.t 7)] := body_mk Try.func111 (by kernel_rfl) (by decide)

def c_impl_Auto_pathWord : ICode := (.seq (.reg [⟨(some 6), .mv, [(.c .snil)], none⟩, ⟨(some 7), .mv, [(.c (.bool false))], none⟩]) (.seq (.reg [⟨(some 17), .mv, [(.t 0)], none⟩, ⟨(some 18), (.call 115), [(.t 17)], none⟩, ⟨(some 19), (.call 162), [(.t 18)], none⟩, ⟨(some 20), .mv, [(.t 2)], none⟩, ⟨(some 21), (.bsl 1), [(.t 20)], none⟩, ⟨(some 22), (.call 164), [(.t 19), (.t 21)], none⟩, ⟨(some 8), (.alc [.snil]), [], none⟩, ⟨none, (.st 1), [(.t 8), (.t 22)], none⟩]) (.seq (.reg [⟨(some 9), .mv, [(.c (.int .i64 (-1)))], none⟩]) (.seq (.seq (.reg [⟨(some 23), .mv, [(.t 1)], none⟩, ⟨(some 24), (.call 127), [(.t 23)], none⟩, ⟨(some 25), .len, [(.t 24)], none⟩, ⟨(some 26), .mv, [(.c (.int .i64 0))], none⟩]) (.block 0 (.loop (.seq (.reg [⟨(some 27), (.bin .lss), [(.t 26), (.t 25)], none⟩]) (.seq (.cond (.t 27) .skip (.exit 0)) (.seq (.block 1 (.seq (.reg [⟨(some 28), (.iadr 1), [(.t 24), (.t 26)], none⟩, ⟨(some 29), .ld1, [(.t 28)], none⟩, ⟨(some 11), .mv, [(.t 29)], none⟩]) (.seq (.reg [⟨(some 30), .ld1, [(.t 8)], none⟩, ⟨(some 31), .mv, [(.t 11)], none⟩, ⟨(some 32), (.iadr 1), [(.t 30), (.t 31)], none⟩, ⟨(some 33), .ld1, [(.t 32)], none⟩, ⟨(some 34), (.bin .geq), [(.t 33), (.c (.int .i64 0))], none⟩, ⟨(some 35), .mv, [(.t 34)], none⟩, ⟨(some 36), .mv, [(.t 9)], (some (35, true))⟩, ⟨(some 37), (.bin .lss), [(.t 36), (.c (.int .i64 0))], (some (35, true))⟩, ⟨(some 38), .mv, [(.t 37)], (some (35, true))⟩, ⟨(some 39), .ld1, [(.t 8)], (some (38, false))⟩, ⟨(some 40), .mv, [(.t 11)], (some (38, false))⟩, ⟨(some 41), (.iadr 1), [(.t 39), (.t 40)], (some (38, false))⟩, ⟨(some 42), .ld1, [(.t 41)], (some (38, false))⟩, ⟨(some 43), .mv, [(.t 9)], (some (38, false))⟩, ⟨(some 44), (.bin .lss), [(.t 42), (.t 43)], (some (38, false))⟩, ⟨(some 45), .pick, [(.t 38), (.c (.bool true)), (.t 44)], (some (35, true))⟩, ⟨(some 46), .pick, [(.t 35), (.t 45), (.c (.bool false))], none⟩]) (.cond (.t 46) (.reg [⟨(some 47), .ld1, [(.t 8)], none⟩, ⟨(some 48), .mv, [(.t 11)], none⟩, ⟨(some 49), (.iadr 1), [(.t 47), (.t 48)], none⟩, ⟨(some 50), .ld1, [(.t 49)], none⟩, ⟨(some 9), .mv, [(.t 50)], none⟩]) .skip)))) (.reg [⟨(some 51), (.bin .add), [(.t 26), (.c (.int .i64 1))], none⟩, ⟨(some 26), .mv, [(.t 51)], none⟩]))))))) (.seq (.seq (.reg [⟨(some 52), .mv, [(.t 9)], none⟩, ⟨(some 53), (.bin .lss), [(.t 52), (.c (.int .i64 0))], none⟩]) (.cond (.t 53) (.seq (.reg [⟨(some 6), .mv, [(.c .snil)], none⟩, ⟨(some 7), .mv, [(.c (.bool false))], none⟩]) .ret) .skip)) (.seq (.reg [⟨(some 54), (.mkf 165), [(.t 8)], none⟩, ⟨(some 12), .mv, [(.t 54)], none⟩]) (.seq (.reg [⟨(some 13), .mv, [(.c .snil)], none⟩]) (.seq (.reg [⟨(some 55), .mv, [(.t 1)], none⟩, ⟨(some 56), .mv, [(.t 12)], none⟩, ⟨(some 57), .mv, [(.t 9)], none⟩, ⟨(some 58), .dyn, [(.t 56), (.t 57)], none⟩, ⟨(some 59), (.bin .and), [(.t 55), (.t 58)], none⟩, ⟨(some 1), .mv, [(.t 59)], none⟩]) (.seq (.block 2 (.loop (.seq (.seq (.reg [⟨(some 60), .mv, [(.t 9)], none⟩, ⟨(some 61), (.bin .gtr), [(.t 60), (.c (.int .i64 0))], none⟩]) (.cond (.t 61) .skip (.exit 2))) (.seq (.block 3 (.seq (.reg [⟨(some 64), .mv, [(.t 12)], none⟩, ⟨(some 65), .mv, [(.t 9)], none⟩, ⟨(some 66), (.bin .sub), [(.t 65), (.c (.int .i64 1))], none⟩, ⟨(some 67), .dyn, [(.t 64), (.t 66)], none⟩, ⟨(some 14), .mv, [(.t 67)], none⟩]) (.seq (.reg [⟨(some 68), .mv, [(.t 0)], none⟩, ⟨(some 69), .nck, [(.t 68)], none⟩, ⟨(some 70), (.fadr 0), [(.t 69)], none⟩, ⟨(some 71), .ld1, [(.t 70)], none⟩, ⟨(some 72), .mv, [(.c (.int .i64 0))], none⟩]) (.block 4 (.loop (.seq (.reg [⟨(some 73), (.bin .lss), [(.t 72), (.t 71)], none⟩]) (.seq (.cond (.t 73) .skip (.exit 4)) (.seq (.block 5 (.seq (.reg [⟨(some 74), .mv, [(.t 72)], none⟩, ⟨(some 15), .mv, [(.t 74)], none⟩]) (.seq (.reg [⟨(some 75), .mv, [(.t 0)], none⟩, ⟨(some 76), .mv, [(.t 1)], none⟩, ⟨(some 77), .mv, [(.t 15)], none⟩, ⟨(some 78), (.call 166), [(.t 75), (.t 76), (.t 77)], none⟩, ⟨(some 79), .mv, [(.t 14)], none⟩, ⟨(some 80), (.bin .and), [(.t 78), (.t 79)], none⟩, ⟨(some 16), .mv, [(.t 80)], none⟩]) (.seq (.reg [⟨(some 81), .mv, [(.t 16)], none⟩, ⟨(some 82), (.bin .neq), [(.t 81), (.c (.int .i64 0))], none⟩]) (.cond (.t 82) (.seq (.reg [⟨(some 83), .mv, [(.t 13)], none⟩, ⟨(some 84), .mv, [(.t 15)], none⟩, ⟨(some 85), (.bslv 1), [(.t 84)], none⟩, ⟨(some 86), (.app 1 8), [(.t 83), (.t 85)], none⟩, ⟨(some 13), .mv, [(.t 86)], none⟩]) (.seq (.reg [⟨(some 87), .mv, [(.t 16)], none⟩, ⟨(some 1), .mv, [(.t 87)], none⟩]) (.exit 4))) .skip))))) (.reg [⟨(some 88), (.bin .add), [(.t 72), (.c (.int .i64 1))], none⟩, ⟨(some 72), .mv, [(.t 88)], none⟩]))))))))) (.reg [⟨(some 62), .mv, [(.t 9)], none⟩, ⟨(some 63), (.bin .sub), [(.t 62), (.c (.int .i64 1))], none⟩, ⟨(some 9), .mv, [(.t 63)], none⟩]))))) (.seq (.reg [⟨(some 89), .mv, [(.t 13)], none⟩, ⟨(some 6), .mv, [(.t 89)], none⟩, ⟨(some 7), .mv, [(.c (.bool true))], none⟩]) .ret))))))))))
theorem b_impl_Auto_pathWord : Body Try.prog 118 90 c_impl_Auto_pathWord [(.t 6), (.t 7)] := body_mk Try.func118 (by kernel_rfl) (by decide)


/-- down by a step -/
noncomputable def down (a : AutoD) (F : List Int) (X x k : Nat) : Nat := stepU a X x &&& atN F k F.length
/-- from b steps away and X to k steps away: step by step, each time by the first letter that can -/
inductive Pt (a : AutoD) (F : List Int) (b X0 : Nat) : Nat → Nat → List Nat → Prop
  | start : Pt a F b X0 b X0 []
  | step {k X x : Nat} {out : List Nat} : Pt a F b X0 (k + 1) X out → (∀ y, y < x → down a F X y k = 0) → down a F X x k ≠ 0 → Pt a F b X0 k (down a F X x k) (out ++ [x])
theorem Pt.len {a : AutoD} {F : List Int} {b X0 k X : Nat} {out : List Nat} (h : Pt a F b X0 k X out) : out.length + k = b := by
  induction h with
  | start => simp
  | step _ _ _ ih => simp; omega
theorem Pt.uniq {a : AutoD} {F : List Int} {b X0 k X : Nat} {out : List Nat} (h : Pt a F b X0 k X out) : ∀ {X' : Nat} {out' : List Nat}, Pt a F b X0 k X' out' → X = X' ∧ out = out' := by
  induction h with
  | start =>
    intro X' out' h'
    cases h' with
    | start => exact ⟨rfl, rfl⟩
    | step h _ _ => have := h.len; omega
  | step h1 h2 h3 ih =>
    intro X' out' h'
    cases h' with
    | start => have := h1.len; omega
    | @step _ X2 x2 out2 g1 g2 g3 =>
      obtain ⟨rfl, rfl⟩ := ih g1
      rename_i x _
      rcases Nat.lt_trichotomy x x2 with h | h | h
      · exact absurd (g2 _ h) h3
      · subst h; exact ⟨rfl, rfl⟩
      · exact absurd (h2 _ h) g3

open Classical in
/-- the word -/
noncomputable def pwOf (a : AutoD) (F : List Int) (b X : Nat) : List Nat := if h : ∃ out X', Pt a F b X 0 X' out then Classical.choose h else []
theorem pwOf_eq {a : AutoD} {F : List Int} {b X X' : Nat} {out : List Nat} (h : Pt a F b X 0 X' out) : pwOf a F b X = out := by
  have hex : ∃ out X', Pt a F b X 0 X' out := ⟨_, _, h⟩
  unfold pwOf
  rw [dif_pos hex]
  obtain ⟨_, g⟩ := Classical.choose_spec hex
  exact (g.uniq h).2

/-- all of X are so far -/
def Far (a : AutoD) (to k X : Nat) : Prop := X ≠ 0 ∧ ∀ p, X.testBit p = true → p < a.states.toNat ∧ IsDist (AE a) (· ∈ [to]) p (k : Int)
theorem farT_at {a : AutoD} {to p : Nat} (h : p < a.states.toNat) : (farT a to).getD p 0 = distI (AE a) (· ∈ [to]) p := farL_at h
theorem isDist_of {A : Nat → Nat → Prop} {S : Nat → Prop} {p k : Nat} (h : distI A S p = (k : Int)) : IsDist A S p (k : Int) := by
  rcases dist_cases A S p with h1 | h1
  · omega
  · rw [h] at h1; exact h1
theorem bit_ne {X : Nat} (h : X ≠ 0) : ∃ p, X.testBit p = true := by
  refine Classical.byContradiction fun hn => h (bits_ext fun i => ⟨fun hi => absurd ⟨i, hi⟩ hn, fun hi => by simp at hi⟩)
theorem bit_atN {F : List Int} {k : Int} {n p : Nat} : (atN F k n).testBit p = true ↔ p < n ∧ F.getD p 0 = k := testBit_bitsOf
theorem far_and {a : AutoD} {to k X : Nat} (h : X &&& atN (farT a to) k (farT a to).length ≠ 0) : Far a to k (X &&& atN (farT a to) k (farT a to).length) := by
  refine ⟨h, fun p hp => ?_⟩
  rw [Nat.testBit_and, Bool.and_eq_true, bit_atN, farT_len] at hp
  obtain ⟨_, h1, h2⟩ := hp
  rw [farT_at h1] at h2
  exact ⟨h1, isDist_of h2⟩
theorem bit_stepU {a : AutoD} {X q : Nat} {x : Int} : (stepU a X x).testBit q = true ↔ ∃ e ∈ a.edges, e.letter = x ∧ X.testBit e.src.toNat = true ∧ e.dst.toNat = q := by
  unfold stepU
  rw [bit_stepI]
  constructor
  · rintro ⟨j, h1, h2, h3, h4⟩; exact ⟨_, getD_mem' h1, h2, h3, h4⟩
  · rintro ⟨e, he, h2, h3, h4⟩
    obtain ⟨j, hj, rfl⟩ := mem_at he
    exact ⟨j, hj, h2, h3, h4⟩

/-- some letter can -/
theorem far_some {a : AutoD} (ha : AutoOk a) {to k X : Nat} (h : Far a to (k + 1) X) : ∃ x : Nat, (x : Int) < a.letters ∧ down a (farT a to) X x k ≠ 0 := by
  obtain ⟨p, hp⟩ := bit_ne h.1
  obtain ⟨hpn, hd⟩ := h.2 p hp
  obtain ⟨q, hq, e, he, h1, h2⟩ := dist_pred hd
  obtain ⟨i, hi, rfl⟩ := mem_at he
  have hin := edge_in ha hi
  unfold EdgeIn at hin
  refine ⟨(a.edges.getD i default).letter.toNat, by omega, fun h0 => ?_⟩
  have hb : (down a (farT a to) X (a.edges.getD i default).letter.toNat k).testBit q = true := by
    unfold down
    rw [Nat.testBit_and, Bool.and_eq_true, bit_stepU, bit_atN, farT_len]
    refine ⟨⟨_, he, by omega, by rw [h1]; exact hp, h2⟩, by omega, ?_⟩
    rw [farT_at (by omega)]
    exact dist_of hq
  rw [h0, Nat.zero_testBit] at hb
  cases hb
/-- none is nearer than a step down -/
theorem far_step {a : AutoD} {to k X q : Nat} {x : Int} (h : Far a to (k + 1) X) (hq : (stepU a X x).testBit q = true) {d : Int} (hd : IsDist (AE a) (· ∈ [to]) q d) : (k : Int) ≤ d := by
  obtain ⟨e, he, _, h3, h4⟩ := bit_stepU.1 hq
  obtain ⟨_, g1, g2, g3⟩ := h.2 _ h3
  have := g3 (d.toNat + 1) ⟨q, hd.2.1, e, he, rfl, h4⟩
  have := hd.1
  omega
theorem mem_bitF {a : AutoD} (ha : AutoOk a) {X q : Nat} {x : Int} {to : Nat} (hq : q ∈ bitL (stepU a X x) (farT a to).length) : q < a.states.toNat ∧ (stepU a X x).testBit q = true := by
  rw [mem_bitL, farT_len] at hq
  exact hq
/-- the reference's test is the program's -/
theorem near_down {a : AutoD} (ha : AutoOk a) {to k X x : Nat} (h : Far a to (k + 1) X) :
    best (farT a to) (bitL (stepU a X x) (farT a to).length) = (k : Int) ↔ down a (farT a to) X x k ≠ 0 := by
  constructor
  · intro hb h0
    obtain ⟨q, h1, h2⟩ := best_mem (F := farT a to) (L := bitL (stepU a X x) (farT a to).length) (by omega)
    obtain ⟨h3, h4⟩ := mem_bitF ha h1
    have hb2 : (down a (farT a to) X x k).testBit q = true := by
      unfold down
      rw [Nat.testBit_and, Bool.and_eq_true, bit_atN, farT_len]
      exact ⟨h4, h3, by rw [h2, hb]⟩
    rw [h0, Nat.zero_testBit] at hb2
    cases hb2
  · intro h0
    obtain ⟨q, hq⟩ := bit_ne h0
    unfold down at hq
    rw [Nat.testBit_and, Bool.and_eq_true, bit_atN, farT_len] at hq
    obtain ⟨h1, h2, h3⟩ := hq
    have hm : q ∈ bitL (stepU a X x) (farT a to).length := by rw [mem_bitL, farT_len]; exact ⟨h2, h1⟩
    obtain ⟨g1, g2⟩ := best_le (F := farT a to) hm (by omega)
    obtain ⟨p, g3, g4⟩ := best_mem g1
    obtain ⟨g5, g6⟩ := mem_bitF ha g3
    rw [farT_at g5] at g4
    have := far_step (x := (x : Int)) h g6 (d := best (farT a to) (bitL (stepU a X x) (farT a to).length)) (by
      rcases dist_cases (AE a) (· ∈ [to]) p with c | c
      · omega
      · rw [g4] at c; exact c)
    omega

theorem Pt.far {a : AutoD} {to b X0 k X : Nat} {out : List Nat} (h0 : Far a to b X0) (h : Pt a (farT a to) b X0 k X out) : Far a to k X := by
  cases h with
  | start => exact h0
  | step _ _ h3 => exact far_and h3

theorem ae_lt {a : AutoD} (ha : AutoOk a) {to : Nat} (hto : to < a.states.toNat) {p : Nat} {d : Int} (h : IsDist (AE a) (· ∈ [to]) p d) : d < a.states.toNat :=
  dist_lt (n := a.states.toNat) (fun p r _ h => (ea_lt ha h).1) (fun p hp => by simp at hp; omega) h

/-- the nearest word that leads to a state -/
noncomputable def pathW (a : AutoD) (X to : Nat) : List Nat × Bool :=
  if best (farT a to) (bitL X (farT a to).length) < 0 then ([], false) else (pwOf a (farT a to) (best (farT a to) (bitL X (farT a to).length)).toNat (X &&& atN (farT a to) (best (farT a to) (bitL X (farT a to).length)) (farT a to).length), true)
theorem path_far {a : AutoD} {to X : Nat} (h : 0 ≤ best (farT a to) (bitL X (farT a to).length)) : Far a to (best (farT a to) (bitL X (farT a to).length)).toNat (X &&& atN (farT a to) (best (farT a to) (bitL X (farT a to).length)) (farT a to).length) := by
  have e : best (farT a to) (bitL X (farT a to).length) = ((best (farT a to) (bitL X (farT a to).length)).toNat : Int) := by omega
  obtain ⟨p, h1, h2⟩ := best_mem h
  rw [mem_bitL] at h1
  have key : X &&& atN (farT a to) (best (farT a to) (bitL X (farT a to).length)) (farT a to).length ≠ 0 := fun h0 => by
    have hb : (X &&& atN (farT a to) (best (farT a to) (bitL X (farT a to).length)) (farT a to).length).testBit p = true := by
      rw [Nat.testBit_and, Bool.and_eq_true, bit_atN]
      exact ⟨h1.2, h1.1, h2⟩
    rw [h0, Nat.zero_testBit] at hb
    cases hb
  have := far_and (a := a) (to := to) (k := (best (farT a to) (bitL X (farT a to).length)).toNat) (X := X) (by rw [← e]; exact key)
  rwa [← e] at this
theorem best_lt {a : AutoD} (ha : AutoOk a) {to X : Nat} (hto : to < a.states.toNat) : best (farT a to) (bitL X (farT a to).length) < 31 := by
  have hs := ha.1.2.1
  rcases Int.lt_or_le (best (farT a to) (bitL X (farT a to).length)) 0 with h | h
  · omega
  · have hf := path_far h
    obtain ⟨p, hp⟩ := bit_ne hf.1
    have := ae_lt ha hto (hf.2 p hp).2
    omega

def RPathS (xs : List AV) (r : AV) (objs : List AObj) : Prop := ∃ (a : AutoD) (X to : Nat), xs = [.agg (autoRow a), .int .i64 ((X : Nat) : Int), .int .i64 ((to : Nat) : Int)] ∧ AutoOk a ∧ X < 2 ^ a.states.toNat ∧ to < a.states.toNat ∧
  r = .tup [.ref 0 0 (pathW a X to).1.length, .bool (pathW a X to).2] ∧ objs = [.arr 1 (ints (natsI (pathW a X to).1))]
theorem RPathS_eq {xs : List AV} {a : AutoD} {X to : Nat} (hx : xs = [.agg (autoRow a), .int .i64 ((X : Nat) : Int), .int .i64 ((to : Nat) : Int)]) (h : AutoOk a) (h1 : X < 2 ^ a.states.toNat) (h2 : to < a.states.toNat) :
    RPathS xs (.tup [.ref 0 0 (pathW a X to).1.length, .bool (pathW a X to).2]) [.arr 1 (ints (natsI (pathW a X to).1))] := ⟨a, X, to, hx, h, h1, h2, rfl, rfl⟩

def RPath (xs : List AV) (r : AV) (objs : List AObj) : Prop := ∃ (a : AutoD) (X to : Nat), xs = [.rptr (autoRow a) 0, .int .i64 ((X : Nat) : Int), .int .i64 ((to : Nat) : Int)] ∧ AutoOk a ∧ X < 2 ^ a.states.toNat ∧ to < a.states.toNat ∧
  r = .tup [.ref 0 0 (pathW a X to).1.length, .bool (pathW a X to).2] ∧ objs = [.arr 1 (ints (natsI (pathW a X to).1))]
theorem RPath_eq {xs : List AV} {a : AutoD} {X to : Nat} (hx : xs = [.rptr (autoRow a) 0, .int .i64 ((X : Nat) : Int), .int .i64 ((to : Nat) : Int)]) (h : AutoOk a) (h1 : X < 2 ^ a.states.toNat) (h2 : to < a.states.toNat) :
    RPath xs (.tup [.ref 0 0 (pathW a X to).1.length, .bool (pathW a X to).2]) [.arr 1 (ints (natsI (pathW a X to).1))] := ⟨a, X, to, hx, h, h1, h2, rfl, rfl⟩

theorem lt31 {a : AutoD} (ha : AutoOk a) {X : Nat} (hX : X < 2 ^ a.states.toNat) : X < 2 ^ 31 := Nat.lt_of_lt_of_le hX (pow_le31 (by have := ha.1.2.1; omega))
theorem ltI {s : Int} {X : Nat} (hX : X < 2 ^ s.toNat) : ((X : Nat) : Int) < 2 ^ s.toNat := by
  rw [← natPow]; exact Int.ofNat_lt.2 hX
theorem far_lt {a : AutoD} {to k X : Nat} (h : Far a to k X) : X < 2 ^ a.states.toNat := lt_two_pow_of fun i hi => (h.2 i hi).1

set_option maxHeartbeats 8000000 in
theorem s_spec_PathWord : PureSound Try.prog 111 RPathS := by
  have hR : Rely Try.prog (ctxOf [(70, .pure RAutoOk), (130, .pure RSetIn), (131, .pure RState), (155, .pure RFarT), (156, .pure RNear), (157, .pure RNext)]) :=
    rely_cons b_spec_AutoOk.has s_spec_AutoOk (rely_cons b_spec_SetIn.has s_spec_SetIn (rely_cons b_spec_l4State.has s_spec_l4State (rely_cons b_spec_l7Far.has s_spec_l7Far (rely_cons b_spec_l7Near.has s_spec_l7Near (rely_cons b_spec_l4Next.has s_spec_l4Next (rely_nil mixed))))))
  refine pure_of_aw b_spec_PathWord ?_
  rintro xs r objs ⟨a, X, to, rfl, ha, hX, hto, rfl, rfl⟩ -
  have hs := ha.1.2.1
  have hlet := ha.1.1
  have hX31 := lt31 ha hX
  have hXi := ltI hX
  have hFl : (farT a to).length = a.states.toNat := farT_len
  have hF31 : (farT a to).length ≤ 31 := by omega
  have hle := (length_ints (farT a to)).trans hFl
  have hbl := best_lt ha (X := X) hto
  generalize hpw : pathW a X to = pw
  unfold pathW at hpw
  refine ⟨by simp, vc2_sound hR _ _ _ _ _ ?_⟩
  conv => whnf
  repeat' ((first
    | contradiction
    | (refine And.intro (fun hb => ?_) (fun hb => ?_) <;> first | contradiction | ((try simp only [SB, reduceCtorEq] at hb); try (exfalso; first | contradiction | omega)))
    | refine And.intro rfl ?_
    | refine ⟨_, IntWalk.i64_in _ (by omega), ?_⟩
    | rw [ints_at (by omega)]
    | rw [ints_at0 (by omega)]
    | rw [ints_at' (by omega) (by omega)]
    | refine And.intro (lens_all rfl) ?_
    | refine And.intro (show _ ≤ _ ∧ (_ + 1) * _ ≤ _ ∧ _ + 1 ≤ _ by first | omega | (simp; omega)) ?_
    | refine And.intro (show 1 * _ ≤ _ ∧ 1 ≤ _ by omega) ?_
    | refine And.intro (by first | omega | (simp; omega) | (show _ ∧ _; simp; done)) ?_
    | refine ⟨_, mask_in (by omega) (by omega), ?_⟩
    | refine ⟨_, _, RAutoOk_mk, ?_⟩
    | refine ⟨_, _, RSetIn_mk (by omega) (by omega), ?_⟩
    | refine ⟨_, _, RState_mk (by omega) (by omega), ?_⟩
    | refine ⟨_, _, RFarT_eq rfl ha hto, ?_⟩
    | refine ⟨_, _, RNear_eq (congrArg (fun v => [v, AV.int .i64 ((X : Nat) : Int)]) (snap_all rfl hle)) hF31 hX31, ?_⟩
    | fail) <;> conv => whnf)
  · rw [if_pos (by assumption)] at hpw
    subst hpw
    refine ⟨.inl rfl, ?_⟩
    conv => whnf
    exact ⟨[none], ⟨rfl, And.intro rfl trivial⟩, ⟨⟨rfl, rfl, rfl⟩, .inl rfl, trivial⟩, rfl, rfl⟩
  rw [if_neg (by omega)] at hpw
  have hfar := path_far (a := a) (to := to) (X := X) (by assumption)
  rw [nearN_eq (by assumption)]
  have eb : ((best (farT a to) (bitL X (farT a to).length)).toNat : Int) = best (farT a to) (bitL X (farT a to).length) := by omega
  generalize hX0 : X &&& atN (farT a to) (best (farT a to) (bitL X (farT a to).length)) (farT a to).length = X0 at *
  generalize hbb : (best (farT a to) (bitL X (farT a to).length)).toNat = b at *
  rw [← eb]
  refine Lp.intro (α := Nat × Nat × List Nat) (fun c => Pt a (farT a to) b X0 c.1 c.2.1 c.2.2) (fun c => c.1) (fun c => [(3, .rptr (autoRow a) 0), (8, .ref 0 0 c.2.2.length), (9, .val (ints (farT a to))), (10, .int .i64 ((c.2.1 : Nat) : Int)), (11, .int .i64 ((c.1 : Nat) : Int))]) (fun c => [some (.arr 1 (ints (natsI c.2.2)))]) ?_ ?_
  · refine ⟨(b, X0, []), .start, [none], rfl, rfl, And.intro rfl trivial, ?_⟩
    exact ⟨.inr rfl, ⟨rfl, rfl, rfl⟩, .inr (snap_all rfl hle), .inl rfl, .inl rfl, trivial⟩
  rintro ⟨k, Y, out⟩ hP
  dsimp only at hP ⊢
  have hol := hP.len
  have hfk := hP.far hfar
  have hY31 := lt31 ha (far_lt hfk)
  have hqi := (length_ints (natsI out)).trans (length_natsI out)
  refine vc2_sound hR _ _ _ _ _ ?_
  cases k with
  | zero =>
    conv => whnf
    repeat' ((first
      | contradiction
      | (refine And.intro (fun hb => ?_) (fun hb => ?_) <;> first | contradiction | ((try simp only [SB, reduceCtorEq] at hb); try (exfalso; first | contradiction | omega)))
      | refine And.intro rfl ?_
      | refine ⟨_, IntWalk.i64_in _ (by omega), ?_⟩
      | rw [ints_at (by omega)]
      | rw [ints_at0 (by omega)]
      | rw [ints_at' (by omega) (by omega)]
      | refine And.intro (lens_all rfl) ?_
      | refine And.intro (show _ ≤ _ ∧ (_ + 1) * _ ≤ _ ∧ _ + 1 ≤ _ by first | omega | (simp; omega)) ?_
      | refine And.intro (show 1 * _ ≤ _ ∧ 1 ≤ _ by omega) ?_
      | refine And.intro (by first | omega | (simp; omega) | (show _ ∧ _; simp; done)) ?_
      | fail) <;> conv => whnf)
    refine ⟨.inl rfl, ?_⟩
    conv => whnf
    have e := pwOf_eq hP
    rw [e] at hpw
    subst hpw
    exact ⟨[some 0], ⟨rfl, And.intro (And.intro rfl rfl) trivial⟩, ⟨rfl, .inl rfl, trivial⟩, rfl, by simp [AObj.nov, ints_nov]⟩
  | succ k =>
    conv => whnf
    repeat' ((first
      | contradiction
      | (refine And.intro (fun hb => ?_) (fun hb => ?_) <;> first | contradiction | ((try simp only [SB, reduceCtorEq] at hb); try (exfalso; first | contradiction | omega)))
      | refine And.intro rfl ?_
      | refine ⟨_, IntWalk.i64_in _ (by omega), ?_⟩
      | rw [ints_at (by omega)]
      | rw [ints_at0 (by omega)]
      | rw [ints_at' (by omega) (by omega)]
      | refine And.intro (lens_all rfl) ?_
      | refine And.intro (show _ ≤ _ ∧ (_ + 1) * _ ≤ _ ∧ _ + 1 ≤ _ by first | omega | (simp; omega)) ?_
      | refine And.intro (show 1 * _ ≤ _ ∧ 1 ≤ _ by omega) ?_
      | refine And.intro (by first | omega | (simp; omega) | (show _ ∧ _; simp; done)) ?_
      | fail) <;> conv => whnf)
    refine Lp.intro (α := Nat) (fun x => (x : Int) ≤ a.letters ∧ ∀ y, y < x → down a (farT a to) Y y k = 0) (fun x => a.letters.toNat - x) (fun x => [(3, .rptr (autoRow a) 0), (8, .ref 0 0 out.length), (9, .val (ints (farT a to))), (10, .int .i64 ((Y : Nat) : Int)), (11, .int .i64 ((k + 1 : Nat) : Int)), (12, .int .i64 x)]) (fun _ => [some (.arr 1 (ints (natsI out)))]) ?_ ?_
    · refine ⟨0, ⟨by omega, fun y hy => by omega⟩, [some 0], rfl, rfl, And.intro (And.intro rfl rfl) trivial, ?_⟩
      exact ⟨.inl rfl, rfl, .inl rfl, .inl rfl, .inl rfl, .inl rfl, trivial⟩
    rintro x ⟨hx, hno⟩
    have hU := stepI_31 ha (X := Y) (x := (x : Int)) (Nat.le_refl _)
    refine vc2_sound hR _ _ _ _ _ ?_
    by_cases hlt : (x : Int) < a.letters
    · have hnd := near_down ha (x := x) hfk
      conv => whnf
      repeat' ((first
        | contradiction
        | (refine And.intro (fun hb => ?_) (fun hb => ?_) <;> first | contradiction | ((try simp only [SB, reduceCtorEq] at hb); try (exfalso; first | contradiction | omega)))
        | refine And.intro rfl ?_
        | refine ⟨_, IntWalk.i64_in _ (by omega), ?_⟩
        | rw [ints_at (by omega)]
        | rw [ints_at0 (by omega)]
        | rw [ints_at' (by omega) (by omega)]
        | refine And.intro (lens_all rfl) ?_
        | refine And.intro (show _ ≤ _ ∧ (_ + 1) * _ ≤ _ ∧ _ + 1 ≤ _ by first | omega | (simp; omega)) ?_
        | refine And.intro (show 1 * _ ≤ _ ∧ 1 ≤ _ by omega) ?_
        | refine And.intro (by first | omega | (simp; omega) | (show _ ∧ _; simp; done)) ?_
        | refine ⟨_, _, RNext_eq rfl ha hY31, ?_⟩
        | refine ⟨_, _, RNear_eq rfl hF31 hU, ?_⟩
        | fail) <;> conv => whnf)
      · have hk : best (farT a to) (bitL (stepU a Y x) (farT a to).length) = (k : Int) := by omega
        have hd := hnd.1 hk
        refine ⟨(k, down a (farT a to) Y x k, out ++ [x]), .step hP hno hd, by dsimp only; omega, [some 1], rfl, rfl, And.intro (And.intro rfl (natsI_app rfl)) trivial, ?_⟩
        exact ⟨.inl rfl, congrArg (AV.ref 1 0) (by simp), .inl rfl, .inl (congrArg (fun x : Nat => AV.int .i64 x) (by rw [hk, nearN_eq (by omega)]; rfl)), .inl (congrArg (AV.int .i64) (by (try dsimp only); omega)), trivial⟩
      · refine ⟨x + 1, ⟨by omega, fun y hy => ?_⟩, by omega, [some 0], rfl, rfl, And.intro (And.intro rfl rfl) trivial, ?_⟩
        · by_cases hyx : y = x
          · subst hyx
            refine Classical.byContradiction fun h0 => ?_
            have := hnd.2 h0
            omega
          · exact hno y (by omega)
        · exact ⟨.inl rfl, rfl, .inl rfl, .inl rfl, .inl rfl, .inl rfl, trivial⟩
    · exfalso
      obtain ⟨y, h1, h2⟩ := far_some ha hfk
      exact h2 (hno y (by omega))

theorem snap_box {h : Heap} {b j n z : Nat} {rows : List (List AV)} (hb : h b = some (.box [.ref j 0 n])) (hj : h j = some (.arr z rows)) (hn : rows.length = n) : (AV.ptr b 0 0).snap h = .rptr [.val rows] 0 := by
  simp only [AV.snap, hb, if_true, List.map_cons, List.map_nil, snap1_all hj hn]
theorem best_take {F : List Int} {L : List Nat} {i : Nat} (hi : i < L.length) : best F (L.take (i + 1)) = near1 F (best F (L.take i)) (L.getD i 0) := by
  rw [List.take_add_one, List.getElem?_eq_getElem hi, Option.toList_some, best_app]
  simp [List.getD_eq_getElem?_getD, hi]
theorem near1_yes {F : List Int} {b : Int} {s : Nat} (h0 : 0 ≤ F.getD s 0) (h : b < 0 ∨ F.getD s 0 < b) : near1 F b s = F.getD s 0 := by unfold near1; rw [if_pos ⟨h0, h⟩]
theorem near1_no {F : List Int} {b : Int} {s : Nat} (h : F.getD s 0 < 0 ∨ (0 ≤ b ∧ b ≤ F.getD s 0)) : near1 F b s = b := by unfold near1; rw [if_neg (by omega)]
theorem steps_autoG {a : AutoD} (ha : AutoOk a) : steps (autoG a) ≤ 1000000000 := by
  have h := steps_mkG (n := a.states.toNat) (l := a.edges.map trip)
  have := ha.2.1
  rw [List.length_map] at h
  exact Nat.le_trans h (by omega)

set_option maxHeartbeats 8000000 in
theorem s_impl_pathWord : PureSound Try.prog 118 RPath := by
  have hR : Rely Try.prog (ctxOf [(115, .pure RAutoG), (162, .pure RBack), (164, .pure RFar), (127, .pure RSetList), (165, .pure RAtN), (166, .pure RStep)]) :=
    rely_cons b_impl_Auto_graph.has s_impl_graph (rely_cons b_impl_graph_back.has s_impl_back (rely_cons b_impl_graph_far.has s_impl_far (rely_cons b_impl_SetList.has s_impl_SetList (rely_cons b_impl_Auto_pathWord_1.has s_impl_atN (rely_cons b_impl_Auto_step.has s_impl_step (rely_nil mixed))))))
  refine pure_of_aw b_impl_Auto_pathWord ?_
  rintro xs r objs ⟨a, X, to, rfl, ha, hX, hto, rfl, rfl⟩ -
  have hs := ha.1.2.1
  have hlet := ha.1.1
  have hX31 := lt31 ha hX
  have hXi := ltI hX
  have hFl : (farT a to).length = a.states.toNat := farT_len
  have hF31 : (farT a to).length ≤ 31 := by omega
  have hle := (length_ints (farT a to)).trans hFl
  have hbl := best_lt ha (X := X) hto
  have hgl : (autoG a).length = a.states.toNat := length_mkG _ _
  have hbkl : (backG (autoG a)).length = a.states.toNat := (length_mkG _ _).trans hgl
  have hbf : farL (Adj (backG (autoG a))) (· ∈ [to]) (backG (autoG a)).length = farT a to := by rw [adj_backA ha, hbkl]; rfl
  have hgk := gok_auto ha
  have hst := steps_autoG ha
  have hst2 := steps_back hgk
  have hbL : bitL X 31 = bitL X (farT a to).length := bitL_more (by rw [hFl]; exact hX) hF31
  generalize hpw : pathW a X to = pw
  unfold pathW at hpw
  refine ⟨by simp, vc2_sound hR _ _ _ _ _ ?_⟩
  conv => whnf
  repeat' ((first
    | contradiction
    | (refine And.intro (fun hb => ?_) (fun hb => ?_) <;> first | contradiction | ((try simp only [SB, reduceCtorEq] at hb); try (exfalso; first | contradiction | omega)))
    | refine And.intro rfl ?_
    | refine ⟨_, IntWalk.i64_in _ (by omega), ?_⟩
    | rw [ints_at (by omega)]
    | rw [ints_at0 (by omega)]
    | rw [ints_at' (by omega) (by omega)]
    | refine And.intro (lens_all rfl) ?_
    | refine And.intro (show _ ≤ _ ∧ (_ + 1) * _ ≤ _ ∧ _ + 1 ≤ _ by first | omega | (simp; omega)) ?_
    | refine And.intro (show 1 * _ ≤ _ ∧ 1 ≤ _ by omega) ?_
    | refine And.intro (by first | omega | (simp; omega) | (show _ ∧ _; simp; done)) ?_
    | refine ⟨_, _, RAutoG_eq rfl ha, ?_⟩
    | refine ⟨_, _, RBack_eq (congrArg (fun v => [v]) (snap_graph rfl rfl hgl.symm)) hgk (by omega) hst, ?_⟩
    | (refine ⟨_, _, RFar_eq (G := backG (autoG a)) (src := [to]) (args_cons (snap_graph rfl rfl (by omega)) (args_cons (snap_all rfl rfl) rfl)) (gok_back hgk) (by omega) (by omega) (fun p hp => by simp at hp; omega) (by simp), ?_⟩)
    | refine ⟨_, _, RSetList_mk hX31, ?_⟩
    | fail) <;> conv => whnf)
  generalize hL : bitL X 31 = L at *
  have hLn : L.length ≤ 31 := by rw [← hL]; exact bitL_len
  have hqi := (length_ints (natsI L)).trans (length_natsI L)
  have hmem : ∀ i, i < L.length → L.getD i 0 < a.states.toNat := fun i hi => by
    have : L.getD i 0 ∈ bitL X 31 := by
      rw [hL, List.getD_eq_getElem?_getD, List.getElem?_eq_getElem hi]
      exact List.getElem_mem hi
    exact bit_lt hX (mem_bitL.1 this).2
  refine Lp.intro (α := Nat) (fun i => i ≤ L.length) (fun i => L.length - i) (fun i => [(0, .rptr (autoRow a) 0), (1, .int .i64 ((X : Nat) : Int)), (8, .rptr [.val (ints (farT a to))] 0), (9, .int .i64 (best (farT a to) (L.take i))), (24, .val (ints (natsI L))), (25, .int .i64 L.length), (26, .int .i64 i)]) (fun _ => []) ?_ ?_
  · refine ⟨0, Nat.zero_le _, [], rfl, rfl, trivial, ?_⟩
    exact ⟨.inl rfl, .inl rfl, .inr (snap_box rfl (congrArg (fun l => some (AObj.arr 1 (ints l))) hbf) (by rw [length_ints, farT_len]; omega)), .inl rfl, .inr (snap_all rfl hqi), .inl rfl, .inl rfl, trivial⟩
  intro i hi
  refine vc2_sound hR _ _ _ _ _ ?_
  by_cases hlt : i < L.length
  · have hm := hmem i hlt
    have ht := best_take (F := farT a to) hlt
    have hat : (ints (farT a to))[((L.getD i 0 : Nat) : Int).toNat]? = some [.int .i64 ((farT a to).getD (L.getD i 0) 0)] := by rw [ints_at (by omega)]
    generalize hv : (farT a to).getD (L.getD i 0) 0 = v at *
    conv => whnf
    repeat' ((first
      | contradiction
      | (refine And.intro (fun hb => ?_) (fun hb => ?_) <;> first | contradiction | ((try simp only [SB, reduceCtorEq] at hb); try (exfalso; first | contradiction | omega)))
      | refine And.intro rfl ?_
      | refine ⟨_, IntWalk.i64_in _ (by omega), ?_⟩
      | rw [ints_at (by omega)]
      | rw [ints_at0 (by omega)]
      | rw [ints_at' (by omega) (by omega)]
      | refine And.intro (lens_all rfl) ?_
      | refine And.intro (show _ ≤ _ ∧ (_ + 1) * _ ≤ _ ∧ _ + 1 ≤ _ by first | omega | (simp; omega)) ?_
      | refine And.intro (show 1 * _ ≤ _ ∧ 1 ≤ _ by omega) ?_
      | refine And.intro (by first | omega | (simp; omega) | (show _ ∧ _; simp; done)) ?_
      | rw [natsI_at hlt]
      | rw [hat]
      | fail) <;> conv => whnf)
    all_goals
      refine ⟨i + 1, hlt, by omega, [], rfl, rfl, trivial, ?_⟩
      exact ⟨.inl rfl, .inl rfl, .inl rfl, .inl (congrArg (AV.int .i64) (by (try dsimp only); rw [ht]; first | (rw [near1_yes (by omega) (by omega), hv]) | (rw [near1_no (by omega)]))), .inl rfl, .inl rfl, .inl rfl, trivial⟩
  obtain rfl : i = L.length := by omega
  rw [List.take_length]
  have hbb : best (farT a to) L = best (farT a to) (bitL X (farT a to).length) := by rw [← hbL]
  rw [hbb]
  generalize hB : best (farT a to) (bitL X (farT a to).length) = B at *
  have hN31 := atN_lt (F := farT a to) (k := B) (n := (farT a to).length) hF31
  conv => whnf
  repeat' ((first
    | contradiction
    | (refine And.intro (fun hb => ?_) (fun hb => ?_) <;> first | contradiction | ((try simp only [SB, reduceCtorEq] at hb); try (exfalso; first | contradiction | omega)))
    | refine And.intro rfl ?_
    | refine ⟨_, IntWalk.i64_in _ (by omega), ?_⟩
    | rw [ints_at (by omega)]
    | rw [ints_at0 (by omega)]
    | rw [ints_at' (by omega) (by omega)]
    | refine And.intro (lens_all rfl) ?_
    | refine And.intro (show _ ≤ _ ∧ (_ + 1) * _ ≤ _ ∧ _ + 1 ≤ _ by first | omega | (simp; omega)) ?_
    | refine And.intro (show 1 * _ ≤ _ ∧ 1 ≤ _ by omega) ?_
    | refine And.intro (by first | omega | (simp; omega) | (show _ ∧ _; simp; done)) ?_
    | refine ⟨_, _, RAtN_eq rfl hF31, ?_⟩
    | fail) <;> conv => whnf)
  · rw [if_pos (by assumption)] at hpw
    subst hpw
    refine ⟨.inl rfl, ?_⟩
    conv => whnf
    exact ⟨[none], ⟨rfl, And.intro rfl trivial⟩, ⟨⟨rfl, rfl, rfl⟩, .inl rfl, trivial⟩, rfl, rfl⟩
  rw [if_neg (by omega)] at hpw
  have hfar := path_far (a := a) (to := to) (X := X) (by omega)
  rw [hB] at hfar
  have hX0w := and_valN (X := X) (Y := atN (farT a to) B (farT a to).length) (by omega) (by omega)
  have eb : B = ((B.toNat : Nat) : Int) := by omega
  generalize hX0 : X &&& atN (farT a to) B (farT a to).length = X0 at *
  generalize hbb : B.toNat = b at *
  refine Lp.intro (α := Nat × Nat × List Nat) (fun c => Pt a (farT a to) b X0 c.1 c.2.1 c.2.2) (fun c => c.1) (fun c => [(0, .rptr (autoRow a) 0), (1, .int .i64 ((c.2.1 : Nat) : Int)), (9, .int .i64 ((c.1 : Nat) : Int)), (12, .fn 165 [.rptr [.val (ints (farT a to))] 0]), (13, .ref 0 0 c.2.2.length)]) (fun c => [some (.arr 1 (ints (natsI c.2.2)))]) ?_ ?_
  · refine ⟨(b, X0, []), .start, [none], rfl, rfl, And.intro rfl trivial, ?_⟩
    exact ⟨.inl rfl, .inl (congrArg (AV.int .i64) hX0w), .inl (congrArg (AV.int .i64) eb), ⟨rfl, .inl rfl, trivial⟩, ⟨rfl, rfl, rfl⟩, trivial⟩
  rintro ⟨k, Y, out⟩ hP
  dsimp only at hP ⊢
  have hol := hP.len
  have hfk := hP.far hfar
  have hY31 := lt31 ha (far_lt hfk)
  have hqo := (length_ints (natsI out)).trans (length_natsI out)
  refine vc2_sound hR _ _ _ _ _ ?_
  cases k with
  | zero =>
    conv => whnf
    repeat' ((first
      | contradiction
      | (refine And.intro (fun hb => ?_) (fun hb => ?_) <;> first | contradiction | ((try simp only [SB, reduceCtorEq] at hb); try (exfalso; first | contradiction | omega)))
      | refine And.intro rfl ?_
      | refine ⟨_, IntWalk.i64_in _ (by omega), ?_⟩
      | rw [ints_at (by omega)]
      | rw [ints_at0 (by omega)]
      | rw [ints_at' (by omega) (by omega)]
      | refine And.intro (lens_all rfl) ?_
      | refine And.intro (show _ ≤ _ ∧ (_ + 1) * _ ≤ _ ∧ _ + 1 ≤ _ by first | omega | (simp; omega)) ?_
      | refine And.intro (show 1 * _ ≤ _ ∧ 1 ≤ _ by omega) ?_
      | refine And.intro (by first | omega | (simp; omega) | (show _ ∧ _; simp; done)) ?_
      | fail) <;> conv => whnf)
    refine ⟨.inl rfl, ?_⟩
    conv => whnf
    have e := pwOf_eq hP
    rw [e] at hpw
    subst hpw
    exact ⟨[some 0], ⟨rfl, And.intro (And.intro rfl rfl) trivial⟩, ⟨rfl, .inl rfl, trivial⟩, rfl, by simp [AObj.nov, ints_nov]⟩
  | succ k =>
    have ek : ((k + 1 : Nat) : Int) - 1 = ((k : Nat) : Int) := by omega
    conv => whnf
    repeat' ((first
      | contradiction
      | (refine And.intro (fun hb => ?_) (fun hb => ?_) <;> first | contradiction | ((try simp only [SB, reduceCtorEq] at hb); try (exfalso; first | contradiction | omega)))
      | refine And.intro rfl ?_
      | refine ⟨_, IntWalk.i64_in _ (by omega), ?_⟩
      | rw [ints_at (by omega)]
      | rw [ints_at0 (by omega)]
      | rw [ints_at' (by omega) (by omega)]
      | refine And.intro (lens_all rfl) ?_
      | refine And.intro (show _ ≤ _ ∧ (_ + 1) * _ ≤ _ ∧ _ + 1 ≤ _ by first | omega | (simp; omega)) ?_
      | refine And.intro (show 1 * _ ≤ _ ∧ 1 ≤ _ by omega) ?_
      | refine And.intro (by first | omega | (simp; omega) | (show _ ∧ _; simp; done)) ?_
      | refine ⟨_, _, RAtN_eq (F := farT a to) (congrArg (fun z => [AV.int .i64 z, AV.rptr [.val (ints (farT a to))] 0]) ek) hF31, ?_⟩
      | fail) <;> conv => whnf)
    refine Lp.intro (α := Nat) (fun x => (x : Int) ≤ a.letters ∧ ∀ y, y < x → down a (farT a to) Y y k = 0) (fun x => a.letters.toNat - x) (fun x => [(0, .rptr (autoRow a) 0), (1, .int .i64 ((Y : Nat) : Int)), (9, .int .i64 ((k + 1 : Nat) : Int)), (12, .fn 165 [.rptr [.val (ints (farT a to))] 0]), (13, .ref 0 0 out.length), (14, .int .i64 ((atN (farT a to) k (farT a to).length : Nat) : Int)), (71, .int .i64 a.letters), (72, .int .i64 x)]) (fun _ => [some (.arr 1 (ints (natsI out)))]) ?_ ?_
    · refine ⟨0, ⟨by omega, fun y hy => by omega⟩, [some 0], rfl, rfl, And.intro (And.intro rfl rfl) trivial, ?_⟩
      exact ⟨.inl rfl, .inl rfl, .inl rfl, ⟨rfl, .inl rfl, trivial⟩, rfl, .inl rfl, .inl rfl, .inl rfl, trivial⟩
    rintro x ⟨hx, hno⟩
    have hU := stepI_31 ha (X := Y) (x := (x : Int)) (Nat.le_refl _)
    have hN31' := atN_lt (F := farT a to) (k := (k : Int)) (n := (farT a to).length) hF31
    have hand := and_valN (X := stepU a Y x) (Y := atN (farT a to) k (farT a to).length) (show stepI a Y x a.edges.length < _ by omega) (by omega)
    refine vc2_sound hR _ _ _ _ _ ?_
    by_cases hlt : (x : Int) < a.letters
    · conv => whnf
      repeat' ((first
        | contradiction
        | (refine And.intro (fun hb => ?_) (fun hb => ?_) <;> first | contradiction | ((try simp only [SB, reduceCtorEq] at hb); try (exfalso; first | contradiction | omega)))
        | refine And.intro rfl ?_
        | refine ⟨_, IntWalk.i64_in _ (by omega), ?_⟩
        | rw [ints_at (by omega)]
        | rw [ints_at0 (by omega)]
        | rw [ints_at' (by omega) (by omega)]
        | refine And.intro (lens_all rfl) ?_
        | refine And.intro (show _ ≤ _ ∧ (_ + 1) * _ ≤ _ ∧ _ + 1 ≤ _ by first | omega | (simp; omega)) ?_
        | refine And.intro (show 1 * _ ≤ _ ∧ 1 ≤ _ by omega) ?_
        | refine And.intro (by first | omega | (simp; omega) | (show _ ∧ _; simp; done)) ?_
        | refine ⟨_, _, RStep_eq rfl ha hY31, ?_⟩
        | fail) <;> conv => whnf)
      · have h0 := hb
        rw [hand] at h0
        have hd : down a (farT a to) Y x k ≠ 0 := fun h => h0 (by unfold down at h; rw [h]; rfl)
        refine ⟨(k, down a (farT a to) Y x k, out ++ [x]), .step hP hno hd, by dsimp only; omega, [some 1], rfl, rfl, And.intro (And.intro rfl (natsI_app rfl)) trivial, ?_⟩
        exact ⟨.inl rfl, .inl (congrArg (AV.int .i64) hand), .inl (congrArg (AV.int .i64) (by (try dsimp only); omega)), ⟨rfl, .inl rfl, trivial⟩, congrArg (AV.ref 1 0) (by simp), trivial⟩
      · have h0 := hb
        rw [hand] at h0
        refine ⟨x + 1, ⟨by omega, fun y hy => ?_⟩, by omega, [some 0], rfl, rfl, And.intro (And.intro rfl rfl) trivial, ?_⟩
        · by_cases hyx : y = x
          · subst hyx
            unfold down
            omega
          · exact hno y (by omega)
        · exact ⟨.inl rfl, .inl rfl, .inl rfl, ⟨rfl, .inl rfl, trivial⟩, rfl, .inl rfl, .inl rfl, .inl rfl, trivial⟩
    · exfalso
      obtain ⟨y, h1, h2⟩ := far_some ha hfk
      exact h2 (hno y (by omega))

end Go.Proofs.Ytpfbkblgefddlaa.Ct
