/- Automata that are right: the reference's tests. -/
import Derived.Test.YtpfbkblgefddlaaCtAuto2
import Derived.Test.YtpfbkblgefddlaaCtBits
import Derived.Test.YtpfbkblgefddlaaAvVc2
namespace Go.Proofs.Ytpfbkblgefddlaa.Ct
set_option linter.unusedSimpArgs false
set_option linter.unusedVariables false
open Go Go.Proofs Go.Proofs.Ytpfbkblgefddlaa.Av

def edgeLess (x y : EdgeD) : Bool := if x.src ≠ y.src then decide (x.src < y.src) else if x.letter ≠ y.letter then decide (x.letter < y.letter) else decide (x.dst < y.dst)

def HeadOk (l s t : Int) : Prop := (1 ≤ l ∧ l ≤ 8) ∧ (0 ≤ s ∧ s ≤ 31) ∧ (0 ≤ t ∧ t ≤ 2147483647 ∧ t < 2 ^ s.toNat)
instance (l s t : Int) : Decidable (HeadOk l s t) := by unfold HeadOk; infer_instance

def EdgeIn (a : AutoD) (e : EdgeD) : Prop := (0 ≤ e.src ∧ e.src ≤ a.states - 1) ∧ (0 ≤ e.dst ∧ e.dst ≤ a.states - 1) ∧ (0 ≤ e.letter ∧ e.letter ≤ a.letters - 1)
instance (a : AutoD) (e : EdgeD) : Decidable (EdgeIn a e) := by unfold EdgeIn; infer_instance

def EdgeAt (a : AutoD) (i : Nat) : Prop := EdgeIn a (a.edges.getD i default) ∧ (0 < i → edgeLess (a.edges.getD (i - 1) default) (a.edges.getD i default) = true)
instance (a : AutoD) (i : Nat) : Decidable (EdgeAt a i) := by unfold EdgeAt; infer_instance

def AutoOk (a : AutoD) : Prop := HeadOk a.letters a.states a.start ∧ a.edges.length ≤ 2000 ∧ ∀ i, i < a.edges.length → EdgeAt a i
instance (a : AutoD) : Decidable (AutoOk a) := by unfold AutoOk; infer_instance

def NamedAt (l : List NamedD) (i : Nat) : Prop := (97 ≤ (l.getD i default).name ∧ (l.getD i default).name ≤ 122) ∧ AutoOk (l.getD i default).auto ∧ (0 < i → (l.getD (i - 1) default).name < (l.getD i default).name)
instance (l : List NamedD) (i : Nat) : Decidable (NamedAt l i) := by unfold NamedAt; infer_instance

def ShelfOk (l : List NamedD) : Prop := l.length ≤ 8 ∧ ∀ i, i < l.length → NamedAt l i
instance (l : List NamedD) : Decidable (ShelfOk l) := by unfold ShelfOk; infer_instance

def c_spec_l4Less : ICode := (.seq (.reg [⟨(some 2), (.box 4), [(.t 0)], none⟩, ⟨(some 3), (.box 4), [(.t 1)], none⟩, ⟨(some 4), .mv, [(.c (.bool false))], none⟩]) (.seq (.seq (.reg [⟨(some 5), (.fadr 0), [(.t 2)], none⟩, ⟨(some 6), .ld1, [(.t 5)], none⟩, ⟨(some 7), (.fadr 0), [(.t 3)], none⟩, ⟨(some 8), .ld1, [(.t 7)], none⟩, ⟨(some 9), (.bin .neq), [(.t 6), (.t 8)], none⟩]) (.cond (.t 9) (.seq (.reg [⟨(some 10), (.fadr 0), [(.t 2)], none⟩, ⟨(some 11), .ld1, [(.t 10)], none⟩, ⟨(some 12), (.fadr 0), [(.t 3)], none⟩, ⟨(some 13), .ld1, [(.t 12)], none⟩, ⟨(some 14), (.bin .lss), [(.t 11), (.t 13)], none⟩, ⟨(some 4), .mv, [(.t 14)], none⟩]) .ret) .skip)) (.seq (.seq (.reg [⟨(some 15), (.fadr 1), [(.t 2)], none⟩, ⟨(some 16), .ld1, [(.t 15)], none⟩, ⟨(some 17), (.fadr 1), [(.t 3)], none⟩, ⟨(some 18), .ld1, [(.t 17)], none⟩, ⟨(some 19), (.bin .neq), [(.t 16), (.t 18)], none⟩]) (.cond (.t 19) (.seq (.reg [⟨(some 20), (.fadr 1), [(.t 2)], none⟩, ⟨(some 21), .ld1, [(.t 20)], none⟩, ⟨(some 22), (.fadr 1), [(.t 3)], none⟩, ⟨(some 23), .ld1, [(.t 22)], none⟩, ⟨(some 24), (.bin .lss), [(.t 21), (.t 23)], none⟩, ⟨(some 4), .mv, [(.t 24)], none⟩]) .ret) .skip)) (.seq (.reg [⟨(some 25), (.fadr 2), [(.t 2)], none⟩, ⟨(some 26), .ld1, [(.t 25)], none⟩, ⟨(some 27), (.fadr 2), [(.t 3)], none⟩, ⟨(some 28), .ld1, [(.t 27)], none⟩, ⟨(some 29), (.bin .lss), [(.t 26), (.t 28)], none⟩, ⟨(some 4), .mv, [(.t 29)], none⟩]) .ret))))
theorem b_spec_l4Less : Body Try.prog 132 30 c_spec_l4Less [(.t 4)] := body_mk Try.func132 (by kernel_rfl) (by decide)

def c_spec_l4State : ICode := (.seq (.reg [⟨(some 4), .mv, [(.c (.bool false))], none⟩]) (.seq (.reg [⟨(some 5), .mv, [(.t 0)], none⟩, ⟨(some 6), .mv, [(.t 1)], none⟩, ⟨(some 7), (.bin .sub), [(.t 6), (.c (.int .i64 1))], none⟩, ⟨(some 8), (.call 69), [(.t 5), (.c (.int .i64 0)), (.t 7)], none⟩, ⟨(some 4), .mv, [(.t 8)], none⟩]) .ret))
theorem b_spec_l4State : Body Try.prog 131 9 c_spec_l4State [(.t 4)] := body_mk Try.func131 (by kernel_rfl) (by decide)

def c_spec_SetOk : ICode := (.seq (.reg [⟨(some 2), .mv, [(.c (.bool false))], none⟩]) (.seq (.reg [⟨(some 3), .mv, [(.t 0)], none⟩, ⟨(some 4), (.call 69), [(.t 3), (.c (.int .i64 0)), (.c (.int .i64 2147483647))], none⟩, ⟨(some 2), .mv, [(.t 4)], none⟩]) .ret))
theorem b_spec_SetOk : Body Try.prog 180 5 c_spec_SetOk [(.t 2)] := body_mk Try.func180 (by kernel_rfl) (by decide)

def c_spec_SetIn : ICode := (.seq (.reg [⟨(some 4), .mv, [(.c (.bool false))], none⟩]) (.seq (.reg [⟨(some 5), .mv, [(.t 0)], none⟩, ⟨(some 6), (.call 180), [(.t 5)], none⟩, ⟨(some 7), .mv, [(.t 6)], none⟩, ⟨(some 8), .mv, [(.t 1)], (some (7, true))⟩, ⟨(some 9), (.call 180), [(.t 8)], (some (7, true))⟩, ⟨(some 10), .pick, [(.t 7), (.t 9), (.c (.bool false))], none⟩, ⟨(some 11), .mv, [(.t 10)], none⟩, ⟨(some 12), .mv, [(.t 0)], (some (11, true))⟩, ⟨(some 13), .mv, [(.t 1)], (some (11, true))⟩, ⟨(some 14), (.bin .and), [(.t 12), (.t 13)], (some (11, true))⟩, ⟨(some 15), .mv, [(.t 0)], (some (11, true))⟩, ⟨(some 16), (.bin .eql), [(.t 14), (.t 15)], (some (11, true))⟩, ⟨(some 17), .pick, [(.t 11), (.t 16), (.c (.bool false))], none⟩, ⟨(some 4), .mv, [(.t 17)], none⟩]) .ret))
theorem b_spec_SetIn : Body Try.prog 130 18 c_spec_SetIn [(.t 4)] := body_mk Try.func130 (by kernel_rfl) (by decide)

def c_spec_AutoOk : ICode := (.seq (.reg [⟨(some 1), (.box 4), [(.t 0)], none⟩, ⟨(some 2), .mv, [(.c (.bool false))], none⟩]) (.seq (.seq (.drw [⟨(some 5), (.fadr 0), [(.t 1)], none⟩, ⟨(some 6), .ld1, [(.t 5)], none⟩, ⟨(some 7), (.call 69), [(.t 6), (.c (.int .i64 1)), (.c (.int .i64 8))], none⟩, ⟨(some 8), .not, [(.t 7)], none⟩, ⟨(some 9), .mv, [(.t 8)], none⟩, ⟨(some 10), (.fadr 1), [(.t 1)], (some (9, false))⟩, ⟨(some 11), .ld1, [(.t 10)], (some (9, false))⟩, ⟨(some 12), (.call 69), [(.t 11), (.c (.int .i64 0)), (.c (.int .i64 31))], (some (9, false))⟩, ⟨(some 13), .not, [(.t 12)], (some (9, false))⟩, ⟨(some 14), .pick, [(.t 9), (.c (.bool true)), (.t 13)], none⟩, ⟨(some 15), .mv, [(.t 14)], none⟩, ⟨(some 16), (.fadr 2), [(.t 1)], (some (15, false))⟩, ⟨(some 17), .ld1, [(.t 16)], (some (15, false))⟩, ⟨(some 18), (.fadr 1), [(.t 1)], (some (15, false))⟩, ⟨(some 19), .ld1, [(.t 18)], (some (15, false))⟩, ⟨(some 20), (.bin .shl), [(.c (.int .i64 1)), (.t 19)], (some (15, false))⟩, ⟨(some 21), (.bin .sub), [(.t 20), (.c (.int .i64 1))], (some (15, false))⟩, ⟨(some 22), (.call 130), [(.t 17), (.t 21)], (some (15, false))⟩, ⟨(some 23), .not, [(.t 22)], (some (15, false))⟩, ⟨(some 24), .pick, [(.t 15), (.c (.bool true)), (.t 23)], none⟩, ⟨(some 25), .mv, [(.t 24)], none⟩, ⟨(some 26), (.fadr 3), [(.t 1)], (some (25, false))⟩, ⟨(some 27), .ld1, [(.t 26)], (some (25, false))⟩, ⟨(some 28), .len, [(.t 27)], (some (25, false))⟩, ⟨(some 29), (.bin .gtr), [(.t 28), (.c (.int .i64 2000))], (some (25, false))⟩, ⟨(some 30), .pick, [(.t 25), (.c (.bool true)), (.t 29)], none⟩] [[], [0], [0, 1], [0, 1, 2], [0, 1, 2, 3], [0, 1, 2, 3, 4], [0, 1, 2, 3, 4, 5], [0, 1, 2, 3, 4, 5, 6], [0, 1, 2, 3, 4, 5, 6, 7], [0, 1, 2, 3, 4, 5, 6, 7, 8], [0, 1, 2, 3, 4, 5, 6, 7, 8, 9], [0, 1, 2, 3, 4, 5, 6, 7, 8, 9, 10], [0, 1, 2, 3, 4, 5, 6, 7, 8, 9, 10, 11], [0, 1, 2, 3, 4, 5, 6, 7, 8, 9, 10], [0, 1, 2, 3, 4, 5, 6, 7, 8, 9, 10, 13], [0, 1, 2, 3, 4, 5, 6, 7, 8, 9, 10, 13, 14], [0, 1, 2, 3, 4, 5, 6, 7, 8, 9, 10, 13, 14, 15], [0, 1, 2, 3, 4, 5, 6, 7, 8, 9, 10, 11, 12, 13, 14, 15, 16], [0, 1, 2, 3, 4, 5, 6, 7, 8, 9, 10, 11, 12, 13, 14, 15, 16, 17], [0, 1, 2, 3, 4, 5, 6, 7, 8, 9, 10, 11, 12, 13, 14, 15, 16, 17, 18], [0, 1, 2, 3, 4, 5, 6, 7, 8, 9, 10, 11, 12, 13, 14, 15, 16, 17, 18, 19], [0, 1, 2, 3, 4, 5, 6, 7, 8, 9, 10, 11, 12, 13, 14, 15, 16, 17, 18, 19, 20], [0, 1, 2, 3, 4, 5, 6, 7, 8, 9, 10, 11, 12, 13, 14, 15, 16, 17, 18, 19, 20, 21], [0, 1, 2, 3, 4, 5, 6, 7, 8, 9, 10, 11, 12, 13, 14, 15, 16, 17, 18, 19, 20, 21, 22], [0, 1, 2, 3, 4, 5, 6, 7, 8, 9, 10, 11, 12, 13, 14, 15, 16, 17, 18, 19, 20, 21, 22, 23], [0, 1, 2, 3, 4, 5, 6, 7, 8, 9, 10, 11, 12, 13, 14, 15, 16, 17, 18, 19, 20, 21, 22, 23, 24]] true true) (.cond (.t 30) (.seq (.reg [⟨(some 2), .mv, [(.c (.bool false))], none⟩]) .ret) .skip)) (.seq (.seq (.reg [⟨(some 3), .mv, [(.c (.int .i64 0))], none⟩]) (.block 0 (.loop (.seq (.seq (.reg [⟨(some 31), .mv, [(.t 3)], none⟩, ⟨(some 32), (.fadr 3), [(.t 1)], none⟩, ⟨(some 33), .ld1, [(.t 32)], none⟩, ⟨(some 34), .len, [(.t 33)], none⟩, ⟨(some 35), (.bin .lss), [(.t 31), (.t 34)], none⟩]) (.cond (.t 35) .skip (.exit 0))) (.seq (.block 1 (.seq (.reg [⟨(some 38), (.fadr 3), [(.t 1)], none⟩, ⟨(some 39), .ld1, [(.t 38)], none⟩, ⟨(some 40), .mv, [(.t 3)], none⟩, ⟨(some 41), (.iadr 4), [(.t 39), (.t 40)], none⟩, ⟨(some 42), (.ldn 4), [(.t 41)], none⟩, ⟨(some 4), (.alc [(.int .i64 0), (.int .i64 0), (.int .i64 0), (.bool false)]), [], none⟩, ⟨none, (.st 4), [(.t 4), (.t 42)], none⟩]) (.seq (.drw [⟨(some 43), (.fadr 0), [(.t 4)], none⟩, ⟨(some 44), .ld1, [(.t 43)], none⟩, ⟨(some 45), (.fadr 1), [(.t 1)], none⟩, ⟨(some 46), .ld1, [(.t 45)], none⟩, ⟨(some 47), (.call 131), [(.t 44), (.t 46)], none⟩, ⟨(some 48), .not, [(.t 47)], none⟩, ⟨(some 49), .mv, [(.t 48)], none⟩, ⟨(some 50), (.fadr 2), [(.t 4)], (some (49, false))⟩, ⟨(some 51), .ld1, [(.t 50)], (some (49, false))⟩, ⟨(some 52), (.fadr 1), [(.t 1)], (some (49, false))⟩, ⟨(some 53), .ld1, [(.t 52)], (some (49, false))⟩, ⟨(some 54), (.call 131), [(.t 51), (.t 53)], (some (49, false))⟩, ⟨(some 55), .not, [(.t 54)], (some (49, false))⟩, ⟨(some 56), .pick, [(.t 49), (.c (.bool true)), (.t 55)], none⟩, ⟨(some 57), .mv, [(.t 56)], none⟩, ⟨(some 58), (.fadr 1), [(.t 4)], (some (57, false))⟩, ⟨(some 59), .ld1, [(.t 58)], (some (57, false))⟩, ⟨(some 60), (.fadr 0), [(.t 1)], (some (57, false))⟩, ⟨(some 61), .ld1, [(.t 60)], (some (57, false))⟩, ⟨(some 62), (.bin .sub), [(.t 61), (.c (.int .i64 1))], (some (57, false))⟩, ⟨(some 63), (.call 69), [(.t 59), (.c (.int .i64 0)), (.t 62)], (some (57, false))⟩, ⟨(some 64), .not, [(.t 63)], (some (57, false))⟩, ⟨(some 65), .pick, [(.t 57), (.c (.bool true)), (.t 64)], none⟩, ⟨(some 66), .mv, [(.t 65)], none⟩, ⟨(some 67), .mv, [(.t 3)], (some (66, false))⟩, ⟨(some 68), (.bin .gtr), [(.t 67), (.c (.int .i64 0))], (some (66, false))⟩, ⟨(some 69), .mv, [(.t 68)], (some (66, false))⟩, ⟨(some 70), (.fadr 3), [(.t 1)], (some (69, true))⟩, ⟨(some 71), .ld1, [(.t 70)], (some (69, true))⟩, ⟨(some 72), .mv, [(.t 3)], (some (69, true))⟩, ⟨(some 73), (.bin .sub), [(.t 72), (.c (.int .i64 1))], (some (69, true))⟩, ⟨(some 74), (.iadr 4), [(.t 71), (.t 73)], (some (69, true))⟩, ⟨(some 75), (.ldn 4), [(.t 74)], (some (69, true))⟩, ⟨(some 76), (.ldn 4), [(.t 4)], (some (69, true))⟩, ⟨(some 77), (.call 132), [(.t 75), (.t 76)], (some (69, true))⟩, ⟨(some 78), .not, [(.t 77)], (some (69, true))⟩, ⟨(some 79), .pick, [(.t 69), (.t 78), (.c (.bool false))], (some (66, false))⟩, ⟨(some 80), .pick, [(.t 66), (.c (.bool true)), (.t 79)], none⟩] [[], [0], [], [2], [0, 1, 2, 3], [0, 1, 2, 3, 4], [0, 1, 2, 3, 4, 5], [0, 1, 2, 3, 4, 5, 6], [0, 1, 2, 3, 4, 5, 6, 7], [0, 1, 2, 3, 4, 5, 6], [0, 1, 2, 3, 4, 5, 6, 9], [0, 1, 2, 3, 4, 5, 6, 7, 8, 9, 10], [0, 1, 2, 3, 4, 5, 6, 7, 8, 9, 10, 11], [0, 1, 2, 3, 4, 5, 6, 7, 8, 9, 10, 11, 12], [0, 1, 2, 3, 4, 5, 6, 7, 8, 9, 10, 11, 12, 13], [0, 1, 2, 3, 4, 5, 6, 7, 8, 9, 10, 11, 12, 13, 14], [0, 1, 2, 3, 4, 5, 6, 7, 8, 9, 10, 11, 12, 13, 14, 15], [0, 1, 2, 3, 4, 5, 6, 7, 8, 9, 10, 11, 12, 13, 14], [0, 1, 2, 3, 4, 5, 6, 7, 8, 9, 10, 11, 12, 13, 14, 17], [0, 1, 2, 3, 4, 5, 6, 7, 8, 9, 10, 11, 12, 13, 14, 17, 18], [0, 1, 2, 3, 4, 5, 6, 7, 8, 9, 10, 11, 12, 13, 14, 15, 16, 17, 18, 19], [0, 1, 2, 3, 4, 5, 6, 7, 8, 9, 10, 11, 12, 13, 14, 15, 16, 17, 18, 19, 20], [0, 1, 2, 3, 4, 5, 6, 7, 8, 9, 10, 11, 12, 13, 14, 15, 16, 17, 18, 19, 20, 21], [0, 1, 2, 3, 4, 5, 6, 7, 8, 9, 10, 11, 12, 13, 14, 15, 16, 17, 18, 19, 20, 21, 22], [0, 1, 2, 3, 4, 5, 6, 7, 8, 9, 10, 11, 12, 13, 14, 15, 16, 17, 18, 19, 20, 21, 22, 23], [0, 1, 2, 3, 4, 5, 6, 7, 8, 9, 10, 11, 12, 13, 14, 15, 16, 17, 18, 19, 20, 21, 22, 23, 24], [0, 1, 2, 3, 4, 5, 6, 7, 8, 9, 10, 11, 12, 13, 14, 15, 16, 17, 18, 19, 20, 21, 22, 23, 24, 25], [0, 1, 2, 3, 4, 5, 6, 7, 8, 9, 10, 11, 12, 13, 14, 15, 16, 17, 18, 19, 20, 21, 22, 23, 24, 25, 26], [0, 1, 2, 3, 4, 5, 6, 7, 8, 9, 10, 11, 12, 13, 14, 15, 16, 17, 18, 19, 20, 21, 22, 23, 24, 25, 26, 27], [0, 1, 2, 3, 4, 5, 6, 7, 8, 9, 10, 11, 12, 13, 14, 15, 16, 17, 18, 19, 20, 21, 22, 23, 24, 25, 26], [0, 1, 2, 3, 4, 5, 6, 7, 8, 9, 10, 11, 12, 13, 14, 15, 16, 17, 18, 19, 20, 21, 22, 23, 24, 25, 26, 29], [0, 1, 2, 3, 4, 5, 6, 7, 8, 9, 10, 11, 12, 13, 14, 15, 16, 17, 18, 19, 20, 21, 22, 23, 24, 25, 26, 27, 28, 29, 30], [0, 1, 2, 3, 4, 5, 6, 7, 8, 9, 10, 11, 12, 13, 14, 15, 16, 17, 18, 19, 20, 21, 22, 23, 24, 25, 26, 27, 28, 29, 30, 31], [0, 1, 2, 3, 4, 5, 6, 7, 8, 9, 10, 11, 12, 13, 14, 15, 16, 17, 18, 19, 20, 21, 22, 23, 24, 25, 26], [0, 1, 2, 3, 4, 5, 6, 7, 8, 9, 10, 11, 12, 13, 14, 15, 16, 17, 18, 19, 20, 21, 22, 23, 24, 25, 26, 27, 28, 29, 30, 31, 32, 33], [0, 1, 2, 3, 4, 5, 6, 7, 8, 9, 10, 11, 12, 13, 14, 15, 16, 17, 18, 19, 20, 21, 22, 23, 24, 25, 26, 27, 28, 29, 30, 31, 32, 33, 34], [0, 1, 2, 3, 4, 5, 6, 7, 8, 9, 10, 11, 12, 13, 14, 15, 16, 17, 18, 19, 20, 21, 22, 23, 24, 25, 26, 27, 28, 29, 30, 31, 32, 33, 34, 35], [0, 1, 2, 3, 4, 5, 6, 7, 8, 9, 10, 11, 12, 13, 14, 15, 16, 17, 18, 19, 20, 21, 22, 23, 24, 25, 26, 27, 28, 29, 30, 31, 32, 33, 34, 35, 36]] true true) (.cond (.t 80) (.seq (.reg [⟨(some 2), .mv, [(.c (.bool false))], none⟩]) .ret) .skip)))) (.reg [⟨(some 36), .mv, [(.t 3)], none⟩, ⟨(some 37), (.bin .add), [(.t 36), (.c (.int .i64 1))], none⟩, ⟨(some 3), .mv, [(.t 37)], none⟩])))))) (.seq (.reg [⟨(some 2), .mv, [(.c (.bool true))], none⟩]) .ret))))
theorem b_spec_AutoOk : Body Try.prog 70 81 c_spec_AutoOk [(.t 2)] := body_mk Try.func70 (by kernel_rfl) (by decide)

def c_spec_ShelfOk : ICode := (.seq (.reg [⟨(some 2), .mv, [(.c (.bool false))], none⟩]) (.seq (.seq (.reg [⟨(some 4), .mv, [(.t 0)], none⟩, ⟨(some 5), .len, [(.t 4)], none⟩, ⟨(some 6), (.bin .gtr), [(.t 5), (.c (.int .i64 8))], none⟩]) (.cond (.t 6) (.seq (.reg [⟨(some 2), .mv, [(.c (.bool false))], none⟩]) .ret) .skip)) (.seq (.seq (.reg [⟨(some 3), .mv, [(.c (.int .i64 0))], none⟩]) (.block 0 (.loop (.seq (.seq (.reg [⟨(some 7), .mv, [(.t 3)], none⟩, ⟨(some 8), .mv, [(.t 0)], none⟩, ⟨(some 9), .len, [(.t 8)], none⟩, ⟨(some 10), (.bin .lss), [(.t 7), (.t 9)], none⟩]) (.cond (.t 10) .skip (.exit 0))) (.seq (.block 1 (.seq (.drw [⟨(some 13), .mv, [(.t 0)], none⟩, ⟨(some 14), .mv, [(.t 3)], none⟩, ⟨(some 15), (.iadr 5), [(.t 13), (.t 14)], none⟩, ⟨(some 16), (.fadr 0), [(.t 15)], none⟩, ⟨(some 17), .ld1, [(.t 16)], none⟩, ⟨(some 18), (.call 69), [(.t 17), (.c (.int .i64 97)), (.c (.int .i64 122))], none⟩, ⟨(some 19), .not, [(.t 18)], none⟩, ⟨(some 20), .mv, [(.t 19)], none⟩, ⟨(some 21), .mv, [(.t 0)], (some (20, false))⟩, ⟨(some 22), .mv, [(.t 3)], (some (20, false))⟩, ⟨(some 23), (.iadr 5), [(.t 21), (.t 22)], (some (20, false))⟩, ⟨(some 24), (.fadr 1), [(.t 23)], (some (20, false))⟩, ⟨(some 25), (.ldn 4), [(.t 24)], (some (20, false))⟩, ⟨(some 26), (.call 70), [(.t 25)], (some (20, false))⟩, ⟨(some 27), .not, [(.t 26)], (some (20, false))⟩, ⟨(some 28), .pick, [(.t 20), (.c (.bool true)), (.t 27)], none⟩, ⟨(some 29), .mv, [(.t 28)], none⟩, ⟨(some 30), .mv, [(.t 3)], (some (29, false))⟩, ⟨(some 31), (.bin .gtr), [(.t 30), (.c (.int .i64 0))], (some (29, false))⟩, ⟨(some 32), .mv, [(.t 31)], (some (29, false))⟩, ⟨(some 33), .mv, [(.t 0)], (some (32, true))⟩, ⟨(some 34), .mv, [(.t 3)], (some (32, true))⟩, ⟨(some 35), (.bin .sub), [(.t 34), (.c (.int .i64 1))], (some (32, true))⟩, ⟨(some 36), (.iadr 5), [(.t 33), (.t 35)], (some (32, true))⟩, ⟨(some 37), (.fadr 0), [(.t 36)], (some (32, true))⟩, ⟨(some 38), .ld1, [(.t 37)], (some (32, true))⟩, ⟨(some 39), .mv, [(.t 0)], (some (32, true))⟩, ⟨(some 40), .mv, [(.t 3)], (some (32, true))⟩, ⟨(some 41), (.iadr 5), [(.t 39), (.t 40)], (some (32, true))⟩, ⟨(some 42), (.fadr 0), [(.t 41)], (some (32, true))⟩, ⟨(some 43), .ld1, [(.t 42)], (some (32, true))⟩, ⟨(some 44), (.bin .geq), [(.t 38), (.t 43)], (some (32, true))⟩, ⟨(some 45), .pick, [(.t 32), (.t 44), (.c (.bool false))], (some (29, false))⟩, ⟨(some 46), .pick, [(.t 29), (.c (.bool true)), (.t 45)], none⟩] [[], [], [0, 1], [0, 1, 2], [0, 1, 2, 3], [0, 1, 2, 3, 4], [0, 1, 2, 3, 4, 5], [0, 1, 2, 3, 4, 5, 6], [0, 1, 2, 3, 4, 5, 6, 7], [0, 1, 2, 3, 4, 5, 6, 7], [0, 1, 2, 3, 4, 5, 6, 7, 8, 9], [0, 1, 2, 3, 4, 5, 6, 7, 8, 9, 10], [0, 1, 2, 3, 4, 5, 6, 7, 8, 9, 10, 11], [0, 1, 2, 3, 4, 5, 6, 7, 8, 9, 10, 11, 12], [0, 1, 2, 3, 4, 5, 6, 7, 8, 9, 10, 11, 12, 13], [0, 1, 2, 3, 4, 5, 6, 7, 8, 9, 10, 11, 12, 13, 14], [0, 1, 2, 3, 4, 5, 6, 7, 8, 9, 10, 11, 12, 13, 14, 15], [0, 1, 2, 3, 4, 5, 6, 7, 8, 9, 10, 11, 12, 13, 14, 15, 16], [0, 1, 2, 3, 4, 5, 6, 7, 8, 9, 10, 11, 12, 13, 14, 15, 16, 17], [0, 1, 2, 3, 4, 5, 6, 7, 8, 9, 10, 11, 12, 13, 14, 15, 16, 17, 18], [0, 1, 2, 3, 4, 5, 6, 7, 8, 9, 10, 11, 12, 13, 14, 15, 16, 17, 18, 19], [0, 1, 2, 3, 4, 5, 6, 7, 8, 9, 10, 11, 12, 13, 14, 15, 16, 17, 18, 19], [0, 1, 2, 3, 4, 5, 6, 7, 8, 9, 10, 11, 12, 13, 14, 15, 16, 17, 18, 19, 21], [0, 1, 2, 3, 4, 5, 6, 7, 8, 9, 10, 11, 12, 13, 14, 15, 16, 17, 18, 19, 20, 21, 22], [0, 1, 2, 3, 4, 5, 6, 7, 8, 9, 10, 11, 12, 13, 14, 15, 16, 17, 18, 19, 20, 21, 22, 23], [0, 1, 2, 3, 4, 5, 6, 7, 8, 9, 10, 11, 12, 13, 14, 15, 16, 17, 18, 19, 20, 21, 22, 23, 24], [0, 1, 2, 3, 4, 5, 6, 7, 8, 9, 10, 11, 12, 13, 14, 15, 16, 17, 18, 19], [0, 1, 2, 3, 4, 5, 6, 7, 8, 9, 10, 11, 12, 13, 14, 15, 16, 17, 18, 19], [0, 1, 2, 3, 4, 5, 6, 7, 8, 9, 10, 11, 12, 13, 14, 15, 16, 17, 18, 19, 26, 27], [0, 1, 2, 3, 4, 5, 6, 7, 8, 9, 10, 11, 12, 13, 14, 15, 16, 17, 18, 19, 26, 27, 28], [0, 1, 2, 3, 4, 5, 6, 7, 8, 9, 10, 11, 12, 13, 14, 15, 16, 17, 18, 19, 26, 27, 28, 29], [0, 1, 2, 3, 4, 5, 6, 7, 8, 9, 10, 11, 12, 13, 14, 15, 16, 17, 18, 19, 20, 21, 22, 23, 24, 25, 26, 27, 28, 29, 30], [0, 1, 2, 3, 4, 5, 6, 7, 8, 9, 10, 11, 12, 13, 14, 15, 16, 17, 18, 19, 20, 21, 22, 23, 24, 25, 26, 27, 28, 29, 30, 31], [0, 1, 2, 3, 4, 5, 6, 7, 8, 9, 10, 11, 12, 13, 14, 15, 16, 17, 18, 19, 20, 21, 22, 23, 24, 25, 26, 27, 28, 29, 30, 31, 32]] true true) (.cond (.t 46) (.seq (.reg [⟨(some 2), .mv, [(.c (.bool false))], none⟩]) .ret) .skip))) (.reg [⟨(some 11), .mv, [(.t 3)], none⟩, ⟨(some 12), (.bin .add), [(.t 11), (.c (.int .i64 1))], none⟩, ⟨(some 3), .mv, [(.t 12)], none⟩])))))) (.seq (.reg [⟨(some 2), .mv, [(.c (.bool true))], none⟩]) .ret))))
theorem b_spec_ShelfOk : Body Try.prog 19 47 c_spec_ShelfOk [(.t 2)] := body_mk Try.func19 (by kernel_rfl) (by decide)


def RLess (xs : List AV) (r : AV) (objs : List AObj) : Prop := ∃ x y, xs = [.agg (edgeRow x), .agg (edgeRow y)] ∧ r = .bool (edgeLess x y) ∧ objs = []
theorem RLess_mk {x y : EdgeD} : RLess [.agg (edgeRow x), .agg (edgeRow y)] (.bool (edgeLess x y)) [] := ⟨x, y, rfl, rfl, rfl⟩

theorem s_spec_l4Less : PureSound Try.prog 132 RLess := by
  have hR : Rely Try.prog (ctxOf []) := rely_nil mixed
  refine pure_of_aw b_spec_l4Less ?_
  rintro xs r objs ⟨x, y, rfl, rfl, rfl⟩ -
  refine ⟨by simp, vc2_sound hR _ _ _ _ _ ?_⟩
  conv => whnf
  repeat' ((first
    | contradiction
    | (refine And.intro (fun hb => ?_) (fun hb => ?_) <;> first | contradiction | ((try simp only [SB, reduceCtorEq] at hb); try (exfalso; first | contradiction | omega)))
    | refine And.intro rfl ?_
    | refine ⟨_, IntWalk.i64_in _ (by omega), ?_⟩
    | rw [ints_at (by omega)]
    | rw [ints_at0 (by omega)]
    | rw [ints_at' (by omega) (by omega)]
    | refine And.intro (lens_all rfl) ?_
    | refine And.intro (show _ ≤ _ ∧ (_ + 1) * _ ≤ _ ∧ _ + 1 ≤ _ by first | omega | (simp; omega)) ?_
    | refine And.intro (show 1 * _ ≤ _ ∧ 1 ≤ _ by omega) ?_
    | refine And.intro (by first | omega | (simp; omega) | (show _ ∧ _; simp; done)) ?_
    | fail) <;> conv => whnf)
  all_goals
    refine ⟨.inl rfl, ?_⟩
    conv => whnf
    refine ⟨[], ⟨rfl, trivial⟩, ?_, rfl, rfl⟩
    conv => whnf
    left
    conv => lhs; whnf
    refine congrArg AV.bool ?_
    simp_all [edgeLess]

def RState (xs : List AV) (r : AV) (objs : List AObj) : Prop := ∃ x s, xs = [.int .i64 x, .int .i64 s] ∧ 0 ≤ s ∧ s ≤ 31 ∧ r = .bool (decide (0 ≤ x ∧ x ≤ s - 1)) ∧ objs = []
theorem RState_mk {x s : Int} (h1 : 0 ≤ s) (h2 : s ≤ 31) : RState [.int .i64 x, .int .i64 s] (.bool (decide (0 ≤ x ∧ x ≤ s - 1))) [] := ⟨x, s, rfl, h1, h2, rfl, rfl⟩

theorem s_spec_l4State : PureSound Try.prog 131 RState := by
  have hR : Rely Try.prog (ctxOf [(69, .pure RIn)]) := rely_cons b_spec_l1In.has s_spec_l1In (rely_nil mixed)
  refine pure_of_aw b_spec_l4State ?_
  rintro xs r objs ⟨x, s, rfl, h1, h2, rfl, rfl⟩ -
  refine ⟨by simp, vc2_sound hR _ _ _ _ _ ?_⟩
  conv => whnf
  repeat' ((first
    | contradiction
    | (refine And.intro (fun hb => ?_) (fun hb => ?_) <;> first | contradiction | ((try simp only [SB, reduceCtorEq] at hb); try (exfalso; first | contradiction | omega)))
    | refine And.intro rfl ?_
    | refine ⟨_, IntWalk.i64_in _ (by omega), ?_⟩
    | rw [ints_at (by omega)]
    | rw [ints_at0 (by omega)]
    | rw [ints_at' (by omega) (by omega)]
    | refine And.intro (lens_all rfl) ?_
    | refine And.intro (show _ ≤ _ ∧ (_ + 1) * _ ≤ _ ∧ _ + 1 ≤ _ by first | omega | (simp; omega)) ?_
    | refine And.intro (show 1 * _ ≤ _ ∧ 1 ≤ _ by omega) ?_
    | refine And.intro (by first | omega | (simp; omega) | (show _ ∧ _; simp; done)) ?_
    | refine ⟨_, _, RIn_mk, ?_⟩
    | fail) <;> conv => whnf)
  all_goals
    refine ⟨.inl rfl, ?_⟩
    conv => whnf
    refine ⟨[], ⟨rfl, trivial⟩, ?_, rfl, rfl⟩
    conv => whnf
    left
    conv => lhs; whnf
    try exact congrArg AV.bool (by simp_all)

def RSetOk (xs : List AV) (r : AV) (objs : List AObj) : Prop := ∃ s, xs = [.int .i64 s] ∧ r = .bool (decide (0 ≤ s ∧ s ≤ 2147483647)) ∧ objs = []
theorem RSetOk_mk {s : Int} : RSetOk [.int .i64 s] (.bool (decide (0 ≤ s ∧ s ≤ 2147483647))) [] := ⟨s, rfl, rfl, rfl⟩

theorem s_spec_SetOk : PureSound Try.prog 180 RSetOk := by
  have hR : Rely Try.prog (ctxOf [(69, .pure RIn)]) := rely_cons b_spec_l1In.has s_spec_l1In (rely_nil mixed)
  refine pure_of_aw b_spec_SetOk ?_
  rintro xs r objs ⟨s, rfl, rfl, rfl⟩ -
  refine ⟨by simp, vc2_sound hR _ _ _ _ _ ?_⟩
  conv => whnf
  repeat' ((first
    | contradiction
    | (refine And.intro (fun hb => ?_) (fun hb => ?_) <;> first | contradiction | ((try simp only [SB, reduceCtorEq] at hb); try (exfalso; first | contradiction | omega)))
    | refine And.intro rfl ?_
    | refine ⟨_, IntWalk.i64_in _ (by omega), ?_⟩
    | rw [ints_at (by omega)]
    | rw [ints_at0 (by omega)]
    | rw [ints_at' (by omega) (by omega)]
    | refine And.intro (lens_all rfl) ?_
    | refine And.intro (show _ ≤ _ ∧ (_ + 1) * _ ≤ _ ∧ _ + 1 ≤ _ by first | omega | (simp; omega)) ?_
    | refine And.intro (show 1 * _ ≤ _ ∧ 1 ≤ _ by omega) ?_
    | refine And.intro (by first | omega | (simp; omega) | (show _ ∧ _; simp; done)) ?_
    | refine ⟨_, _, RIn_mk, ?_⟩
    | fail) <;> conv => whnf)
  all_goals
    refine ⟨.inl rfl, ?_⟩
    conv => whnf
    refine ⟨[], ⟨rfl, trivial⟩, ?_, rfl, rfl⟩
    conv => whnf
    left
    conv => lhs; whnf
    try exact congrArg AV.bool (by simp_all)

/-- is a set within the states from 0 on -/
def RSetIn (xs : List AV) (r : AV) (objs : List AObj) : Prop := ∃ t s, xs = [.int .i64 t, .int .i64 (2 ^ Int.toNat s - 1)] ∧ 0 ≤ s ∧ s ≤ 31 ∧ r = .bool (decide (0 ≤ t ∧ t ≤ 2147483647 ∧ t < 2 ^ s.toNat)) ∧ objs = []
theorem RSetIn_mk {t s : Int} (h1 : 0 ≤ s) (h2 : s ≤ 31) : RSetIn [.int .i64 t, .int .i64 (2 ^ s.toNat - 1)] (.bool (decide (0 ≤ t ∧ t ≤ 2147483647 ∧ t < 2 ^ s.toNat))) [] := ⟨t, s, rfl, h1, h2, rfl, rfl⟩

theorem setIn_val {t s : Int} (h0 : 0 ≤ t) (h1 : t ≤ 2147483647) (hs : 0 ≤ s) (hs' : s ≤ 31) :
    (IntKind.i64.wrap (BitVec.ofInt IntKind.i64.bits t &&& BitVec.ofInt IntKind.i64.bits (2 ^ s.toNat - 1)).toNat = t) ↔ t < 2 ^ s.toNat := by
  rw [and_mask h0 h1 hs hs', mask_same h0]

theorem s_spec_SetIn : PureSound Try.prog 130 RSetIn := by
  have hR : Rely Try.prog (ctxOf [(180, .pure RSetOk)]) := rely_cons b_spec_SetOk.has s_spec_SetOk (rely_nil mixed)
  refine pure_of_aw b_spec_SetIn ?_
  rintro xs r objs ⟨t, s, rfl, h1, h2, rfl, rfl⟩ -
  have p1 := two_pow_31 (n := s.toNat) (by omega)
  have p2 := two_pow_pos s.toNat
  refine ⟨by simp, vc2_sound hR _ _ _ _ _ ?_⟩
  conv => whnf
  repeat' ((first
    | contradiction
    | (refine And.intro (fun hb => ?_) (fun hb => ?_) <;> first | contradiction | ((try simp only [SB, reduceCtorEq] at hb); try (exfalso; first | contradiction | omega)))
    | refine And.intro rfl ?_
    | refine ⟨_, IntWalk.i64_in _ (by omega), ?_⟩
    | rw [ints_at (by omega)]
    | rw [ints_at0 (by omega)]
    | rw [ints_at' (by omega) (by omega)]
    | refine And.intro (lens_all rfl) ?_
    | refine And.intro (show _ ≤ _ ∧ (_ + 1) * _ ≤ _ ∧ _ + 1 ≤ _ by first | omega | (simp; omega)) ?_
    | refine And.intro (show 1 * _ ≤ _ ∧ 1 ≤ _ by omega) ?_
    | refine And.intro (by first | omega | (simp; omega) | (show _ ∧ _; simp; done)) ?_
    | refine ⟨_, _, RSetOk_mk, ?_⟩
    | fail) <;> conv => whnf)
  all_goals
    refine ⟨.inl rfl, ?_⟩
    conv => whnf
    refine ⟨[], ⟨rfl, trivial⟩, ?_, rfl, rfl⟩
    conv => whnf
    left
    conv => lhs; whnf
    refine congrArg AV.bool ?_
    first
    | exact (decide_eq_false (by omega)).symm
    | (have hv := setIn_val (t := t) (by omega) (by omega) h1 h2
       rw [eq_comm]
       first
       | (rw [decide_eq_true_iff]
          have := hv.1 (by assumption)
          omega)
       | (rw [decide_eq_false_iff_not]
          intro h
          exact absurd (hv.2 h.2.2) (by assumption)))

theorem row_at {α : Type} [Inhabited α] {f : α → List AV} {l : List α} {i : Nat} (h : i < l.length) : (l.map f)[((i : Nat) : Int).toNat]? = some (f (l.getD i default)) := map_at h
theorem row_prev {α : Type} [Inhabited α] {f : α → List AV} {l : List α} {i : Nat} (h : i ≤ l.length) (h0 : 0 < i) : (l.map f)[(((i : Nat) : Int) - 1).toNat]? = some (f (l.getD (i - 1) default)) := by
  have e : (((i : Nat) : Int) - 1).toNat = (((i - 1 : Nat) : Nat) : Int).toNat := by omega
  rw [e]; exact map_at (by omega)
theorem edge_at {l : List EdgeD} {i : Nat} (h : i < l.length) : (edgeRows l)[((i : Nat) : Int).toNat]? = some (edgeRow (l.getD i default)) := row_at h
theorem edge_prev {l : List EdgeD} {i : Nat} (h : i ≤ l.length) (h0 : 0 < i) : (edgeRows l)[(((i : Nat) : Int) - 1).toNat]? = some (edgeRow (l.getD (i - 1) default)) := row_prev h h0
theorem named_at {l : List NamedD} {i : Nat} (h : i < l.length) : (namedRows l)[((i : Nat) : Int).toNat]? = some (namedRow (l.getD i default)) := row_at h
theorem named_prev {l : List NamedD} {i : Nat} (h : i ≤ l.length) (h0 : 0 < i) : (namedRows l)[(((i : Nat) : Int) - 1).toNat]? = some (namedRow (l.getD (i - 1) default)) := row_prev h h0

theorem mask_in {s : Int} (h0 : 0 ≤ s) (h1 : s ≤ 31) : IntKind.i64.wrap (IntKind.i64.wrap (1 * 2 ^ (Nat.min s.toNat IntKind.i64.bits)) - 1) = 2 ^ s.toNat - 1 := by
  rw [shl_one h0 (by omega)]
  have p1 := two_pow_31 (n := s.toNat) (by omega)
  have p2 := two_pow_pos s.toNat
  exact IntWalk.i64_in _ (by omega)

def RAutoOk (xs : List AV) (r : AV) (objs : List AObj) : Prop := ∃ a, xs = [.agg (autoRow a)] ∧ r = .bool (decide (AutoOk a)) ∧ objs = []
theorem RAutoOk_mk {a : AutoD} : RAutoOk [.agg (autoRow a)] (.bool (decide (AutoOk a))) [] := ⟨a, rfl, rfl, rfl⟩

theorem s_spec_AutoOk : PureSound Try.prog 70 RAutoOk := by
  have hR : Rely Try.prog (ctxOf [(69, .pure RIn), (130, .pure RSetIn), (131, .pure RState), (132, .pure RLess)]) :=
    rely_cons b_spec_l1In.has s_spec_l1In (rely_cons b_spec_SetIn.has s_spec_SetIn (rely_cons b_spec_l4State.has s_spec_l4State (rely_cons b_spec_l4Less.has s_spec_l4Less (rely_nil mixed))))
  refine pure_of_aw b_spec_AutoOk ?_
  rintro xs r objs ⟨a, rfl, rfl, rfl⟩ ⟨w, own, vs, hrel⟩
  have hle := length_edgeRows a.edges
  clear hrel
  refine ⟨by simp, vc2_sound hR _ _ _ _ _ ?_⟩
  conv => whnf
  repeat' ((first
    | contradiction
    | (refine And.intro (fun hb => ?_) (fun hb => ?_) <;> first | contradiction | ((try simp only [SB, reduceCtorEq] at hb); try (exfalso; first | contradiction | omega)))
    | refine And.intro rfl ?_
    | refine ⟨_, IntWalk.i64_in _ (by omega), ?_⟩
    | rw [ints_at (by omega)]
    | rw [ints_at0 (by omega)]
    | rw [ints_at' (by omega) (by omega)]
    | refine And.intro (lens_all rfl) ?_
    | refine And.intro (show _ ≤ _ ∧ (_ + 1) * _ ≤ _ ∧ _ + 1 ≤ _ by first | omega | (simp; omega)) ?_
    | refine And.intro (show 1 * _ ≤ _ ∧ 1 ≤ _ by omega) ?_
    | refine And.intro (by first | omega | (simp; omega) | (show _ ∧ _; simp; done)) ?_
    | refine ⟨_, _, RIn_mk, ?_⟩
    | refine ⟨_, mask_in (by omega) (by omega), ?_⟩
    | refine ⟨_, _, RSetIn_mk (by omega) (by omega), ?_⟩
    | fail) <;> conv => whnf)
  rotate_left
  · refine Lp.intro (α := Nat) (fun i => i ≤ a.edges.length ∧ ∀ j, j < i → EdgeAt a j) (fun i => a.edges.length - i) (fun i => [(1, .ptr 0 0 0), (3, .int .i64 i)]) (fun _ => [some (.box (autoRow a))]) ?_ ?_
    · refine ⟨0, ⟨by omega, by omega⟩, [some 0], rfl, rfl, And.intro (And.intro (.inl rfl) (And.intro (.inl rfl) (And.intro (.inl rfl) (And.intro (.inl rfl) trivial)))) trivial, ?_⟩
      repeat' (first
        | exact trivial
        | refine ⟨?_, ?_⟩
        | fail)
      all_goals first
        | with_reducible rfl
        | (conv => whnf
           try left
           conv => lhs; whnf
           first
             | rfl
             | exact congrArg (AV.int .i64) (by omega)
             | skip)
    · rintro i ⟨hi, hall⟩
      refine vc2_sound hR _ _ _ _ _ ?_
      conv => whnf
      repeat' ((first
        | contradiction
        | (refine And.intro (fun hb => ?_) (fun hb => ?_) <;> first | contradiction | ((try simp only [SB, reduceCtorEq] at hb); try (exfalso; first | contradiction | omega)))
        | refine And.intro rfl ?_
        | refine ⟨_, IntWalk.i64_in _ (by omega), ?_⟩
        | rw [ints_at (by omega)]
        | rw [ints_at0 (by omega)]
        | rw [ints_at' (by omega) (by omega)]
        | refine And.intro (lens_all rfl) ?_
        | refine And.intro (show _ ≤ _ ∧ (_ + 1) * _ ≤ _ ∧ _ + 1 ≤ _ by first | omega | (simp; omega)) ?_
        | refine And.intro (show 1 * _ ≤ _ ∧ 1 ≤ _ by omega) ?_
        | refine And.intro (by first | omega | (simp; omega) | (show _ ∧ _; simp; done)) ?_
        | rw [edge_at (by omega)]
        | rw [edge_prev (by omega) (by omega)]
        | refine ⟨_, _, RState_mk (by omega) (by omega), ?_⟩
        | refine ⟨_, _, RIn_mk, ?_⟩
        | refine ⟨_, _, RLess_mk (x := a.edges.getD (i - 1) default) (y := a.edges.getD i default), ?_⟩
        | fail) <;> conv => whnf)
      · refine ⟨i + 1, ⟨by omega, fun j hj => ?_⟩, by omega, [some 0], rfl, rfl, ?_, ?_⟩
        · by_cases hji : j = i
          · subst hji; exact ⟨⟨by assumption, by assumption, by assumption⟩, fun _ => by assumption⟩
          · exact hall j (by omega)
        · repeat' (first | exact trivial | exact rfl | exact Or.inl rfl | refine And.intro ?_ ?_)
        · repeat' (first
            | exact trivial
            | refine ⟨?_, ?_⟩
            | fail)
          all_goals first
            | with_reducible rfl
            | (conv => whnf
               try left
               conv => lhs; whnf
               first
                 | rfl
                 | exact congrArg (AV.int .i64) (by omega)
                 | skip)
      · refine ⟨.inl rfl, ?_⟩
        conv => whnf
        refine ⟨[], ⟨rfl, trivial⟩, ?_, rfl, rfl⟩
        conv => whnf
        left
        conv => lhs; whnf
        refine congrArg AV.bool (decide_eq_false ?_).symm
        rintro ⟨_, _, g5⟩
        have := (g5 i (by omega)).2 (by omega)
        simp_all
      · refine ⟨i + 1, ⟨by omega, fun j hj => ?_⟩, by omega, [some 0], rfl, rfl, ?_, ?_⟩
        · by_cases hji : j = i
          · subst hji; exact ⟨⟨by assumption, by assumption, by assumption⟩, fun _ => by omega⟩
          · exact hall j (by omega)
        · repeat' (first | exact trivial | exact rfl | exact Or.inl rfl | refine And.intro ?_ ?_)
        · repeat' (first
            | exact trivial
            | refine ⟨?_, ?_⟩
            | fail)
          all_goals first
            | with_reducible rfl
            | (conv => whnf
               try left
               conv => lhs; whnf
               first
                 | rfl
                 | exact congrArg (AV.int .i64) (by omega)
                 | skip)
      · refine ⟨.inl rfl, ?_⟩
        conv => whnf
        refine ⟨[], ⟨rfl, trivial⟩, ?_, rfl, rfl⟩
        conv => whnf
        left
        conv => lhs; whnf
        refine congrArg AV.bool (decide_eq_false ?_).symm
        rintro ⟨_, _, g5⟩
        obtain ⟨⟨k1, k2, k3⟩, _⟩ := g5 i (by omega)
        contradiction
      · refine ⟨.inl rfl, ?_⟩
        conv => whnf
        refine ⟨[], ⟨rfl, trivial⟩, ?_, rfl, rfl⟩
        conv => whnf
        left
        conv => lhs; whnf
        refine congrArg AV.bool (decide_eq_false ?_).symm
        rintro ⟨_, _, g5⟩
        obtain ⟨⟨k1, k2, k3⟩, _⟩ := g5 i (by omega)
        contradiction
      · refine ⟨.inl rfl, ?_⟩
        conv => whnf
        refine ⟨[], ⟨rfl, trivial⟩, ?_, rfl, rfl⟩
        conv => whnf
        left
        conv => lhs; whnf
        refine congrArg AV.bool (decide_eq_false ?_).symm
        rintro ⟨_, _, g5⟩
        obtain ⟨⟨k1, k2, k3⟩, _⟩ := g5 i (by omega)
        contradiction
      · refine ⟨.inl rfl, ?_⟩
        conv => whnf
        refine ⟨[], ⟨rfl, trivial⟩, ?_, rfl, rfl⟩
        conv => whnf
        left
        conv => lhs; whnf
        refine congrArg AV.bool (decide_eq_true ?_).symm
        exact ⟨⟨by assumption, by assumption, by assumption⟩, by omega, fun j hj => hall j (by omega)⟩
  all_goals
    refine ⟨.inl rfl, ?_⟩
    conv => whnf
    refine ⟨[], ⟨rfl, trivial⟩, ?_, rfl, rfl⟩
    conv => whnf
    left
    conv => lhs; whnf
    refine congrArg AV.bool (decide_eq_false ?_).symm
    rintro ⟨⟨g1, g2, g3⟩, g4, g5⟩
    omega

def RShelfOk (xs : List AV) (r : AV) (objs : List AObj) : Prop := ∃ l, xs = [.val (namedRows l)] ∧ r = .bool (decide (ShelfOk l)) ∧ objs = []
theorem RShelfOk_mk {l : List NamedD} : RShelfOk [.val (namedRows l)] (.bool (decide (ShelfOk l))) [] := ⟨l, rfl, rfl, rfl⟩

theorem s_spec_ShelfOk : PureSound Try.prog 19 RShelfOk := by
  have hR : Rely Try.prog (ctxOf [(69, .pure RIn), (70, .pure RAutoOk)]) :=
    rely_cons b_spec_l1In.has s_spec_l1In (rely_cons b_spec_AutoOk.has s_spec_AutoOk (rely_nil mixed))
  refine pure_of_aw b_spec_ShelfOk ?_
  rintro xs r objs ⟨l, rfl, rfl, rfl⟩ -
  have hle := length_namedRows l
  refine ⟨by simp, vc2_sound hR _ _ _ _ _ ?_⟩
  conv => whnf
  repeat' ((first
    | contradiction
    | (refine And.intro (fun hb => ?_) (fun hb => ?_) <;> first | contradiction | ((try simp only [SB, reduceCtorEq] at hb); try (exfalso; first | contradiction | omega)))
    | refine And.intro rfl ?_
    | refine ⟨_, IntWalk.i64_in _ (by omega), ?_⟩
    | rw [ints_at (by omega)]
    | rw [ints_at0 (by omega)]
    | rw [ints_at' (by omega) (by omega)]
    | refine And.intro (lens_all rfl) ?_
    | refine And.intro (show _ ≤ _ ∧ (_ + 1) * _ ≤ _ ∧ _ + 1 ≤ _ by first | omega | (simp; omega)) ?_
    | refine And.intro (show 1 * _ ≤ _ ∧ 1 ≤ _ by omega) ?_
    | refine And.intro (by first | omega | (simp; omega) | (show _ ∧ _; simp; done)) ?_
    | fail) <;> conv => whnf)
  · refine ⟨.inl rfl, ?_⟩
    conv => whnf
    refine ⟨[], ⟨rfl, trivial⟩, ?_, rfl, rfl⟩
    conv => whnf
    left
    conv => lhs; whnf
    refine congrArg AV.bool (decide_eq_false ?_).symm
    rintro ⟨g1, g2⟩
    omega
  · refine Lp.intro (α := Nat) (fun i => i ≤ l.length ∧ ∀ j, j < i → NamedAt l j) (fun i => l.length - i) (fun i => [(0, .val (namedRows l)), (3, .int .i64 i)]) (fun _ => []) ?_ ?_
    · refine ⟨0, ⟨by omega, by omega⟩, [], rfl, rfl, trivial, ?_⟩
      repeat' (first
        | exact trivial
        | refine ⟨?_, ?_⟩
        | fail)
      all_goals first
        | with_reducible rfl
        | (conv => whnf
           try left
           conv => lhs; whnf
           first
             | rfl
             | exact congrArg (AV.int .i64) (by omega)
             | skip)
    · rintro i ⟨hi, hall⟩
      refine vc2_sound hR _ _ _ _ _ ?_
      conv => whnf
      repeat' ((first
        | contradiction
        | (refine And.intro (fun hb => ?_) (fun hb => ?_) <;> first | contradiction | ((try simp only [SB, reduceCtorEq] at hb); try (exfalso; first | contradiction | omega)))
        | refine And.intro rfl ?_
        | refine ⟨_, IntWalk.i64_in _ (by omega), ?_⟩
        | rw [ints_at (by omega)]
        | rw [ints_at0 (by omega)]
        | rw [ints_at' (by omega) (by omega)]
        | refine And.intro (lens_all rfl) ?_
        | refine And.intro (show _ ≤ _ ∧ (_ + 1) * _ ≤ _ ∧ _ + 1 ≤ _ by first | omega | (simp; omega)) ?_
        | refine And.intro (show 1 * _ ≤ _ ∧ 1 ≤ _ by omega) ?_
        | refine And.intro (by first | omega | (simp; omega) | (show _ ∧ _; simp; done)) ?_
        | rw [named_at (by omega)]
        | rw [named_prev (by omega) (by omega)]
        | refine ⟨_, _, RIn_mk, ?_⟩
        | refine ⟨_, _, RAutoOk_mk (a := (l.getD i default).auto), ?_⟩
        | fail) <;> conv => whnf)
      · refine ⟨.inl rfl, ?_⟩
        conv => whnf
        refine ⟨[], ⟨rfl, trivial⟩, ?_, rfl, rfl⟩
        conv => whnf
        left
        conv => lhs; whnf
        refine congrArg AV.bool (decide_eq_false ?_).symm
        rintro ⟨_, g5⟩
        obtain ⟨k1, k2, k3⟩ := g5 i (by omega)
        have := k3 (by omega)
        omega
      · refine ⟨i + 1, ⟨by omega, fun j hj => ?_⟩, by omega, [], rfl, rfl, ?_, ?_⟩
        · by_cases hji : j = i
          · subst hji; exact ⟨by assumption, by assumption, fun _ => by assumption⟩
          · exact hall j (by omega)
        · repeat' (first | exact trivial | exact rfl | exact Or.inl rfl | refine And.intro ?_ ?_)
        · repeat' (first
            | exact trivial
            | refine ⟨?_, ?_⟩
            | fail)
          all_goals first
            | with_reducible rfl
            | (conv => whnf
               try left
               conv => lhs; whnf
               first
                 | rfl
                 | exact congrArg (AV.int .i64) (by omega)
                 | skip)
      · refine ⟨i + 1, ⟨by omega, fun j hj => ?_⟩, by omega, [], rfl, rfl, ?_, ?_⟩
        · by_cases hji : j = i
          · subst hji; exact ⟨by assumption, by assumption, fun _ => by omega⟩
          · exact hall j (by omega)
        · repeat' (first | exact trivial | exact rfl | exact Or.inl rfl | refine And.intro ?_ ?_)
        · repeat' (first
            | exact trivial
            | refine ⟨?_, ?_⟩
            | fail)
          all_goals first
            | with_reducible rfl
            | (conv => whnf
               try left
               conv => lhs; whnf
               first
                 | rfl
                 | exact congrArg (AV.int .i64) (by omega)
                 | skip)
      · refine ⟨.inl rfl, ?_⟩
        conv => whnf
        refine ⟨[], ⟨rfl, trivial⟩, ?_, rfl, rfl⟩
        conv => whnf
        left
        conv => lhs; whnf
        refine congrArg AV.bool (decide_eq_false ?_).symm
        rintro ⟨_, g5⟩
        obtain ⟨k1, k2, k3⟩ := g5 i (by omega)
        contradiction
      · refine ⟨.inl rfl, ?_⟩
        conv => whnf
        refine ⟨[], ⟨rfl, trivial⟩, ?_, rfl, rfl⟩
        conv => whnf
        left
        conv => lhs; whnf
        refine congrArg AV.bool (decide_eq_false ?_).symm
        rintro ⟨_, g5⟩
        obtain ⟨k1, k2, k3⟩ := g5 i (by omega)
        contradiction
      · refine ⟨.inl rfl, ?_⟩
        conv => whnf
        refine ⟨[], ⟨rfl, trivial⟩, ?_, rfl, rfl⟩
        conv => whnf
        left
        conv => lhs; whnf
        refine congrArg AV.bool (decide_eq_true ?_).symm
        exact ⟨by omega, fun j hj => hall j (by omega)⟩

end Go.Proofs.Ytpfbkblgefddlaa.Ct
