/- Automata that are right: the program's tests. -/
import Derived.Test.YtpfbkblgefddlaaCtShelf1
namespace Go.Proofs.Ytpfbkblgefddlaa.Ct
set_option linter.unusedSimpArgs false
set_option linter.unusedVariables false
open Go Go.Proofs Go.Proofs.Ytpfbkblgefddlaa.Av

def c_impl_SetOk : ICode := (.seq (.reg [⟨(some 2), .mv, [(.c (.bool false))], none⟩]) (.seq (.reg [⟨(some 3), .mv, [(.t 0)], none⟩, ⟨(some 4), (.call 72), [(.t 3), (.c (.int .i64 0)), (.c (.int .i64 2147483647))], none⟩, ⟨(some 2), .mv, [(.t 4)], none⟩]) .ret))
theorem b_impl_SetOk : Body Try.prog 179 5 c_impl_SetOk [(.t 2)] := body_mk Try.func179 (by kernel_rfl) (by decide)

def c_impl_only : ICode := (.seq (.reg [⟨(some 2), .mv, [(.c (.int .i64 0))], none⟩]) (.seq (.reg [⟨(some 3), .mv, [(.t 0)], none⟩, ⟨(some 4), (.cvt .u64), [(.t 3)], none⟩, ⟨(some 5), (.bin .shl), [(.c (.int .i64 1)), (.t 4)], none⟩, ⟨(some 2), .mv, [(.t 5)], none⟩]) .ret))
theorem b_impl_only : Body Try.prog 119 6 c_impl_only [(.t 2)] := body_mk Try.func119 (by kernel_rfl) (by decide)

def c_impl_headOk : ICode := (.seq (.reg [⟨(some 6), .mv, [(.c (.bool false))], none⟩]) (.seq (.reg [⟨(some 7), .mv, [(.t 0)], none⟩, ⟨(some 8), (.call 173), [(.t 7)], none⟩, ⟨(some 9), .mv, [(.t 8)], none⟩, ⟨(some 10), .mv, [(.t 1)], (some (9, true))⟩, ⟨(some 11), (.call 72), [(.t 10), (.c (.int .i64 0)), (.c (.int .i64 31))], (some (9, true))⟩, ⟨(some 12), .pick, [(.t 9), (.t 11), (.c (.bool false))], none⟩, ⟨(some 13), .mv, [(.t 12)], none⟩, ⟨(some 14), .mv, [(.t 2)], (some (13, true))⟩, ⟨(some 15), (.call 179), [(.t 14)], (some (13, true))⟩, ⟨(some 16), .pick, [(.t 13), (.t 15), (.c (.bool false))], none⟩, ⟨(some 17), .mv, [(.t 16)], none⟩, ⟨(some 18), .mv, [(.t 2)], (some (17, true))⟩, ⟨(some 19), .mv, [(.t 1)], (some (17, true))⟩, ⟨(some 20), (.call 119), [(.t 19)], (some (17, true))⟩, ⟨(some 21), (.bin .lss), [(.t 18), (.t 20)], (some (17, true))⟩, ⟨(some 22), .pick, [(.t 17), (.t 21), (.c (.bool false))], none⟩, ⟨(some 6), .mv, [(.t 22)], none⟩]) .ret))
theorem b_impl_headOk : Body Try.prog 133 23 c_impl_headOk [(.t 6)] := body_mk Try.func133 (by kernel_rfl) (by decide)

def c_cmp_isNaN_int : ICode := (.seq (.reg [⟨(some 2), .mv, [(.c (.bool false))], none⟩]) (.seq (.reg [⟨(some 3), .mv, [(.t 0)], none⟩, ⟨(some 4), .mv, [(.t 0)], none⟩, ⟨(some 5), (.bin .neq), [(.t 3), (.t 4)], none⟩, ⟨(some 2), .mv, [(.t 5)], none⟩]) .ret))
theorem b_cmp_isNaN_int : Body Try.prog 193 6 c_cmp_isNaN_int [(.t 2)] := body_mk Try.func193 (by kernel_rfl) (by decide)

def c_cmp_Compare_int : ICode := (.seq (.reg [⟨(some 4), .mv, [(.c (.int .i64 0))], none⟩]) (.seq (.reg [⟨(some 7), .mv, [(.t 0)], none⟩, ⟨(some 8), (.call 193), [(.t 7)], none⟩, ⟨(some 5), .mv, [(.t 8)], none⟩]) (.seq (.reg [⟨(some 9), .mv, [(.t 1)], none⟩, ⟨(some 10), (.call 193), [(.t 9)], none⟩, ⟨(some 6), .mv, [(.t 10)], none⟩]) (.seq (.seq (.reg [⟨(some 11), .mv, [(.t 5)], none⟩]) (.cond (.t 11) (.seq (.seq (.reg [⟨(some 12), .mv, [(.t 6)], none⟩]) (.cond (.t 12) (.seq (.reg [⟨(some 4), .mv, [(.c (.int .i64 0))], none⟩]) .ret) .skip)) (.seq (.reg [⟨(some 4), .mv, [(.c (.int .i64 (-1)))], none⟩]) .ret)) .skip)) (.seq (.seq (.reg [⟨(some 13), .mv, [(.t 6)], none⟩]) (.cond (.t 13) (.seq (.reg [⟨(some 4), .mv, [(.c (.int .i64 1))], none⟩]) .ret) .skip)) (.seq (.seq (.reg [⟨(some 14), .mv, [(.t 0)], none⟩, ⟨(some 15), .mv, [(.t 1)], none⟩, ⟨(some 16), (.bin .lss), [(.t 14), (.t 15)], none⟩]) (.cond (.t 16) (.seq (.reg [⟨(some 4), .mv, [(.c (.int .i64 (-1)))], none⟩]) .ret) .skip)) (.seq (.seq (.reg [⟨(some 17), .mv, [(.t 0)], none⟩, ⟨(some 18), .mv, [(.t 1)], none⟩, ⟨(some 19), (.bin .gtr), [(.t 17), (.t 18)], none⟩]) (.cond (.t 19) (.seq (.reg [⟨(some 4), .mv, [(.c (.int .i64 1))], none⟩]) .ret) .skip)) (.seq (.reg [⟨(some 4), .mv, [(.c (.int .i64 0))], none⟩]) .ret))))))))
theorem b_cmp_Compare_int : Body Try.prog 182 20 c_cmp_Compare_int [(.t 4)] := body_mk Try.func182 (by kernel_rfl) (by decide)

def c_cmp_Or_int : ICode := (.seq (.reg [⟨(some 2), .mv, [(.c (.int .i64 0))], none⟩]) (.seq (.reg [⟨(some 3), .mv, [(.c (.int .i64 0))], none⟩]) (.seq (.seq (.reg [⟨(some 6), .mv, [(.t 0)], none⟩, ⟨(some 7), .len, [(.t 6)], none⟩, ⟨(some 8), .mv, [(.c (.int .i64 0))], none⟩]) (.block 0 (.loop (.seq (.reg [⟨(some 9), (.bin .lss), [(.t 8), (.t 7)], none⟩]) (.seq (.cond (.t 9) .skip (.exit 0)) (.seq (.block 1 (.seq (.reg [⟨(some 10), (.iadr 1), [(.t 6), (.t 8)], none⟩, ⟨(some 11), .ld1, [(.t 10)], none⟩, ⟨(some 5), .mv, [(.t 11)], none⟩]) (.seq (.reg [⟨(some 12), .mv, [(.t 5)], none⟩, ⟨(some 13), .mv, [(.t 3)], none⟩, ⟨(some 14), (.bin .neq), [(.t 12), (.t 13)], none⟩]) (.cond (.t 14) (.seq (.reg [⟨(some 15), .mv, [(.t 5)], none⟩, ⟨(some 2), .mv, [(.t 15)], none⟩]) .ret) .skip)))) (.reg [⟨(some 16), (.bin .add), [(.t 8), (.c (.int .i64 1))], none⟩, ⟨(some 8), .mv, [(.t 16)], none⟩]))))))) (.seq (.reg [⟨(some 17), .mv, [(.t 3)], none⟩, ⟨(some 2), .mv, [(.t 17)], none⟩]) .ret))))
theorem b_cmp_Or_int : Body Try.prog 181 18 c_cmp_Or_int [(.t 2)] := body_mk Try.func181 (by kernel_rfl) (by decide)

def c_impl_compareEdges : ICode := (.seq (.reg [⟨(some 2), (.box 4), [(.t 0)], none⟩, ⟨(some 3), (.box 4), [(.t 1)], none⟩, ⟨(some 4), .mv, [(.c (.int .i64 0))], none⟩]) (.seq (.drw [⟨(some 5), (.fadr 0), [(.t 2)], none⟩, ⟨(some 6), .ld1, [(.t 5)], none⟩, ⟨(some 7), (.fadr 0), [(.t 3)], none⟩, ⟨(some 8), .ld1, [(.t 7)], none⟩, ⟨(some 9), (.call 182), [(.t 6), (.t 8)], none⟩, ⟨(some 10), (.fadr 1), [(.t 2)], none⟩, ⟨(some 11), .ld1, [(.t 10)], none⟩, ⟨(some 12), (.fadr 1), [(.t 3)], none⟩, ⟨(some 13), .ld1, [(.t 12)], none⟩, ⟨(some 14), (.call 182), [(.t 11), (.t 13)], none⟩, ⟨(some 15), (.fadr 2), [(.t 2)], none⟩, ⟨(some 16), .ld1, [(.t 15)], none⟩, ⟨(some 17), (.fadr 2), [(.t 3)], none⟩, ⟨(some 18), .ld1, [(.t 17)], none⟩, ⟨(some 19), (.call 182), [(.t 16), (.t 18)], none⟩, ⟨(some 20), (.bsl 1), [(.t 9), (.t 14), (.t 19)], none⟩, ⟨(some 21), (.call 181), [(.t 20)], none⟩, ⟨(some 4), .mv, [(.t 21)], none⟩] [[], [0], [], [2], [0, 1, 2, 3], [], [5], [], [7], [0, 1, 2, 3, 4, 5, 6, 7, 8], [], [10], [], [12], [0, 1, 2, 3, 4, 5, 6, 7, 8, 9, 10, 11, 12, 13], [0, 1, 2, 3, 4, 5, 6, 7, 8, 9, 10, 11, 12, 13, 14], [0, 1, 2, 3, 4, 5, 6, 7, 8, 9, 10, 11, 12, 13, 14, 15], [0, 1, 2, 3, 4, 5, 6, 7, 8, 9, 10, 11, 12, 13, 14, 15, 16]] true true) .ret))
theorem b_impl_compareEdges : Body Try.prog 134 22 c_impl_compareEdges [(.t 4)] := body_mk Try.func134 (by kernel_rfl) (by decide)

def c_impl_AutoOk : ICode := (.seq (.reg [⟨(some 1), (.box 4), [(.t 0)], none⟩, ⟨(some 2), .mv, [(.c (.bool false))], none⟩]) (.seq (.seq (.reg [⟨(some 5), (.fadr 0), [(.t 1)], none⟩, ⟨(some 6), .ld1, [(.t 5)], none⟩, ⟨(some 7), (.fadr 1), [(.t 1)], none⟩, ⟨(some 8), .ld1, [(.t 7)], none⟩, ⟨(some 9), (.fadr 2), [(.t 1)], none⟩, ⟨(some 10), .ld1, [(.t 9)], none⟩, ⟨(some 11), (.call 133), [(.t 6), (.t 8), (.t 10)], none⟩, ⟨(some 12), .not, [(.t 11)], none⟩, ⟨(some 13), .mv, [(.t 12)], none⟩, ⟨(some 14), (.fadr 3), [(.t 1)], (some (13, false))⟩, ⟨(some 15), .ld1, [(.t 14)], (some (13, false))⟩, ⟨(some 16), .len, [(.t 15)], (some (13, false))⟩, ⟨(some 17), (.bin .gtr), [(.t 16), (.c (.int .i64 2000))], (some (13, false))⟩, ⟨(some 18), .pick, [(.t 13), (.c (.bool true)), (.t 17)], none⟩]) (.cond (.t 18) (.seq (.reg [⟨(some 2), .mv, [(.c (.bool false))], none⟩]) .ret) .skip)) (.seq (.seq (.reg [⟨(some 19), (.fadr 3), [(.t 1)], none⟩, ⟨(some 20), .ld1, [(.t 19)], none⟩, ⟨(some 21), .len, [(.t 20)], none⟩, ⟨(some 22), .mv, [(.c (.int .i64 0))], none⟩]) (.block 0 (.loop (.seq (.reg [⟨(some 23), (.bin .lss), [(.t 22), (.t 21)], none⟩]) (.seq (.cond (.t 23) .skip (.exit 0)) (.seq (.block 1 (.seq (.reg [⟨(some 24), .mv, [(.t 22)], none⟩, ⟨(some 25), (.iadr 4), [(.t 20), (.t 22)], none⟩, ⟨(some 26), (.ldn 4), [(.t 25)], none⟩, ⟨(some 4), (.alc [(.int .i64 0), (.int .i64 0), (.int .i64 0), (.bool false)]), [], none⟩, ⟨(some 3), .mv, [(.t 24)], none⟩, ⟨none, (.st 4), [(.t 4), (.t 26)], none⟩]) (.seq (.seq (.reg [⟨(some 27), (.fadr 0), [(.t 4)], none⟩, ⟨(some 28), .ld1, [(.t 27)], none⟩, ⟨(some 29), (.fadr 1), [(.t 1)], none⟩, ⟨(some 30), .ld1, [(.t 29)], none⟩, ⟨(some 31), (.bin .sub), [(.t 30), (.c (.int .i64 1))], none⟩, ⟨(some 32), (.call 72), [(.t 28), (.c (.int .i64 0)), (.t 31)], none⟩, ⟨(some 33), .not, [(.t 32)], none⟩, ⟨(some 34), .mv, [(.t 33)], none⟩, ⟨(some 35), (.fadr 2), [(.t 4)], (some (34, false))⟩, ⟨(some 36), .ld1, [(.t 35)], (some (34, false))⟩, ⟨(some 37), (.fadr 1), [(.t 1)], (some (34, false))⟩, ⟨(some 38), .ld1, [(.t 37)], (some (34, false))⟩, ⟨(some 39), (.bin .sub), [(.t 38), (.c (.int .i64 1))], (some (34, false))⟩, ⟨(some 40), (.call 72), [(.t 36), (.c (.int .i64 0)), (.t 39)], (some (34, false))⟩, ⟨(some 41), .not, [(.t 40)], (some (34, false))⟩, ⟨(some 42), .pick, [(.t 34), (.c (.bool true)), (.t 41)], none⟩, ⟨(some 43), .mv, [(.t 42)], none⟩, ⟨(some 44), (.fadr 1), [(.t 4)], (some (43, false))⟩, ⟨(some 45), .ld1, [(.t 44)], (some (43, false))⟩, ⟨(some 46), (.fadr 0), [(.t 1)], (some (43, false))⟩, ⟨(some 47), .ld1, [(.t 46)], (some (43, false))⟩, ⟨(some 48), (.bin .sub), [(.t 47), (.c (.int .i64 1))], (some (43, false))⟩, ⟨(some 49), (.call 72), [(.t 45), (.c (.int .i64 0)), (.t 48)], (some (43, false))⟩, ⟨(some 50), .not, [(.t 49)], (some (43, false))⟩, ⟨(some 51), .pick, [(.t 43), (.c (.bool true)), (.t 50)], none⟩]) (.cond (.t 51) (.seq (.reg [⟨(some 2), .mv, [(.c (.bool false))], none⟩]) .ret) .skip)) (.seq (.drw [⟨(some 52), .mv, [(.t 3)], none⟩, ⟨(some 53), (.bin .gtr), [(.t 52), (.c (.int .i64 0))], none⟩, ⟨(some 54), .mv, [(.t 53)], none⟩, ⟨(some 55), (.fadr 3), [(.t 1)], (some (54, true))⟩, ⟨(some 56), .ld1, [(.t 55)], (some (54, true))⟩, ⟨(some 57), .mv, [(.t 3)], (some (54, true))⟩, ⟨(some 58), (.bin .sub), [(.t 57), (.c (.int .i64 1))], (some (54, true))⟩, ⟨(some 59), (.iadr 4), [(.t 56), (.t 58)], (some (54, true))⟩, ⟨(some 60), (.ldn 4), [(.t 59)], (some (54, true))⟩, ⟨(some 61), (.ldn 4), [(.t 4)], (some (54, true))⟩, ⟨(some 62), (.call 134), [(.t 60), (.t 61)], (some (54, true))⟩, ⟨(some 63), (.bin .geq), [(.t 62), (.c (.int .i64 0))], (some (54, true))⟩, ⟨(some 64), .pick, [(.t 54), (.t 63), (.c (.bool false))], none⟩] [[], [0], [0, 1], [0, 1, 2], [0, 1, 2, 3], [0, 1, 2], [0, 1, 2, 5], [0, 1, 2, 3, 4, 5, 6], [0, 1, 2, 3, 4, 5, 6, 7], [0, 1, 2], [0, 1, 2, 3, 4, 5, 6, 7, 8, 9], [0, 1, 2, 3, 4, 5, 6, 7, 8, 9, 10], [0, 1, 2, 3, 4, 5, 6, 7, 8, 9, 10, 11]] true true) (.cond (.t 64) (.seq (.reg [⟨(some 2), .mv, [(.c (.bool false))], none⟩]) .ret) .skip))))) (.reg [⟨(some 65), (.bin .add), [(.t 22), (.c (.int .i64 1))], none⟩, ⟨(some 22), .mv, [(.t 65)], none⟩]))))))) (.seq (.reg [⟨(some 2), .mv, [(.c (.bool true))], none⟩]) .ret))))
theorem b_impl_AutoOk : Body Try.prog 73 66 c_impl_AutoOk [(.t 2)] := body_mk Try.func73 (by kernel_rfl) (by decide)

def c_impl_ShelfOk : ICode := (.seq (.reg [⟨(some 2), .mv, [(.c (.bool false))], none⟩]) (.seq (.seq (.reg [⟨(some 5), .mv, [(.t 0)], none⟩, ⟨(some 6), .len, [(.t 5)], none⟩, ⟨(some 7), .mv, [(.c (.int .i64 0))], none⟩]) (.block 0 (.loop (.seq (.reg [⟨(some 8), (.bin .lss), [(.t 7), (.t 6)], none⟩]) (.seq (.cond (.t 8) .skip (.exit 0)) (.seq (.block 1 (.seq (.reg [⟨(some 9), .mv, [(.t 7)], none⟩, ⟨(some 10), (.iadr 5), [(.t 5), (.t 7)], none⟩, ⟨(some 11), (.ldn 5), [(.t 10)], none⟩, ⟨(some 4), (.alc [(.int .i64 0), (.int .i64 0), (.int .i64 0), (.int .i64 0), .snil]), [], none⟩, ⟨(some 3), .mv, [(.t 9)], none⟩, ⟨none, (.st 5), [(.t 4), (.t 11)], none⟩]) (.seq (.drw [⟨(some 12), (.fadr 0), [(.t 4)], none⟩, ⟨(some 13), .ld1, [(.t 12)], none⟩, ⟨(some 14), (.call 72), [(.t 13), (.c (.int .i64 97)), (.c (.int .i64 122))], none⟩, ⟨(some 15), .not, [(.t 14)], none⟩, ⟨(some 16), .mv, [(.t 15)], none⟩, ⟨(some 17), .mv, [(.t 3)], (some (16, false))⟩, ⟨(some 18), (.bin .gtr), [(.t 17), (.c (.int .i64 0))], (some (16, false))⟩, ⟨(some 19), .mv, [(.t 18)], (some (16, false))⟩, ⟨(some 20), (.fadr 0), [(.t 4)], (some (19, true))⟩, ⟨(some 21), .ld1, [(.t 20)], (some (19, true))⟩, ⟨(some 22), .mv, [(.t 0)], (some (19, true))⟩, ⟨(some 23), .mv, [(.t 3)], (some (19, true))⟩, ⟨(some 24), (.bin .sub), [(.t 23), (.c (.int .i64 1))], (some (19, true))⟩, ⟨(some 25), (.iadr 5), [(.t 22), (.t 24)], (some (19, true))⟩, ⟨(some 26), (.fadr 0), [(.t 25)], (some (19, true))⟩, ⟨(some 27), .ld1, [(.t 26)], (some (19, true))⟩, ⟨(some 28), (.bin .leq), [(.t 21), (.t 27)], (some (19, true))⟩, ⟨(some 29), .pick, [(.t 19), (.t 28), (.c (.bool false))], (some (16, false))⟩, ⟨(some 30), .pick, [(.t 16), (.c (.bool true)), (.t 29)], none⟩, ⟨(some 31), .mv, [(.t 30)], none⟩, ⟨(some 32), (.fadr 1), [(.t 4)], (some (31, false))⟩, ⟨(some 33), (.ldn 4), [(.t 32)], (some (31, false))⟩, ⟨(some 34), (.call 73), [(.t 33)], (some (31, false))⟩, ⟨(some 35), .not, [(.t 34)], (some (31, false))⟩, ⟨(some 36), .pick, [(.t 31), (.c (.bool true)), (.t 35)], none⟩] [[], [0], [0, 1], [0, 1, 2], [0, 1, 2, 3], [0, 1, 2, 3, 4], [0, 1, 2, 3, 4, 5], [0, 1, 2, 3, 4, 5, 6], [0, 1, 2, 3, 4, 5, 6, 7], [0, 1, 2, 3, 4, 5, 6, 7, 8], [0, 1, 2, 3, 4, 5, 6, 7], [0, 1, 2, 3, 4, 5, 6, 7], [0, 1, 2, 3, 4, 5, 6, 7, 11], [0, 1, 2, 3, 4, 5, 6, 7, 10, 11, 12], [0, 1, 2, 3, 4, 5, 6, 7, 10, 11, 12, 13], [0, 1, 2, 3, 4, 5, 6, 7, 10, 11, 12, 13, 14], [0, 1, 2, 3, 4, 5, 6, 7, 8, 9, 10, 11, 12, 13, 14, 15], [0, 1, 2, 3, 4, 5, 6, 7, 8, 9, 10, 11, 12, 13, 14, 15, 16], [0, 1, 2, 3, 4, 5, 6, 7, 8, 9, 10, 11, 12, 13, 14, 15, 16, 17], [0, 1, 2, 3, 4, 5, 6, 7, 8, 9, 10, 11, 12, 13, 14, 15, 16, 17, 18], [0, 1, 2, 3, 4, 5, 6, 7, 8, 9, 10, 11, 12, 13, 14, 15, 16, 17, 18, 19], [0, 1, 2, 3, 4, 5, 6, 7, 8, 9, 10, 11, 12, 13, 14, 15, 16, 17, 18, 19, 20], [0, 1, 2, 3, 4, 5, 6, 7, 8, 9, 10, 11, 12, 13, 14, 15, 16, 17, 18, 19, 20, 21], [0, 1, 2, 3, 4, 5, 6, 7, 8, 9, 10, 11, 12, 13, 14, 15, 16, 17, 18, 19, 20, 21, 22], [0, 1, 2, 3, 4, 5, 6, 7, 8, 9, 10, 11, 12, 13, 14, 15, 16, 17, 18, 19, 20, 21, 22, 23]] true true) (.cond (.t 36) (.seq (.reg [⟨(some 2), .mv, [(.c (.bool false))], none⟩]) .ret) .skip)))) (.reg [⟨(some 37), (.bin .add), [(.t 7), (.c (.int .i64 1))], none⟩, ⟨(some 7), .mv, [(.t 37)], none⟩]))))))) (.seq (.reg [⟨(some 38), .mv, [(.t 0)], none⟩, ⟨(some 39), .len, [(.t 38)], none⟩, ⟨(some 40), (.bin .leq), [(.t 39), (.c (.int .i64 8))], none⟩, ⟨(some 2), .mv, [(.t 40)], none⟩]) .ret)))
theorem b_impl_ShelfOk : Body Try.prog 21 41 c_impl_ShelfOk [(.t 2)] := body_mk Try.func21 (by kernel_rfl) (by decide)


theorem s_impl_SetOk : PureSound Try.prog 179 RSetOk := by
  have hR : Rely Try.prog (ctxOf [(72, .pure RIn)]) := rely_cons b_impl_inRange.has s_impl_inRange (rely_nil mixed)
  refine pure_of_aw b_impl_SetOk ?_
  rintro xs r objs ⟨s, rfl, rfl, rfl⟩ -
  refine ⟨by simp, vc2_sound hR _ _ _ _ _ ?_⟩
  conv => whnf
  repeat' ((first
    | contradiction
    | (refine And.intro (fun hb => ?_) (fun hb => ?_) <;> first | contradiction | ((try simp only [SB, reduceCtorEq] at hb); try (exfalso; first | contradiction | omega)))
    | refine And.intro rfl ?_
    | refine ⟨_, IntWalk.i64_in _ (by omega), ?_⟩
    | rw [ints_at (by omega)]
    | rw [ints_at0 (by omega)]
    | rw [ints_at' (by omega) (by omega)]
    | refine And.intro (lens_all rfl) ?_
    | refine And.intro (show _ ≤ _ ∧ (_ + 1) * _ ≤ _ ∧ _ + 1 ≤ _ by first | omega | (simp; omega)) ?_
    | refine And.intro (show 1 * _ ≤ _ ∧ 1 ≤ _ by omega) ?_
    | refine And.intro (by first | omega | (simp; omega) | (show _ ∧ _; simp; done)) ?_
    | refine ⟨_, _, RIn_mk, ?_⟩
    | fail) <;> conv => whnf)
  all_goals
    refine ⟨.inl rfl, ?_⟩
    conv => whnf
    refine ⟨[], ⟨rfl, trivial⟩, ?_, rfl, rfl⟩
    conv => whnf
    left
    conv => lhs; whnf
    try exact congrArg AV.bool (by simp_all)

def ROnly (xs : List AV) (r : AV) (objs : List AObj) : Prop := ∃ i, xs = [.int .i64 i] ∧ 0 ≤ i ∧ i ≤ 62 ∧ r = .int .i64 (2 ^ i.toNat) ∧ objs = []
theorem ROnly_mk {i : Int} (h0 : 0 ≤ i) (h1 : i ≤ 62) : ROnly [.int .i64 i] (.int .i64 (2 ^ i.toNat)) [] := ⟨i, rfl, h0, h1, rfl, rfl⟩

theorem s_impl_only : PureSound Try.prog 119 ROnly := by
  have hR : Rely Try.prog (ctxOf []) := rely_nil mixed
  refine pure_of_aw b_impl_only ?_
  rintro xs r objs ⟨i, rfl, h0, h1, rfl, rfl⟩ -
  refine ⟨by simp, vc2_sound hR _ _ _ _ _ ?_⟩
  conv => whnf
  repeat' ((first
    | contradiction
    | (refine And.intro (fun hb => ?_) (fun hb => ?_) <;> first | contradiction | ((try simp only [SB, reduceCtorEq] at hb); try (exfalso; first | contradiction | omega)))
    | refine And.intro rfl ?_
    | refine ⟨_, IntWalk.i64_in _ (by omega), ?_⟩
    | rw [ints_at (by omega)]
    | rw [ints_at0 (by omega)]
    | rw [ints_at' (by omega) (by omega)]
    | refine And.intro (lens_all rfl) ?_
    | refine And.intro (show _ ≤ _ ∧ (_ + 1) * _ ≤ _ ∧ _ + 1 ≤ _ by first | omega | (simp; omega)) ?_
    | refine And.intro (show 1 * _ ≤ _ ∧ 1 ≤ _ by omega) ?_
    | refine And.intro (by first | omega | (simp; omega) | (show _ ∧ _; simp; done)) ?_
    | refine ⟨_, IntWalk.u64_in _ (by omega), ?_⟩
    | fail) <;> conv => whnf)
  refine ⟨.inl rfl, ?_⟩
  conv => whnf
  refine ⟨[], ⟨rfl, trivial⟩, ?_, rfl, rfl⟩
  conv => whnf
  left
  conv => lhs; whnf
  exact congrArg (AV.int .i64) (shl_one h0 h1)

def RHeadOk (xs : List AV) (r : AV) (objs : List AObj) : Prop := ∃ l s t, xs = [.int .i64 l, .int .i64 s, .int .i64 t] ∧ r = .bool (decide (HeadOk l s t)) ∧ objs = []
theorem RHeadOk_mk {l s t : Int} : RHeadOk [.int .i64 l, .int .i64 s, .int .i64 t] (.bool (decide (HeadOk l s t))) [] := ⟨l, s, t, rfl, rfl, rfl⟩

theorem s_impl_headOk : PureSound Try.prog 133 RHeadOk := by
  have hR : Rely Try.prog (ctxOf [(173, .pure RIsLetters), (72, .pure RIn), (179, .pure RSetOk), (119, .pure ROnly)]) :=
    rely_cons b_impl_isLetters.has s_impl_isLetters (rely_cons b_impl_inRange.has s_impl_inRange (rely_cons b_impl_SetOk.has s_impl_SetOk (rely_cons b_impl_only.has s_impl_only (rely_nil mixed))))
  refine pure_of_aw b_impl_headOk ?_
  rintro xs r objs ⟨l, s, t, rfl, rfl, rfl⟩ -
  refine ⟨by simp, vc2_sound hR _ _ _ _ _ ?_⟩
  conv => whnf
  repeat' ((first
    | contradiction
    | (refine And.intro (fun hb => ?_) (fun hb => ?_) <;> first | contradiction | ((try simp only [SB, reduceCtorEq] at hb); try (exfalso; first | contradiction | omega)))
    | refine And.intro rfl ?_
    | refine ⟨_, IntWalk.i64_in _ (by omega), ?_⟩
    | rw [ints_at (by omega)]
    | rw [ints_at0 (by omega)]
    | rw [ints_at' (by omega) (by omega)]
    | refine And.intro (lens_all rfl) ?_
    | refine And.intro (show _ ≤ _ ∧ (_ + 1) * _ ≤ _ ∧ _ + 1 ≤ _ by first | omega | (simp; omega)) ?_
    | refine And.intro (show 1 * _ ≤ _ ∧ 1 ≤ _ by omega) ?_
    | refine And.intro (by first | omega | (simp; omega) | (show _ ∧ _; simp; done)) ?_
    | refine ⟨_, _, RIsLetters_mk, ?_⟩
    | refine ⟨_, _, RIn_mk, ?_⟩
    | refine ⟨_, _, RSetOk_mk, ?_⟩
    | refine ⟨_, _, ROnly_mk (by omega) (by omega), ?_⟩
    | fail) <;> conv => whnf)
  all_goals
    refine ⟨.inl rfl, ?_⟩
    conv => whnf
    refine ⟨[], ⟨rfl, trivial⟩, ?_, rfl, rfl⟩
    conv => whnf
    left
    conv => lhs; whnf
    refine congrArg AV.bool ?_
    first
    | exact (decide_eq_true (show HeadOk l s t from ⟨by omega, by omega, by omega⟩)).symm
    | (refine (decide_eq_false ?_).symm
       rintro ⟨g1, g2, g3⟩
       omega)

def RNaN (xs : List AV) (r : AV) (objs : List AObj) : Prop := ∃ i, xs = [.int .i64 i] ∧ r = .bool false ∧ objs = []
theorem RNaN_mk {i : Int} : RNaN [.int .i64 i] (.bool false) [] := ⟨i, rfl, rfl, rfl⟩

theorem s_cmp_isNaN : PureSound Try.prog 193 RNaN := by
  have hR : Rely Try.prog (ctxOf []) := rely_nil mixed
  refine pure_of_aw b_cmp_isNaN_int ?_
  rintro xs r objs ⟨i, rfl, rfl, rfl⟩ -
  refine ⟨by simp, vc2_sound hR _ _ _ _ _ ?_⟩
  conv => whnf
  repeat' ((first
    | contradiction
    | (refine And.intro (fun hb => ?_) (fun hb => ?_) <;> first | contradiction | ((try simp only [SB, reduceCtorEq] at hb); try (exfalso; first | contradiction | omega)))
    | refine And.intro rfl ?_
    | refine ⟨_, IntWalk.i64_in _ (by omega), ?_⟩
    | rw [ints_at (by omega)]
    | rw [ints_at0 (by omega)]
    | rw [ints_at' (by omega) (by omega)]
    | refine And.intro (lens_all rfl) ?_
    | refine And.intro (show _ ≤ _ ∧ (_ + 1) * _ ≤ _ ∧ _ + 1 ≤ _ by first | omega | (simp; omega)) ?_
    | refine And.intro (show 1 * _ ≤ _ ∧ 1 ≤ _ by omega) ?_
    | refine And.intro (by first | omega | (simp; omega) | (show _ ∧ _; simp; done)) ?_
    | fail) <;> conv => whnf)
  all_goals
    refine ⟨.inl rfl, ?_⟩
    conv => whnf
    refine ⟨[], ⟨rfl, trivial⟩, ?_, rfl, rfl⟩
    conv => whnf
    left
    conv => lhs; whnf
    try exact congrArg AV.bool (by simp_all)

def cmpI (x y : Int) : Int := if x < y then -1 else if x > y then 1 else 0
def RCompare (xs : List AV) (r : AV) (objs : List AObj) : Prop := ∃ x y, xs = [.int .i64 x, .int .i64 y] ∧ r = .int .i64 (cmpI x y) ∧ objs = []
theorem RCompare_mk {x y : Int} : RCompare [.int .i64 x, .int .i64 y] (.int .i64 (cmpI x y)) [] := ⟨x, y, rfl, rfl, rfl⟩

theorem s_cmp_Compare : PureSound Try.prog 182 RCompare := by
  have hR : Rely Try.prog (ctxOf [(193, .pure RNaN)]) := rely_cons b_cmp_isNaN_int.has s_cmp_isNaN (rely_nil mixed)
  refine pure_of_aw b_cmp_Compare_int ?_
  rintro xs r objs ⟨x, y, rfl, rfl, rfl⟩ -
  refine ⟨by simp, vc2_sound hR _ _ _ _ _ ?_⟩
  conv => whnf
  repeat' ((first
    | contradiction
    | (refine And.intro (fun hb => ?_) (fun hb => ?_) <;> first | contradiction | ((try simp only [SB, reduceCtorEq] at hb); try (exfalso; first | contradiction | omega)))
    | refine And.intro rfl ?_
    | refine ⟨_, IntWalk.i64_in _ (by omega), ?_⟩
    | rw [ints_at (by omega)]
    | rw [ints_at0 (by omega)]
    | rw [ints_at' (by omega) (by omega)]
    | refine And.intro (lens_all rfl) ?_
    | refine And.intro (show _ ≤ _ ∧ (_ + 1) * _ ≤ _ ∧ _ + 1 ≤ _ by first | omega | (simp; omega)) ?_
    | refine And.intro (show 1 * _ ≤ _ ∧ 1 ≤ _ by omega) ?_
    | refine And.intro (by first | omega | (simp; omega) | (show _ ∧ _; simp; done)) ?_
    | refine ⟨_, _, RNaN_mk, ?_⟩
    | fail) <;> conv => whnf)
  all_goals
    refine ⟨.inl rfl, ?_⟩
    conv => whnf
    refine ⟨[], ⟨rfl, trivial⟩, ?_, rfl, rfl⟩
    conv => whnf
    left
    conv => lhs; whnf
    exact congrArg (AV.int .i64) (by unfold cmpI; split <;> (try split) <;> omega)

def orI : List Int → Int
  | [] => 0
  | x :: r => if x ≠ 0 then x else orI r

theorem orI_drop {l : List Int} {i : Nat} (h : i < l.length) : orI (l.drop i) = if l.getD i 0 ≠ 0 then l.getD i 0 else orI (l.drop (i + 1)) := by
  rw [List.drop_eq_getElem_cons h]
  simp [orI, List.getD_eq_getElem?_getD, List.getElem?_eq_getElem h]

def ROr (xs : List AV) (r : AV) (objs : List AObj) : Prop := ∃ l, xs = [.val (ints l)] ∧ l.length ≤ 1000000 ∧ r = .int .i64 (orI l) ∧ objs = []
theorem ROr_eq {xs : List AV} {l : List Int} (h : xs = [.val (ints l)]) (h2 : l.length ≤ 1000000) : ROr xs (.int .i64 (orI l)) [] := ⟨l, h, h2, rfl, rfl⟩

theorem s_cmp_Or : PureSound Try.prog 181 ROr := by
  have hR : Rely Try.prog (ctxOf []) := rely_nil mixed
  refine pure_of_aw b_cmp_Or_int ?_
  rintro xs r objs ⟨l, rfl, hl, rfl, rfl⟩ -
  refine ⟨by simp, vc2_sound hR _ _ _ _ _ ?_⟩
  conv => whnf
  repeat' ((first
    | contradiction
    | (refine And.intro (fun hb => ?_) (fun hb => ?_) <;> first | contradiction | ((try simp only [SB, reduceCtorEq] at hb); try (exfalso; first | contradiction | omega)))
    | refine And.intro rfl ?_
    | refine ⟨_, IntWalk.i64_in _ (by omega), ?_⟩
    | rw [ints_at (by omega)]
    | rw [ints_at0 (by omega)]
    | rw [ints_at' (by omega) (by omega)]
    | refine And.intro (lens_all rfl) ?_
    | refine And.intro (show _ ≤ _ ∧ (_ + 1) * _ ≤ _ ∧ _ + 1 ≤ _ by first | omega | (simp; omega)) ?_
    | refine And.intro (show 1 * _ ≤ _ ∧ 1 ≤ _ by omega) ?_
    | refine And.intro (by first | omega | (simp; omega) | (show _ ∧ _; simp; done)) ?_
    | fail) <;> conv => whnf)
  refine Lp.intro (α := Nat) (fun i => i ≤ l.length ∧ orI (l.drop i) = orI l) (fun i => l.length - i) (fun i => [(3, .int .i64 0), (6, .val (ints l)), (7, .int .i64 (ints l).length), (8, .int .i64 i)]) (fun _ => []) ?_ ?_
  · refine ⟨0, ⟨by omega, rfl⟩, [], rfl, rfl, trivial, ?_⟩
    repeat' (first
      | exact trivial
      | refine ⟨?_, ?_⟩
      | fail)
    all_goals first
      | with_reducible rfl
      | (conv => whnf
         try left
         conv => lhs; whnf
         first
           | rfl
           | exact congrArg (AV.int .i64) (by omega)
           | skip)
  · rintro i ⟨hi, hall⟩
    refine vc2_sound hR _ _ _ _ _ ?_
    conv => whnf
    repeat' ((first
      | contradiction
      | (refine And.intro (fun hb => ?_) (fun hb => ?_) <;> first | contradiction | ((try simp only [SB, reduceCtorEq] at hb); try (exfalso; first | contradiction | omega)))
      | refine And.intro rfl ?_
      | refine ⟨_, IntWalk.i64_in _ (by omega), ?_⟩
      | rw [ints_at (by omega)]
      | rw [ints_at0 (by omega)]
      | rw [ints_at' (by omega) (by omega)]
      | refine And.intro (lens_all rfl) ?_
      | refine And.intro (show _ ≤ _ ∧ (_ + 1) * _ ≤ _ ∧ _ + 1 ≤ _ by first | omega | (simp; omega)) ?_
      | refine And.intro (show 1 * _ ≤ _ ∧ 1 ≤ _ by omega) ?_
      | refine And.intro (by first | omega | (simp; omega) | (show _ ∧ _; simp; done)) ?_
      | fail) <;> conv => whnf)
    · refine ⟨.inl rfl, ?_⟩
      conv => whnf
      refine ⟨[], ⟨rfl, trivial⟩, ?_, rfl, rfl⟩
      conv => whnf
      left
      conv => lhs; whnf
      exact congrArg (AV.int .i64) (by rw [← hall, orI_drop (by omega), if_pos (by assumption)])
    · refine ⟨i + 1, ⟨by omega, by rw [← hall, orI_drop (i := i) (by omega), if_neg (by simpa using hb)]⟩, by omega, [], rfl, rfl, ?_, ?_⟩
      · repeat' (first | exact trivial | exact rfl | exact Or.inl rfl | refine And.intro ?_ ?_)
      · repeat' (first
          | exact trivial
          | refine ⟨?_, ?_⟩
          | fail)
        all_goals first
          | with_reducible rfl
          | (conv => whnf
             try left
             conv => lhs; whnf
             first
               | rfl
               | exact congrArg (AV.int .i64) (by omega)
               | skip)
    · refine ⟨.inl rfl, ?_⟩
      conv => whnf
      refine ⟨[], ⟨rfl, trivial⟩, ?_, rfl, rfl⟩
      conv => whnf
      left
      conv => lhs; whnf
      exact congrArg (AV.int .i64) (by rw [← hall, List.drop_of_length_le (by omega)]; rfl)

def cmpE (x y : EdgeD) : Int := orI [cmpI x.src y.src, cmpI x.letter y.letter, cmpI x.dst y.dst]
theorem cmpE_less {x y : EdgeD} : 0 ≤ cmpE x y ↔ edgeLess x y = false := by
  simp only [cmpE, orI, cmpI, edgeLess]
  (repeat' split) <;> simp_all <;> omega

def RCompareE (xs : List AV) (r : AV) (objs : List AObj) : Prop := ∃ x y, xs = [.agg (edgeRow x), .agg (edgeRow y)] ∧ r = .int .i64 (cmpE x y) ∧ objs = []
theorem RCompareE_mk {x y : EdgeD} : RCompareE [.agg (edgeRow x), .agg (edgeRow y)] (.int .i64 (cmpE x y)) [] := ⟨x, y, rfl, rfl, rfl⟩

theorem s_impl_compareEdges : PureSound Try.prog 134 RCompareE := by
  have hR : Rely Try.prog (ctxOf [(182, .pure RCompare), (181, .pure ROr)]) := rely_cons b_cmp_Compare_int.has s_cmp_Compare (rely_cons b_cmp_Or_int.has s_cmp_Or (rely_nil mixed))
  refine pure_of_aw b_impl_compareEdges ?_
  rintro xs r objs ⟨x, y, rfl, rfl, rfl⟩ -
  refine ⟨by simp, vc2_sound hR _ _ _ _ _ ?_⟩
  conv => whnf
  repeat' ((first
    | contradiction
    | (refine And.intro (fun hb => ?_) (fun hb => ?_) <;> first | contradiction | ((try simp only [SB, reduceCtorEq] at hb); try (exfalso; first | contradiction | omega)))
    | refine And.intro rfl ?_
    | refine ⟨_, IntWalk.i64_in _ (by omega), ?_⟩
    | rw [ints_at (by omega)]
    | rw [ints_at0 (by omega)]
    | rw [ints_at' (by omega) (by omega)]
    | refine And.intro (lens_all rfl) ?_
    | refine And.intro (show _ ≤ _ ∧ (_ + 1) * _ ≤ _ ∧ _ + 1 ≤ _ by first | omega | (simp; omega)) ?_
    | refine And.intro (show 1 * _ ≤ _ ∧ 1 ≤ _ by omega) ?_
    | refine And.intro (by first | omega | (simp; omega) | (show _ ∧ _; simp; done)) ?_
    | refine ⟨_, _, RCompare_mk, ?_⟩
    | fail) <;> conv => whnf)
  refine ⟨_, _, ROr_eq (l := [cmpI x.src y.src, cmpI x.letter y.letter, cmpI x.dst y.dst]) rfl (by simp), ?_⟩
  conv => whnf
  repeat' ((first
    | contradiction
    | (refine And.intro (fun hb => ?_) (fun hb => ?_) <;> first | contradiction | ((try simp only [SB, reduceCtorEq] at hb); try (exfalso; first | contradiction | omega)))
    | refine And.intro rfl ?_
    | refine ⟨_, IntWalk.i64_in _ (by omega), ?_⟩
    | rw [ints_at (by omega)]
    | rw [ints_at0 (by omega)]
    | rw [ints_at' (by omega) (by omega)]
    | refine And.intro (lens_all rfl) ?_
    | refine And.intro (show _ ≤ _ ∧ (_ + 1) * _ ≤ _ ∧ _ + 1 ≤ _ by first | omega | (simp; omega)) ?_
    | refine And.intro (show 1 * _ ≤ _ ∧ 1 ≤ _ by omega) ?_
    | refine And.intro (by first | omega | (simp; omega) | (show _ ∧ _; simp; done)) ?_
    | fail) <;> conv => whnf)
  refine ⟨.inl rfl, ?_⟩
  conv => whnf
  refine ⟨[], ⟨rfl, trivial⟩, ?_, rfl, rfl⟩
  conv => whnf
  left
  conv => lhs; whnf
  rfl

theorem s_impl_AutoOk : PureSound Try.prog 73 RAutoOk := by
  have hR : Rely Try.prog (ctxOf [(72, .pure RIn), (133, .pure RHeadOk), (134, .pure RCompareE)]) :=
    rely_cons b_impl_inRange.has s_impl_inRange (rely_cons b_impl_headOk.has s_impl_headOk (rely_cons b_impl_compareEdges.has s_impl_compareEdges (rely_nil mixed)))
  refine pure_of_aw b_impl_AutoOk ?_
  rintro xs r objs ⟨a, rfl, rfl, rfl⟩ ⟨w, own, vs, hrel⟩
  have hle := length_edgeRows a.edges
  clear hrel
  refine ⟨by simp, vc2_sound hR _ _ _ _ _ ?_⟩
  conv => whnf
  repeat' ((first
    | contradiction
    | (refine And.intro (fun hb => ?_) (fun hb => ?_) <;> first | contradiction | ((try simp only [SB, reduceCtorEq] at hb); try (exfalso; first | contradiction | omega)))
    | refine And.intro rfl ?_
    | refine ⟨_, IntWalk.i64_in _ (by omega), ?_⟩
    | rw [ints_at (by omega)]
    | rw [ints_at0 (by omega)]
    | rw [ints_at' (by omega) (by omega)]
    | refine And.intro (lens_all rfl) ?_
    | refine And.intro (show _ ≤ _ ∧ (_ + 1) * _ ≤ _ ∧ _ + 1 ≤ _ by first | omega | (simp; omega)) ?_
    | refine And.intro (show 1 * _ ≤ _ ∧ 1 ≤ _ by omega) ?_
    | refine And.intro (by first | omega | (simp; omega) | (show _ ∧ _; simp; done)) ?_
    | refine ⟨_, _, RHeadOk_mk, ?_⟩
    | fail) <;> conv => whnf)
  · refine ⟨.inl rfl, ?_⟩
    conv => whnf
    refine ⟨[], ⟨rfl, trivial⟩, ?_, rfl, rfl⟩
    conv => whnf
    left
    conv => lhs; whnf
    refine congrArg AV.bool (decide_eq_false ?_).symm
    rintro ⟨_, g4, g5⟩
    omega
  · have hh : HeadOk a.letters a.states a.start := by assumption
    obtain ⟨g1, g2, g3⟩ := hh
    refine Lp.intro (α := Nat) (fun i => i ≤ a.edges.length ∧ ∀ j, j < i → EdgeAt a j) (fun i => a.edges.length - i) (fun i => [(1, .ptr 0 0 0), (20, .val (edgeRows a.edges)), (21, .int .i64 (edgeRows a.edges).length), (22, .int .i64 i)]) (fun _ => [some (.box (autoRow a))]) ?_ ?_
    · refine ⟨0, ⟨by omega, by omega⟩, [some 0], rfl, rfl, ?_, ?_⟩
      · repeat' (first | exact trivial | exact rfl | exact Or.inl rfl | refine And.intro ?_ ?_)
      · repeat' (first
          | exact trivial
          | refine ⟨?_, ?_⟩
          | fail)
        all_goals first
          | with_reducible rfl
          | (conv => whnf
             try left
             conv => lhs; whnf
             first
               | rfl
               | exact congrArg (AV.int .i64) (by omega)
               | skip)
    · rintro i ⟨hi, hall⟩
      refine vc2_sound hR _ _ _ _ _ ?_
      conv => whnf
      repeat' ((first
        | contradiction
        | (refine And.intro (fun hb => ?_) (fun hb => ?_) <;> first | contradiction | ((try simp only [SB, reduceCtorEq] at hb); try (exfalso; first | contradiction | omega)))
        | refine And.intro rfl ?_
        | refine ⟨_, IntWalk.i64_in _ (by omega), ?_⟩
        | rw [ints_at (by omega)]
        | rw [ints_at0 (by omega)]
        | rw [ints_at' (by omega) (by omega)]
        | refine And.intro (lens_all rfl) ?_
        | refine And.intro (show _ ≤ _ ∧ (_ + 1) * _ ≤ _ ∧ _ + 1 ≤ _ by first | omega | (simp; omega)) ?_
        | refine And.intro (show 1 * _ ≤ _ ∧ 1 ≤ _ by omega) ?_
        | refine And.intro (by first | omega | (simp; omega) | (show _ ∧ _; simp; done)) ?_
        | rw [edge_at (by omega)]
        | rw [edge_prev (by omega) (by omega)]
        | refine ⟨_, _, RIn_mk, ?_⟩
        | refine ⟨_, _, RCompareE_mk (x := a.edges.getD (i - 1) default) (y := a.edges.getD i default), ?_⟩
        | fail) <;> conv => whnf)
      · refine ⟨.inl rfl, ?_⟩
        conv => whnf
        refine ⟨[], ⟨rfl, trivial⟩, ?_, rfl, rfl⟩
        conv => whnf
        left
        conv => lhs; whnf
        refine congrArg AV.bool (decide_eq_false ?_).symm
        rintro ⟨_, _, g5⟩
        have k1 := (g5 i (by omega)).2 (by omega)
        rw [cmpE_less.1 (by assumption)] at k1
        cases k1
      · refine ⟨i + 1, ⟨by omega, fun j hj => ?_⟩, by omega, [some 0], rfl, rfl, ?_, ?_⟩
        · by_cases hji : j = i
          · subst hji
            refine ⟨⟨by assumption, by assumption, by assumption⟩, fun _ => ?_⟩
            rw [← Bool.not_eq_false]
            intro hf
            have := cmpE_less.2 hf
            omega
          · exact hall j (by omega)
        · repeat' (first | exact trivial | exact rfl | exact Or.inl rfl | refine And.intro ?_ ?_)
        · repeat' (first
            | exact trivial
            | refine ⟨?_, ?_⟩
            | fail)
          all_goals first
            | with_reducible rfl
            | (conv => whnf
               try left
               conv => lhs; whnf
               first
                 | rfl
                 | exact congrArg (AV.int .i64) (by omega)
                 | skip)
      · refine ⟨i + 1, ⟨by omega, fun j hj => ?_⟩, by omega, [some 0], rfl, rfl, ?_, ?_⟩
        · by_cases hji : j = i
          · subst hji; exact ⟨⟨by assumption, by assumption, by assumption⟩, fun _ => by omega⟩
          · exact hall j (by omega)
        · repeat' (first | exact trivial | exact rfl | exact Or.inl rfl | refine And.intro ?_ ?_)
        · repeat' (first
            | exact trivial
            | refine ⟨?_, ?_⟩
            | fail)
          all_goals first
            | with_reducible rfl
            | (conv => whnf
               try left
               conv => lhs; whnf
               first
                 | rfl
                 | exact congrArg (AV.int .i64) (by omega)
                 | skip)
      · refine ⟨.inl rfl, ?_⟩
        conv => whnf
        refine ⟨[], ⟨rfl, trivial⟩, ?_, rfl, rfl⟩
        conv => whnf
        left
        conv => lhs; whnf
        refine congrArg AV.bool (decide_eq_false ?_).symm
        rintro ⟨_, _, g5⟩
        obtain ⟨⟨k1, k2, k3⟩, _⟩ := g5 i (by omega)
        contradiction
      · refine ⟨.inl rfl, ?_⟩
        conv => whnf
        refine ⟨[], ⟨rfl, trivial⟩, ?_, rfl, rfl⟩
        conv => whnf
        left
        conv => lhs; whnf
        refine congrArg AV.bool (decide_eq_false ?_).symm
        rintro ⟨_, _, g5⟩
        obtain ⟨⟨k1, k2, k3⟩, _⟩ := g5 i (by omega)
        contradiction
      · refine ⟨.inl rfl, ?_⟩
        conv => whnf
        refine ⟨[], ⟨rfl, trivial⟩, ?_, rfl, rfl⟩
        conv => whnf
        left
        conv => lhs; whnf
        refine congrArg AV.bool (decide_eq_false ?_).symm
        rintro ⟨_, _, g5⟩
        obtain ⟨⟨k1, k2, k3⟩, _⟩ := g5 i (by omega)
        contradiction
      · refine ⟨.inl rfl, ?_⟩
        conv => whnf
        refine ⟨[], ⟨rfl, trivial⟩, ?_, rfl, rfl⟩
        conv => whnf
        left
        conv => lhs; whnf
        refine congrArg AV.bool (decide_eq_true ?_).symm
        exact ⟨⟨by assumption, by assumption, by assumption⟩, by omega, fun j hj => hall j (by omega)⟩
  · refine ⟨.inl rfl, ?_⟩
    conv => whnf
    refine ⟨[], ⟨rfl, trivial⟩, ?_, rfl, rfl⟩
    conv => whnf
    left
    conv => lhs; whnf
    refine congrArg AV.bool (decide_eq_false ?_).symm
    rintro ⟨g3, g4, g5⟩
    contradiction

theorem s_impl_ShelfOk : PureSound Try.prog 21 RShelfOk := by
  have hR : Rely Try.prog (ctxOf [(72, .pure RIn), (73, .pure RAutoOk)]) :=
    rely_cons b_impl_inRange.has s_impl_inRange (rely_cons b_impl_AutoOk.has s_impl_AutoOk (rely_nil mixed))
  refine pure_of_aw b_impl_ShelfOk ?_
  rintro xs r objs ⟨l, rfl, rfl, rfl⟩ ⟨w, own, vs, hrel⟩
  have hl : (namedRows l).length ≤ 9223372036854775807 := by
    obtain ⟨v, hv⟩ := rels_at hrel (i := 0) rfl
    exact rel_len hv
  have hle := length_namedRows l
  clear hrel
  refine ⟨by simp, vc2_sound hR _ _ _ _ _ ?_⟩
  conv => whnf
  repeat' ((first
    | contradiction
    | (refine And.intro (fun hb => ?_) (fun hb => ?_) <;> first | contradiction | ((try simp only [SB, reduceCtorEq] at hb); try (exfalso; first | contradiction | omega)))
    | refine And.intro rfl ?_
    | refine ⟨_, IntWalk.i64_in _ (by omega), ?_⟩
    | rw [ints_at (by omega)]
    | rw [ints_at0 (by omega)]
    | rw [ints_at' (by omega) (by omega)]
    | refine And.intro (lens_all rfl) ?_
    | refine And.intro (show _ ≤ _ ∧ (_ + 1) * _ ≤ _ ∧ _ + 1 ≤ _ by first | omega | (simp; omega)) ?_
    | refine And.intro (show 1 * _ ≤ _ ∧ 1 ≤ _ by omega) ?_
    | refine And.intro (by first | omega | (simp; omega) | (show _ ∧ _; simp; done)) ?_
    | fail) <;> conv => whnf)
  refine Lp.intro (α := Nat) (fun i => i ≤ l.length ∧ ∀ j, j < i → NamedAt l j) (fun i => l.length - i) (fun i => [(0, .val (namedRows l)), (5, .val (namedRows l)), (6, .int .i64 (namedRows l).length), (7, .int .i64 i)]) (fun _ => []) ?_ ?_
  · refine ⟨0, ⟨by omega, by omega⟩, [], rfl, rfl, trivial, ?_⟩
    repeat' (first
      | exact trivial
      | refine ⟨?_, ?_⟩
      | fail)
    all_goals first
      | with_reducible rfl
      | (conv => whnf
         try left
         conv => lhs; whnf
         first
           | rfl
           | exact congrArg (AV.int .i64) (by omega)
           | skip)
  · rintro i ⟨hi, hall⟩
    refine vc2_sound hR _ _ _ _ _ ?_
    conv => whnf
    repeat' ((first
      | contradiction
      | (refine And.intro (fun hb => ?_) (fun hb => ?_) <;> first | contradiction | ((try simp only [SB, reduceCtorEq] at hb); try (exfalso; first | contradiction | omega)))
      | refine And.intro rfl ?_
      | refine ⟨_, IntWalk.i64_in _ (by omega), ?_⟩
      | rw [ints_at (by omega)]
      | rw [ints_at0 (by omega)]
      | rw [ints_at' (by omega) (by omega)]
      | refine And.intro (lens_all rfl) ?_
      | refine And.intro (show _ ≤ _ ∧ (_ + 1) * _ ≤ _ ∧ _ + 1 ≤ _ by first | omega | (simp; omega)) ?_
      | refine And.intro (show 1 * _ ≤ _ ∧ 1 ≤ _ by omega) ?_
      | refine And.intro (by first | omega | (simp; omega) | (show _ ∧ _; simp; done)) ?_
      | rw [named_at (by omega)]
      | rw [named_prev (by omega) (by omega)]
      | refine ⟨_, _, RIn_mk, ?_⟩
      | refine ⟨_, _, RAutoOk_mk (a := (l.getD i default).auto), ?_⟩
      | fail) <;> conv => whnf)
    · refine ⟨.inl rfl, ?_⟩
      conv => whnf
      refine ⟨[], ⟨rfl, trivial⟩, ?_, rfl, rfl⟩
      conv => whnf
      left
      conv => lhs; whnf
      refine congrArg AV.bool (decide_eq_false ?_).symm
      rintro ⟨_, g5⟩
      obtain ⟨k1, k2, k3⟩ := g5 i (by omega)
      first
      | contradiction
      | (have := k3 (by omega); omega)
    · refine ⟨i + 1, ⟨by omega, fun j hj => ?_⟩, by omega, [], rfl, rfl, ?_, ?_⟩
      · by_cases hji : j = i
        · subst hji; exact ⟨by assumption, by assumption, fun _ => by first | assumption | omega⟩
        · exact hall j (by omega)
      · repeat' (first | exact trivial | exact rfl | exact Or.inl rfl | refine And.intro ?_ ?_)
      · repeat' (first
          | exact trivial
          | refine ⟨?_, ?_⟩
          | fail)
        all_goals first
          | with_reducible rfl
          | (conv => whnf
             try left
             conv => lhs; whnf
             first
               | rfl
               | exact congrArg (AV.int .i64) (by omega)
               | skip)
    · refine ⟨.inl rfl, ?_⟩
      conv => whnf
      refine ⟨[], ⟨rfl, trivial⟩, ?_, rfl, rfl⟩
      conv => whnf
      left
      conv => lhs; whnf
      refine congrArg AV.bool (decide_eq_false ?_).symm
      rintro ⟨_, g5⟩
      obtain ⟨k1, k2, k3⟩ := g5 i (by omega)
      first
      | contradiction
      | (have := k3 (by omega); omega)
    · refine ⟨i + 1, ⟨by omega, fun j hj => ?_⟩, by omega, [], rfl, rfl, ?_, ?_⟩
      · by_cases hji : j = i
        · subst hji; exact ⟨by assumption, by assumption, fun _ => by first | assumption | omega⟩
        · exact hall j (by omega)
      · repeat' (first | exact trivial | exact rfl | exact Or.inl rfl | refine And.intro ?_ ?_)
      · repeat' (first
          | exact trivial
          | refine ⟨?_, ?_⟩
          | fail)
        all_goals first
          | with_reducible rfl
          | (conv => whnf
             try left
             conv => lhs; whnf
             first
               | rfl
               | exact congrArg (AV.int .i64) (by omega)
               | skip)
    · refine ⟨.inl rfl, ?_⟩
      conv => whnf
      refine ⟨[], ⟨rfl, trivial⟩, ?_, rfl, rfl⟩
      conv => whnf
      left
      conv => lhs; whnf
      refine congrArg AV.bool (decide_eq_false ?_).symm
      rintro ⟨_, g5⟩
      obtain ⟨k1, k2, k3⟩ := g5 i (by omega)
      first
      | contradiction
      | (have := k3 (by omega); omega)
    · refine ⟨.inl rfl, ?_⟩
      conv => whnf
      refine ⟨[], ⟨rfl, trivial⟩, ?_, rfl, rfl⟩
      conv => whnf
      left
      conv => lhs; whnf
      refine congrArg AV.bool (decide_eq_false ?_).symm
      rintro ⟨_, g5⟩
      obtain ⟨k1, k2, k3⟩ := g5 i (by omega)
      first
      | contradiction
      | (have := k3 (by omega); omega)
    · refine ⟨.inl rfl, ?_⟩
      conv => whnf
      refine ⟨[], ⟨rfl, trivial⟩, ?_, rfl, rfl⟩
      conv => whnf
      left
      conv => lhs; whnf
      refine congrArg AV.bool (decide_eq_true ?_).symm
      exact ⟨by omega, fun j hj => hall j (by omega)⟩
    · refine ⟨.inl rfl, ?_⟩
      conv => whnf
      refine ⟨[], ⟨rfl, trivial⟩, ?_, rfl, rfl⟩
      conv => whnf
      left
      conv => lhs; whnf
      refine congrArg AV.bool (decide_eq_false ?_).symm
      rintro ⟨g4, _⟩
      omega

end Go.Proofs.Ytpfbkblgefddlaa.Ct
