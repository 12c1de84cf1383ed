/- Draws of formulas: trees. -/
import Derived.Test.YtpfbkblgefddlaaCtDraw1
import Derived.Test.YtpfbkblgefddlaaCtParse2
namespace Go.Proofs.Ytpfbkblgefddlaa.Ct
set_option linter.unusedSimpArgs false
set_option linter.unusedVariables false
open Go Go.Proofs Go.Proofs.Ytpfbkblgefddlaa.Av

def c_spec_l8Temporal : ICode := (.seq (.reg [⟨(some 2), .mv, [(.c .snil)], none⟩]) (.seq (.reg [⟨(some 5), .bsle, [], none⟩, ⟨(some 3), .mv, [(.t 5)], none⟩]) (.seq (.seq (.reg [⟨(some 4), .mv, [(.c (.int .i64 0))], none⟩]) (.block 0 (.loop (.seq (.seq (.reg [⟨(some 6), .mv, [(.t 4)], none⟩, ⟨(some 7), .mv, [(.t 0)], none⟩, ⟨(some 8), .len, [(.t 7)], none⟩, ⟨(some 9), (.bin .lss), [(.t 6), (.t 8)], none⟩]) (.cond (.t 9) .skip (.exit 0))) (.seq (.block 1 (.seq (.reg [⟨(some 12), .mv, [(.t 0)], none⟩, ⟨(some 13), .mv, [(.t 4)], none⟩, ⟨(some 14), (.iadr 3), [(.t 12), (.t 13)], none⟩, ⟨(some 15), (.fadr 0), [(.t 14)], none⟩, ⟨(some 16), .ld1, [(.t 15)], none⟩, ⟨(some 17), (.bin .geq), [(.t 16), (.c (.int .i64 7))], none⟩]) (.cond (.t 17) (.reg [⟨(some 18), .mv, [(.t 3)], none⟩, ⟨(some 19), .mv, [(.t 4)], none⟩, ⟨(some 20), (.bslv 1), [(.t 19)], none⟩, ⟨(some 21), (.app 1 8), [(.t 18), (.t 20)], none⟩, ⟨(some 3), .mv, [(.t 21)], none⟩]) .skip))) (.reg [⟨(some 10), .mv, [(.t 4)], none⟩, ⟨(some 11), (.bin .add), [(.t 10), (.c (.int .i64 1))], none⟩, ⟨(some 4), .mv, [(.t 11)], none⟩])))))) (.seq (.reg [⟨(some 22), .mv, [(.t 3)], none⟩, ⟨(some 2), .mv, [(.t 22)], none⟩]) .ret))))
theorem b_spec_l8Temporal : Body Try.prog 188 23 c_spec_l8Temporal [(.t 2)] := by
  have h1 : comp Try.prog 23 (Try.f188.body.getD .skip) = some c_spec_l8Temporal := by kernel_rfl
  have h2 : Try.f188.body = some (Try.f188.body.getD .skip) := by kernel_rfl
  have h3 : Try.f188.results.toList.map (cRes Try.prog) = [(some (.t 2))] := by kernel_rfl
  exact ⟨_, _, Try.func188, h2, Try.ntmps188, h1, h3, by decide⟩

def c_spec_l8Two : ICode := (.seq (.reg [⟨(some 6), .mv, [(.c .snil)], none⟩]) (.seq (.reg [⟨(some 7), .mv, [(.t 0)], none⟩, ⟨(some 8), .mv, [(.t 1)], none⟩, ⟨(some 9), .mv, [(.t 2)], none⟩, ⟨(some 10), .mv, [(.t 0)], none⟩, ⟨(some 11), .len, [(.t 10)], none⟩, ⟨(some 12), (.bin .sub), [(.t 11), (.c (.int .i64 1))], none⟩, ⟨(some 13), (.bld [(.int .i64 0), (.int .i64 0), (.int .i64 0)] [(0, 1), (1, 1), (2, 1)]), [(.t 8), (.t 9), (.t 12)], none⟩, ⟨(some 14), (.bslv 3), [(.t 13)], none⟩, ⟨(some 15), (.app 3 24), [(.t 7), (.t 14)], none⟩, ⟨(some 6), .mv, [(.t 15)], none⟩]) .ret))
theorem b_spec_l8Two : Body Try.prog 189 16 c_spec_l8Two [(.t 6)] := by
  have h1 : comp Try.prog 16 (Try.f189.body.getD .skip) = some c_spec_l8Two := by kernel_rfl
  have h2 : Try.f189.body = some (Try.f189.body.getD .skip) := by kernel_rfl
  have h3 : Try.f189.results.toList.map (cRes Try.prog) = [(some (.t 6))] := by kernel_rfl
  exact ⟨_, _, Try.func189, h2, Try.ntmps189, h1, h3, by decide⟩

def c_spec_l8DrawTree : ICode := (.seq (.reg [⟨(some 8), .mv, [(.c .snil)], none⟩]) (.seq (.reg [⟨(some 12), .mv, [(.t 0)], none⟩, ⟨(some 13), (.call 87), [(.t 12), (.c (.int .i64 14))], none⟩, ⟨(some 9), .mv, [(.t 13)], none⟩]) (.seq (.seq (.reg [⟨(some 14), .mv, [(.t 1)], none⟩, ⟨(some 15), (.bin .eql), [(.t 14), (.c (.int .i64 0))], none⟩]) (.cond (.t 15) (.reg [⟨(some 16), .mv, [(.t 0)], none⟩, ⟨(some 17), (.call 87), [(.t 16), (.c (.int .i64 4))], none⟩, ⟨(some 9), .mv, [(.t 17)], none⟩]) .skip)) (.seq (.seq (.reg [⟨(some 18), .mv, [(.t 9)], none⟩, ⟨(some 19), (.bin .geq), [(.t 18), (.c (.int .i64 7))], none⟩, ⟨(some 20), .mv, [(.t 19)], none⟩, ⟨(some 21), .mv, [(.t 2)], (some (20, true))⟩, ⟨(some 22), (.call 188), [(.t 21)], (some (20, true))⟩, ⟨(some 23), .len, [(.t 22)], (some (20, true))⟩, ⟨(some 24), .mv, [(.t 3)], (some (20, true))⟩, ⟨(some 25), (.bin .geq), [(.t 23), (.t 24)], (some (20, true))⟩, ⟨(some 26), .pick, [(.t 20), (.t 25), (.c (.bool false))], none⟩]) (.cond (.t 26) (.reg [⟨(some 27), .mv, [(.t 9)], none⟩, ⟨(some 28), (.bin .rem), [(.t 27), (.c (.int .i64 3))], none⟩, ⟨(some 29), (.bin .add), [(.c (.int .i64 4)), (.t 28)], none⟩, ⟨(some 9), .mv, [(.t 29)], none⟩]) .skip)) (.seq (.block 0 (.seq (.reg [⟨(some 31), .mv, [(.t 9)], none⟩, ⟨(some 32), (.bin .lss), [(.t 31), (.c (.int .i64 3))], none⟩, ⟨(some 30), .mv, [(.t 32)], none⟩]) (.cond (.t 30) (.seq (.reg [⟨(some 33), .mv, [(.t 2)], none⟩, ⟨(some 34), .mv, [(.t 0)], none⟩, ⟨(some 35), (.call 87), [(.t 34), (.c (.int .i64 2))], none⟩, ⟨(some 36), (.bld [(.int .i64 0), (.int .i64 0), (.int .i64 0)] [(0, 1), (1, 1)]), [(.c (.int .i64 3)), (.t 35)], none⟩, ⟨(some 37), (.bslv 3), [(.t 36)], none⟩, ⟨(some 38), (.app 3 24), [(.t 33), (.t 37)], none⟩, ⟨(some 8), .mv, [(.t 38)], none⟩]) .ret) (.seq (.reg [⟨(some 40), .mv, [(.t 9)], none⟩, ⟨(some 41), (.bin .eql), [(.t 40), (.c (.int .i64 3))], none⟩, ⟨(some 39), .mv, [(.t 41)], none⟩]) (.cond (.t 39) (.seq (.reg [⟨(some 42), .mv, [(.t 2)], none⟩, ⟨(some 43), .mv, [(.t 0)], none⟩, ⟨(some 44), (.call 87), [(.t 43), (.c (.int .i64 2))], none⟩, ⟨(some 45), (.bin .add), [(.c (.int .i64 1)), (.t 44)], none⟩, ⟨(some 46), (.bld [(.int .i64 0), (.int .i64 0), (.int .i64 0)] [(0, 1)]), [(.t 45)], none⟩, ⟨(some 47), (.bslv 3), [(.t 46)], none⟩, ⟨(some 48), (.app 3 24), [(.t 42), (.t 47)], none⟩, ⟨(some 8), .mv, [(.t 48)], none⟩]) .ret) (.seq (.reg [⟨(some 50), .mv, [(.t 9)], none⟩, ⟨(some 51), (.bin .eql), [(.t 50), (.c (.int .i64 4))], none⟩, ⟨(some 49), .mv, [(.t 51)], none⟩]) (.cond (.t 49) (.seq (.reg [⟨(some 52), .mv, [(.t 0)], none⟩, ⟨(some 53), .mv, [(.t 1)], none⟩, ⟨(some 54), (.bin .sub), [(.t 53), (.c (.int .i64 1))], none⟩, ⟨(some 55), .mv, [(.t 2)], none⟩, ⟨(some 56), .mv, [(.t 3)], none⟩, ⟨(some 57), (.call 151), [(.t 52), (.t 54), (.t 55), (.t 56)], none⟩, ⟨(some 2), .mv, [(.t 57)], none⟩]) (.seq (.reg [⟨(some 58), .mv, [(.t 2)], none⟩, ⟨(some 59), .mv, [(.t 2)], none⟩, ⟨(some 60), .len, [(.t 59)], none⟩, ⟨(some 61), (.bin .sub), [(.t 60), (.c (.int .i64 1))], none⟩, ⟨(some 62), (.bld [(.int .i64 0), (.int .i64 0), (.int .i64 0)] [(0, 1), (1, 1)]), [(.c (.int .i64 4)), (.t 61)], none⟩, ⟨(some 63), (.bslv 3), [(.t 62)], none⟩, ⟨(some 64), (.app 3 24), [(.t 58), (.t 63)], none⟩, ⟨(some 8), .mv, [(.t 64)], none⟩]) .ret)) (.seq (.reg [⟨(some 66), .mv, [(.t 9)], none⟩, ⟨(some 67), (.bin .geq), [(.t 66), (.c (.int .i64 10))], none⟩, ⟨(some 65), .mv, [(.t 67)], none⟩]) (.cond (.t 65) (.seq (.reg [⟨(some 68), .mv, [(.t 0)], none⟩, ⟨(some 69), .mv, [(.t 1)], none⟩, ⟨(some 70), (.bin .sub), [(.t 69), (.c (.int .i64 1))], none⟩, ⟨(some 71), .mv, [(.t 2)], none⟩, ⟨(some 72), .mv, [(.t 3)], none⟩, ⟨(some 73), (.bin .sub), [(.t 72), (.c (.int .i64 1))], none⟩, ⟨(some 74), (.call 151), [(.t 68), (.t 70), (.t 71), (.t 73)], none⟩, ⟨(some 2), .mv, [(.t 74)], none⟩]) (.seq (.reg [⟨(some 75), .mv, [(.t 2)], none⟩, ⟨(some 76), .mv, [(.t 0)], none⟩, ⟨(some 77), (.bsl 1), [(.c (.int .i64 7)), (.c (.int .i64 10)), (.c (.int .i64 11))], none⟩, ⟨(some 78), (.call 136), [(.t 76), (.t 77)], none⟩, ⟨(some 79), .mv, [(.t 2)], none⟩, ⟨(some 80), .len, [(.t 79)], none⟩, ⟨(some 81), (.bin .sub), [(.t 80), (.c (.int .i64 1))], none⟩, ⟨(some 82), (.bld [(.int .i64 0), (.int .i64 0), (.int .i64 0)] [(0, 1), (1, 1)]), [(.t 78), (.t 81)], none⟩, ⟨(some 83), (.bslv 3), [(.t 82)], none⟩, ⟨(some 84), (.app 3 24), [(.t 75), (.t 83)], none⟩, ⟨(some 8), .mv, [(.t 84)], none⟩]) .ret)) .skip))))))))) (.seq (.reg [⟨(some 85), .mv, [(.t 0)], none⟩, ⟨(some 86), (.call 87), [(.t 85), (.c (.int .i64 2))], none⟩, ⟨(some 87), (.bin .add), [(.c (.int .i64 5)), (.t 86)], none⟩, ⟨(some 10), .mv, [(.t 87)], none⟩]) (.seq (.seq (.reg [⟨(some 88), .mv, [(.t 9)], none⟩, ⟨(some 89), (.bin .geq), [(.t 88), (.c (.int .i64 7))], none⟩]) (.cond (.t 89) (.seq (.reg [⟨(some 90), .mv, [(.t 0)], none⟩, ⟨(some 91), (.call 87), [(.t 90), (.c (.int .i64 2))], none⟩, ⟨(some 92), (.bin .add), [(.c (.int .i64 8)), (.t 91)], none⟩, ⟨(some 10), .mv, [(.t 92)], none⟩]) (.reg [⟨(some 93), .mv, [(.t 3)], none⟩, ⟨(some 94), (.bin .sub), [(.t 93), (.c (.int .i64 1))], none⟩, ⟨(some 3), .mv, [(.t 94)], none⟩])) .skip)) (.seq (.reg [⟨(some 95), .mv, [(.t 0)], none⟩, ⟨(some 96), .mv, [(.t 1)], none⟩, ⟨(some 97), (.bin .sub), [(.t 96), (.c (.int .i64 1))], none⟩, ⟨(some 98), .mv, [(.t 2)], none⟩, ⟨(some 99), .mv, [(.t 3)], none⟩, ⟨(some 100), (.call 151), [(.t 95), (.t 97), (.t 98), (.t 99)], none⟩, ⟨(some 2), .mv, [(.t 100)], none⟩]) (.seq (.reg [⟨(some 101), .mv, [(.t 2)], none⟩, ⟨(some 102), .len, [(.t 101)], none⟩, ⟨(some 103), (.bin .sub), [(.t 102), (.c (.int .i64 1))], none⟩, ⟨(some 11), .mv, [(.t 103)], none⟩]) (.seq (.reg [⟨(some 104), .mv, [(.t 0)], none⟩, ⟨(some 105), .mv, [(.t 1)], none⟩, ⟨(some 106), (.bin .sub), [(.t 105), (.c (.int .i64 1))], none⟩, ⟨(some 107), .mv, [(.t 2)], none⟩, ⟨(some 108), .mv, [(.t 3)], none⟩, ⟨(some 109), (.call 151), [(.t 104), (.t 106), (.t 107), (.t 108)], none⟩, ⟨(some 2), .mv, [(.t 109)], none⟩]) (.seq (.reg [⟨(some 110), .mv, [(.t 2)], none⟩, ⟨(some 111), .mv, [(.t 10)], none⟩, ⟨(some 112), .mv, [(.t 11)], none⟩, ⟨(some 113), (.call 189), [(.t 110), (.t 111), (.t 112)], none⟩, ⟨(some 8), .mv, [(.t 113)], none⟩]) .ret)))))))))))
theorem b_spec_l8DrawTree : Body Try.prog 151 114 c_spec_l8DrawTree [(.t 8)] := by
  have h1 : comp Try.prog 114 (Try.f151.body.getD .skip) = some c_spec_l8DrawTree := by kernel_rfl
  have h2 : Try.f151.body = some (Try.f151.body.getD .skip) := by kernel_rfl
  have h3 : Try.f151.results.toList.map (cRes Try.prog) = [(some (.t 8))] := by kernel_rfl
  exact ⟨_, _, Try.func151, h2, Try.ntmps151, h1, h3, by decide⟩

def c_spec_l8DrawRight : ICode := (.seq (.reg [⟨(some 4), .mv, [(.c .snil)], none⟩]) (.seq (.reg [⟨(some 5), .mv, [(.t 0)], none⟩, ⟨(some 6), .mv, [(.t 0)], none⟩, ⟨(some 7), (.call 87), [(.t 6), (.c (.int .i64 4))], none⟩, ⟨(some 8), (.bin .add), [(.c (.int .i64 1)), (.t 7)], none⟩, ⟨(some 9), .bsle, [], none⟩, ⟨(some 10), .mv, [(.t 1)], none⟩, ⟨(some 11), (.call 151), [(.t 5), (.t 8), (.t 9), (.t 10)], none⟩, ⟨(some 4), .mv, [(.t 11)], none⟩]) .ret))
theorem b_spec_l8DrawRight : Body Try.prog 104 12 c_spec_l8DrawRight [(.t 4)] := by
  have h1 : comp Try.prog 12 (Try.f104.body.getD .skip) = some c_spec_l8DrawRight := by kernel_rfl
  have h2 : Try.f104.body = some (Try.f104.body.getD .skip) := by kernel_rfl
  have h3 : Try.f104.results.toList.map (cRes Try.prog) = [(some (.t 4))] := by kernel_rfl
  exact ⟨_, _, Try.func104, h2, Try.ntmps104, h1, h3, by decide⟩

def c_spec_l8DrawAny : ICode := (.seq (.reg [⟨(some 2), .mv, [(.c .snil)], none⟩]) (.seq (.reg [⟨(some 5), .mv, [(.t 0)], none⟩, ⟨(some 6), (.call 104), [(.t 5), (.c (.int .i64 6))], none⟩, ⟨(some 3), .mv, [(.t 6)], none⟩]) (.seq (.reg [⟨(some 7), .mv, [(.t 0)], none⟩, ⟨(some 8), .mv, [(.t 3)], none⟩, ⟨(some 9), .len, [(.t 8)], none⟩, ⟨(some 10), (.call 87), [(.t 7), (.t 9)], none⟩, ⟨(some 4), .mv, [(.t 10)], none⟩]) (.seq (.seq (.reg [⟨(some 11), .mv, [(.t 0)], none⟩, ⟨(some 12), (.call 87), [(.t 11), (.c (.int .i64 25))], none⟩]) (.block 0 (.seq (.reg [⟨(some 14), (.bin .eql), [(.t 12), (.c (.int .i64 0))], none⟩, ⟨(some 13), .mv, [(.t 14)], none⟩]) (.cond (.t 13) (.reg [⟨(some 15), .mv, [(.t 3)], none⟩, ⟨(some 16), .mv, [(.t 4)], none⟩, ⟨(some 17), .mv, [(.t 0)], none⟩, ⟨(some 18), (.call 87), [(.t 17), (.c (.int .i64 13))], none⟩, ⟨(some 19), (.iadr 3), [(.t 15), (.t 16)], none⟩, ⟨(some 20), (.fadr 0), [(.t 19)], none⟩, ⟨none, (.st 1), [(.t 20), (.t 18)], none⟩]) (.seq (.reg [⟨(some 22), (.bin .eql), [(.t 12), (.c (.int .i64 1))], none⟩, ⟨(some 21), .mv, [(.t 22)], none⟩]) (.cond (.t 21) (.reg [⟨(some 23), .mv, [(.t 3)], none⟩, ⟨(some 24), .mv, [(.t 4)], none⟩, ⟨(some 25), .mv, [(.t 3)], none⟩, ⟨(some 26), .mv, [(.t 4)], none⟩, ⟨(some 27), (.iadr 3), [(.t 25), (.t 26)], none⟩, ⟨(some 28), (.fadr 1), [(.t 27)], none⟩, ⟨(some 29), .ld1, [(.t 28)], none⟩, ⟨(some 30), (.bin .add), [(.t 29), (.c (.int .i64 1))], none⟩, ⟨(some 31), (.iadr 3), [(.t 23), (.t 24)], none⟩, ⟨(some 32), (.fadr 1), [(.t 31)], none⟩, ⟨none, (.st 1), [(.t 32), (.t 30)], none⟩]) (.seq (.reg [⟨(some 34), (.bin .eql), [(.t 12), (.c (.int .i64 2))], none⟩, ⟨(some 33), .mv, [(.t 34)], none⟩]) (.cond (.t 33) (.reg [⟨(some 35), .mv, [(.t 3)], none⟩, ⟨(some 36), .mv, [(.t 4)], none⟩, ⟨(some 37), .mv, [(.t 0)], none⟩, ⟨(some 38), .mv, [(.t 3)], none⟩, ⟨(some 39), .len, [(.t 38)], none⟩, ⟨(some 40), (.call 87), [(.t 37), (.t 39)], none⟩, ⟨(some 41), (.iadr 3), [(.t 35), (.t 36)], none⟩, ⟨(some 42), (.fadr 2), [(.t 41)], none⟩, ⟨none, (.st 1), [(.t 42), (.t 40)], none⟩]) (.seq (.reg [⟨(some 44), (.bin .eql), [(.t 12), (.c (.int .i64 3))], none⟩, ⟨(some 43), .mv, [(.t 44)], none⟩]) (.cond (.t 43) (.reg [⟨(some 45), .mv, [(.t 3)], none⟩, ⟨(some 46), (.bld [(.int .i64 0), (.int .i64 0), (.int .i64 0)] [(0, 1)]), [(.c (.int .i64 1))], none⟩, ⟨(some 47), (.bslv 3), [(.t 46)], none⟩, ⟨(some 48), (.app 3 24), [(.t 45), (.t 47)], none⟩, ⟨(some 3), .mv, [(.t 48)], none⟩]) (.seq (.reg [⟨(some 50), (.bin .eql), [(.t 12), (.c (.int .i64 4))], none⟩, ⟨(some 49), .mv, [(.t 50)], none⟩]) (.cond (.t 49) (.reg [⟨(some 3), .mv, [(.c .snil)], none⟩]) .skip)))))))))))) (.seq (.reg [⟨(some 51), .mv, [(.t 3)], none⟩, ⟨(some 2), .mv, [(.t 51)], none⟩]) .ret)))))
theorem b_spec_l8DrawAny : Body Try.prog 95 52 c_spec_l8DrawAny [(.t 2)] := by
  have h1 : comp Try.prog 52 (Try.f95.body.getD .skip) = some c_spec_l8DrawAny := by kernel_rfl
  have h2 : Try.f95.body = some (Try.f95.body.getD .skip) := by kernel_rfl
  have h3 : Try.f95.results.toList.map (cRes Try.prog) = [(some (.t 2))] := by kernel_rfl
  exact ⟨_, _, Try.func95, h2, Try.ntmps95, h1, h3, by decide⟩

def c_spec_DrawLtlPrint : ICode := (.seq (.reg [⟨(some 2), .mv, [(.c .snil)], none⟩]) (.seq (.reg [⟨(some 3), .mv, [(.t 0)], none⟩, ⟨(some 4), (.call 82), [(.t 3)], none⟩, ⟨(some 5), (.call 95), [(.t 4)], none⟩, ⟨(some 2), .mv, [(.t 5)], none⟩]) .ret))
theorem b_spec_DrawLtlPrint : Body Try.prog 38 6 c_spec_DrawLtlPrint [(.t 2)] := by
  have h1 : comp Try.prog 6 (Try.f38.body.getD .skip) = some c_spec_DrawLtlPrint := by kernel_rfl
  have h2 : Try.f38.body = some (Try.f38.body.getD .skip) := by kernel_rfl
  have h3 : Try.f38.results.toList.map (cRes Try.prog) = [(some (.t 2))] := by kernel_rfl
  exact ⟨_, _, Try.func38, h2, Try.ntmps38, h1, h3, by decide⟩

def c_spec_DrawLtlParse : ICode := (.seq (.reg [⟨(some 2), .mv, [(.c (.str []))], none⟩]) (.seq (.reg [⟨(some 6), .mv, [(.t 0)], none⟩, ⟨(some 7), (.call 82), [(.t 6)], none⟩, ⟨(some 3), .mv, [(.t 7)], none⟩]) (.seq (.reg [⟨(some 8), .mv, [(.t 3)], none⟩, ⟨(some 9), (.call 104), [(.t 8), (.c (.int .i64 6))], none⟩, ⟨(some 4), .mv, [(.t 9)], none⟩]) (.seq (.reg [⟨(some 10), .mv, [(.t 4)], none⟩, ⟨(some 11), .mv, [(.t 4)], none⟩, ⟨(some 12), .len, [(.t 11)], none⟩, ⟨(some 13), (.bin .sub), [(.t 12), (.c (.int .i64 1))], none⟩, ⟨(some 14), (.call 105), [(.t 10), (.t 13)], none⟩, ⟨(some 5), .mv, [(.t 14)], none⟩]) (.seq (.seq (.reg [⟨(some 15), .mv, [(.t 3)], none⟩, ⟨(some 16), (.call 85), [(.t 15), (.c (.int .i64 3))], none⟩]) (.cond (.t 16) (.reg [⟨(some 17), .mv, [(.t 3)], none⟩, ⟨(some 18), (.bsl 1), [(.c (.str [48, 85, 49, 85, 50])), (.c (.str [48, 85, 49, 38, 50, 124, 70, 48])), (.c (.str [33, 71, 40, 48, 124, 49, 41, 82, 50])), (.c (.str [88, 88, 48])), (.c (.str [71, 32, 70, 32, 49])), (.c (.str [48, 82, 88, 49, 85, 33, 50, 38, 116])), (.c (.str [70, 71, 48, 124, 71, 70, 33, 48]))], none⟩, ⟨(some 19), (.call 106), [(.t 17), (.t 18)], none⟩, ⟨(some 5), .mv, [(.t 19)], none⟩]) .skip)) (.seq (.seq (.reg [⟨(some 20), .mv, [(.t 3)], none⟩, ⟨(some 21), (.call 85), [(.t 20), (.c (.int .i64 2))], none⟩]) (.cond (.t 21) (.reg [⟨(some 22), .mv, [(.t 3)], none⟩, ⟨(some 23), .mv, [(.t 5)], none⟩, ⟨(some 24), (.bsl 1), [(.c (.str [33])), (.c (.str [40])), (.c (.str [41])), (.c (.str [38])), (.c (.str [124])), (.c (.str [48])), (.c (.str [51])), (.c (.str [116])), (.c (.str [85])), (.c (.str [88])), (.c (.str [32]))], none⟩, ⟨(some 25), (.call 86), [(.t 22), (.t 23), (.t 24)], none⟩, ⟨(some 5), .mv, [(.t 25)], none⟩]) .skip)) (.seq (.seq (.reg [⟨(some 26), .mv, [(.t 3)], none⟩, ⟨(some 27), (.call 85), [(.t 26), (.c (.int .i64 25))], none⟩]) (.cond (.t 27) (.block 0 (.loop (.seq (.seq (.reg [⟨(some 28), .mv, [(.t 5)], none⟩, ⟨(some 29), .lens, [(.t 28)], none⟩, ⟨(some 30), .mv, [(.t 3)], none⟩, ⟨(some 31), (.call 87), [(.t 30), (.c (.int .i64 4))], none⟩, ⟨(some 32), (.bin .add), [(.c (.int .i64 199)), (.t 31)], none⟩, ⟨(some 33), (.bin .lss), [(.t 29), (.t 32)], none⟩]) (.cond (.t 33) .skip (.exit 0))) (.block 1 (.reg [⟨(some 34), .mv, [(.t 5)], none⟩, ⟨(some 35), (.bin .add), [(.c (.str [88])), (.t 34)], none⟩, ⟨(some 5), .mv, [(.t 35)], none⟩]))))) .skip)) (.seq (.reg [⟨(some 36), .mv, [(.t 5)], none⟩, ⟨(some 2), .mv, [(.t 36)], none⟩]) .ret))))))))
theorem b_spec_DrawLtlParse : Body Try.prog 44 37 c_spec_DrawLtlParse [(.t 2)] := by
  have h1 : comp Try.prog 37 (Try.f44.body.getD .skip) = some c_spec_DrawLtlParse := by kernel_rfl
  have h2 : Try.f44.body = some (Try.f44.body.getD .skip) := by kernel_rfl
  have h3 : Try.f44.results.toList.map (cRes Try.prog) = [(some (.t 2))] := by kernel_rfl
  exact ⟨_, _, Try.func44, h2, Try.ntmps44, h1, h3, by decide⟩


/-- the places of the first nodes that speak of time -/
def tempN (l : List NodeD) : Nat → List Int
  | 0 => []
  | i + 1 => if 7 ≤ (l.getD i default).kind then tempN l i ++ [(i : Int)] else tempN l i
def RTemp (xs : List AV) (r : AV) (objs : List AObj) : Prop := ∃ l, xs = [.val (nodeRows l)] ∧ l.length ≤ 1000000 ∧ r = .ref 0 0 (tempN l l.length).length ∧ objs = [.arr 1 (ints (tempN l l.length))]
theorem RTemp_eq {xs : List AV} {l : List NodeD} (h : xs = [.val (nodeRows l)]) (hl : l.length ≤ 1000000) : RTemp xs (.ref 0 0 (tempN l l.length).length) [.arr 1 (ints (tempN l l.length))] := ⟨l, h, hl, rfl, rfl⟩
theorem length_tempN (l : List NodeD) : ∀ i, (tempN l i).length ≤ i
  | 0 => Nat.le_refl _
  | i + 1 => by
    have := length_tempN l i
    simp only [tempN]
    split
    · simp; omega
    · omega

set_option maxHeartbeats 1000000 in
theorem s_spec_l8Temporal : PureSound Try.prog 188 RTemp := by
  have hR : Rely Try.prog (ctxOf []) := rely_nil mixed
  refine pure_of_aw b_spec_l8Temporal ?_
  rintro xs r objs ⟨l, rfl, hl, rfl, rfl⟩ -
  have hln := length_nodeRows l
  refine ⟨by simp, vc2_sound hR _ _ _ _ _ ?_⟩
  conv => whnf
  repeat' (first
    | (refine And.intro (fun hb => ?_) (fun hb => ?_)
       all_goals (try simp only [decide_eq_true_eq, decide_eq_false_iff_not, Bool.not_eq_true', Bool.not_eq_false', Bool.not_not, ne_eq, length_ints, List.length_map, beq_iff_eq, bne_iff_ne, beq_eq_false_iff_ne, bne_eq_false_iff_eq, Int.not_le, Int.not_lt, ge_iff_le, gt_iff_lt, reduceCtorEq, not_false_eq_true, not_true_eq_false, Bool.false_eq_true, Bool.true_eq_false] at hb)
       all_goals (try (exfalso; omega))
       all_goals conv => whnf)
    | (refine And.intro (live_all rfl) ?_; conv => whnf)
    | (refine And.intro rfl ?_; conv => whnf)
    | (refine ⟨_, IntWalk.i64_in _ (by omega), ?_⟩; conv => whnf)
    | (refine And.intro (okcs_all rfl) ?_; conv => whnf)
    | (refine And.intro (okvs_all rfl) ?_; conv => whnf)
    | (refine And.intro (frees_all rfl) ?_; conv => whnf)
    | (refine And.intro (bsl_all rfl) ?_; conv => whnf)
    | (refine And.intro (lens_all rfl) ?_; conv => whnf)
    | (refine And.intro (Nat.le_of_ble_eq_true rfl) ?_; conv => whnf)
    | (rw [ints_at (by omega)]; conv => whnf)
    | (rw [ints_at0 (by omega)]; conv => whnf)
    | (rw [ints_at' (by omega) (by omega)]; conv => whnf)
    | (refine And.intro (show (_ + 1) * _ ≤ _ by omega) ?_; conv => whnf)
    | (refine And.intro (show _ + 1 ≤ _ by omega) ?_; conv => whnf)
    | (refine And.intro (by first | omega | (simp only [length_ints]; omega)) ?_; conv => whnf)
    | fail)
  refine Lp.intro (α := Nat) (fun i => i ≤ l.length) (fun i => l.length - i) (fun i => [(0, .val (nodeRows l)), (3, .ref 0 0 (tempN l i).length), (4, .int .i64 i)]) (fun i => [some (.arr 1 (ints (tempN l i)))]) ?_ ?_
  · refine ⟨0, Nat.zero_le _, [none], rfl, rfl, And.intro rfl trivial, ?_⟩
    repeat' (first
      | exact trivial
      | refine ⟨?_, ?_⟩
      | fail)
    all_goals first
      | with_reducible rfl
      | (conv => whnf
         try left
         conv => lhs; whnf
         first
           | rfl
           | exact congrArg (AV.int .i64) (by omega)
           | skip)
  · intro i hi
    have htl := length_tempN l i
    have hil2 := length_ints (tempN l i)
    refine vc2_sound hR _ _ _ _ _ ?_
    conv => whnf
    repeat' (first
      | (refine And.intro (fun hb => ?_) (fun hb => ?_)
         all_goals (try simp only [decide_eq_true_eq, decide_eq_false_iff_not, Bool.not_eq_true', Bool.not_eq_false', Bool.not_not, ne_eq, length_ints, List.length_map, beq_iff_eq, bne_iff_ne, beq_eq_false_iff_ne, bne_eq_false_iff_eq, Int.not_le, Int.not_lt, ge_iff_le, gt_iff_lt, reduceCtorEq, not_false_eq_true, not_true_eq_false, Bool.false_eq_true, Bool.true_eq_false] at hb)
         all_goals (try (exfalso; omega))
         all_goals conv => whnf)
      | (refine And.intro (live_all rfl) ?_; conv => whnf)
      | (refine And.intro rfl ?_; conv => whnf)
      | (refine ⟨_, IntWalk.i64_in _ (by omega), ?_⟩; conv => whnf)
      | (refine And.intro (okcs_all rfl) ?_; conv => whnf)
      | (refine And.intro (okvs_all rfl) ?_; conv => whnf)
      | (refine And.intro (frees_all rfl) ?_; conv => whnf)
      | (refine And.intro (bsl_all rfl) ?_; conv => whnf)
      | (refine And.intro (lens_all rfl) ?_; conv => whnf)
      | (refine And.intro (Nat.le_of_ble_eq_true rfl) ?_; conv => whnf)
      | (rw [ints_at (by omega)]; conv => whnf)
      | (rw [ints_at0 (by omega)]; conv => whnf)
      | (rw [ints_at' (by omega) (by omega)]; conv => whnf)
      | (refine And.intro (show (_ + 1) * _ ≤ _ by omega) ?_; conv => whnf)
      | (refine And.intro (show _ + 1 ≤ _ by omega) ?_; conv => whnf)
      | (refine And.intro (by first | omega | (simp only [length_ints]; omega)) ?_; conv => whnf)
      | (rw [node_at (by omega)]; conv => whnf)
      | fail)
    · have e : tempN l (i + 1) = tempN l i ++ [(i : Int)] := by simp only [tempN]; rw [if_pos hb]
      refine ⟨i + 1, by omega, by omega, [some 1], rfl, rfl, And.intro (And.intro rfl ?_) trivial, ?_⟩
      · rw [e]; exact app_step _ _ _ rfl
      · rw [e]
        repeat' (first
          | exact trivial
          | refine ⟨?_, ?_⟩
          | fail)
        all_goals first
          | with_reducible rfl
          | (conv => whnf
             try left
             conv => lhs; whnf
             first
               | rfl
               | exact congrArg (AV.int .i64) (by omega)
               | skip)
        exact congrArg (AV.ref 1 0) (by simp)
    · have e : tempN l (i + 1) = tempN l i := by simp only [tempN]; rw [if_neg (by omega)]
      refine ⟨i + 1, by omega, by omega, [some 0], rfl, rfl, And.intro (And.intro rfl (by rw [e])) trivial, ?_⟩
      rw [e]
      repeat' (first
        | exact trivial
        | refine ⟨?_, ?_⟩
        | fail)
      all_goals first
        | with_reducible rfl
        | (conv => whnf
           try left
           conv => lhs; whnf
           first
             | rfl
             | exact congrArg (AV.int .i64) (by omega)
             | skip)
    · have hil : i = l.length := by omega
      subst hil
      refine ⟨.inl rfl, ?_⟩
      conv => whnf
      exact ⟨[some 0], ⟨rfl, And.intro (And.intro rfl rfl) trivial⟩, rfl, rfl, by simp [AObj.nov, ints_nov]⟩

def GTwoS : GFun := fun xs objs Q => ∃ (l : List NodeD) (k f : Int), xs = [.ref 0 0 l.length, .int .i64 k, .int .i64 f] ∧ objs = [.arr 3 (nodeRows l)] ∧ l.length ≤ 1000000 ∧
  Q (.ref 1 0 (l ++ [NodeD.mk k f ((l.length : Int) - 1)]).length) [none, some (.arr 3 (nodeRows (l ++ [NodeD.mk k f ((l.length : Int) - 1)])))]
theorem GTwoS_mk {l : List NodeD} {k f : Int} {Q : AV → List (Option AObj) → Prop} (h : l.length ≤ 1000000) (hq : Q (.ref 1 0 (l ++ [NodeD.mk k f ((l.length : Int) - 1)]).length) [none, some (.arr 3 (nodeRows (l ++ [NodeD.mk k f ((l.length : Int) - 1)])))]) :
    GTwoS [.ref 0 0 l.length, .int .i64 k, .int .i64 f] [.arr 3 (nodeRows l)] Q := ⟨l, k, f, rfl, rfl, h, hq⟩

theorem s_spec_l8Two : GenSound Try.prog 189 1 GTwoS := by
  have hR : Rely Try.prog (ctxOf []) := rely_nil mixed
  refine gen_of_aw b_spec_l8Two ?_
  rintro xs objs Q - ⟨l, k, f, rfl, rfl, hl, hq⟩ -
  have hln := length_nodeRows l
  refine ⟨by simp, vc2_sound hR _ _ _ _ _ ?_⟩
  conv => whnf
  repeat' (first
    | (refine And.intro (fun hb => ?_) (fun hb => ?_)
       all_goals (try simp only [decide_eq_true_eq, decide_eq_false_iff_not, Bool.not_eq_true', Bool.not_eq_false', Bool.not_not, ne_eq, length_ints, List.length_map, beq_iff_eq, bne_iff_ne, beq_eq_false_iff_ne, bne_eq_false_iff_eq, Int.not_le, Int.not_lt, ge_iff_le, gt_iff_lt, reduceCtorEq, not_false_eq_true, not_true_eq_false, Bool.false_eq_true, Bool.true_eq_false] at hb)
       all_goals (try (exfalso; omega))
       all_goals conv => whnf)
    | (refine And.intro (live_all rfl) ?_; conv => whnf)
    | (refine And.intro rfl ?_; conv => whnf)
    | (refine ⟨_, IntWalk.i64_in _ (by omega), ?_⟩; conv => whnf)
    | (refine And.intro (okcs_all rfl) ?_; conv => whnf)
    | (refine And.intro (okvs_all rfl) ?_; conv => whnf)
    | (refine And.intro (frees_all rfl) ?_; conv => whnf)
    | (refine And.intro (bsl_all rfl) ?_; conv => whnf)
    | (refine And.intro (lens_all rfl) ?_; conv => whnf)
    | (refine And.intro (Nat.le_of_ble_eq_true rfl) ?_; conv => whnf)
    | (rw [ints_at (by omega)]; conv => whnf)
    | (rw [ints_at0 (by omega)]; conv => whnf)
    | (rw [ints_at' (by omega) (by omega)]; conv => whnf)
    | (refine And.intro (show (_ + 1) * _ ≤ _ by omega) ?_; conv => whnf)
    | (refine And.intro (show _ + 1 ≤ _ by omega) ?_; conv => whnf)
    | (refine And.intro (by first | omega | (simp only [length_ints]; omega)) ?_; conv => whnf)
    | fail)
  refine ⟨.inl rfl, ?_⟩
  conv => whnf
  exact ⟨[none, some 1], .ref 1 0 _, [none, some (.arr 3 (nodeRows (l ++ [NodeD.mk k f ((l.length : Int) - 1)])))], ⟨rfl, And.intro (And.intro rfl node_app) trivial⟩, congrArg (AV.ref 1 0) (by simp), rfl, hq⟩

/-- a right tree is drawn behind nodes -/
def GTree (d : Nat) : GFun := fun xs objs Q => ∃ (code : List UInt8) (i : Nat) (h : Int) (l : List NodeD) (deep most : Int), xs = [.ptr 0 0 0, .int .i64 deep, .ref 1 0 l.length, .int .i64 most] ∧ objs = [curO code i h, .arr 3 (nodeRows l)] ∧
  i ≤ code.length ∧ code.length ≤ 1048576 ∧ 0 ≤ deep ∧ deep ≤ d ∧ d ≤ 20 ∧ l.length + 2 * 2 ^ deep.toNat ≤ 1000 ∧ -100 ≤ most - deep ∧ most ≤ 100 ∧
  ∀ (t : Tr) (i' : Nat) (h' : Int), t.ok → t.size + 1 ≤ 2 * 2 ^ deep.toNat → i' ≤ code.length → Q (.ref 2 0 (l ++ t.enc l.length).length) [some (curO code i' h'), none, some (.arr 3 (nodeRows (l ++ t.enc l.length)))]
theorem GTree_mk {d : Nat} {code : List UInt8} {i : Nat} {h : Int} {l : List NodeD} {deep most : Int} {Q : AV → List (Option AObj) → Prop} (h1 : i ≤ code.length) (h2 : code.length ≤ 1048576) (h3 : 0 ≤ deep ∧ deep ≤ d ∧ d ≤ 20) (h4 : l.length + 2 * 2 ^ deep.toNat ≤ 1000) (h5 : -100 ≤ most - deep ∧ most ≤ 100)
    (hq : ∀ (t : Tr) (i' : Nat) (h' : Int), t.ok → t.size + 1 ≤ 2 * 2 ^ deep.toNat → i' ≤ code.length → Q (.ref 2 0 (l ++ t.enc l.length).length) [some (curO code i' h'), none, some (.arr 3 (nodeRows (l ++ t.enc l.length)))]) :
    GTree d [.ptr 0 0 0, .int .i64 deep, .ref 1 0 l.length, .int .i64 most] [curO code i h, .arr 3 (nodeRows l)] Q := ⟨code, i, h, l, deep, most, rfl, rfl, h1, h2, h3.1, h3.2.1, h3.2.2, h4, h5.1, h5.2, hq⟩
def GTreeP (d : Nat) : GFun := fun xs objs Q => ∃ d', d = d' + 1 ∧ GTree d' xs objs Q

theorem enc_one {l : List NodeD} {t : Tr} {k : Int} : l ++ t.enc l.length ++ [NodeD.mk k (((l ++ t.enc l.length).length : Int) - 1) 0] = l ++ (Tr.one k t).enc l.length := by
  simp [Tr.enc, Tr.length_enc]
theorem enc_two {l : List NodeD} {s t : Tr} {k : Int} : l ++ s.enc l.length ++ t.enc (l ++ s.enc l.length).length ++ [NodeD.mk k (((l ++ s.enc l.length).length : Int) - 1) (((l ++ s.enc l.length ++ t.enc (l ++ s.enc l.length).length).length : Int) - 1)] = l ++ (Tr.two k s t).enc l.length := by
  simp [Tr.enc, Tr.length_enc, Int.add_assoc]
theorem pow_pred {deep : Int} (h : 1 ≤ deep) : 2 * 2 ^ (deep - 1).toNat = 2 ^ deep.toNat := by
  obtain ⟨n, rfl⟩ : ∃ n : Nat, deep = n + 1 := ⟨(deep - 1).toNat, by omega⟩
  have e1 : ((n : Int) + 1 - 1).toNat = n := by omega
  have e2 : ((n : Int) + 1).toNat = n + 1 := by omega
  rw [e1, e2, Nat.pow_succ]; omega
theorem pow_pos' (n : Nat) : 1 ≤ 2 ^ n := Nat.one_le_two_pow

theorem pick3 {j : Nat} (h : j < [(7 : Int), 10, 11].length) : List.getD [(7 : Int), 10, 11] j 0 = 4 ∨ List.getD [(7 : Int), 10, 11] j 0 = 7 ∨ List.getD [(7 : Int), 10, 11] j 0 = 10 ∨ List.getD [(7 : Int), 10, 11] j 0 = 11 := by
  have : j = 0 ∨ j = 1 ∨ j = 2 := by simp at h; omega
  rcases this with rfl | rfl | rfl <;> simp

theorem GTreeP_nv (d : Nat) (xs : List AV) (objs : List AObj) (Q : AV → List (Option AObj) → Prop) (h : GTreeP d xs objs Q) : ∃ r out, Q r out := by
  obtain ⟨d', _, code, i, h, l, deep, most, _, _, _, _, _, _, _, _, _, _, hq⟩ := h
  have := pow_pos' deep.toNat
  exact ⟨_, _, hq (.leaf 1 0) 0 0 (.inl ⟨.inl rfl, rfl⟩) (by simp only [Tr.size]; omega) (Nat.zero_le _)⟩
theorem GTwoS_nv (xs : List AV) (objs : List AObj) (Q : AV → List (Option AObj) → Prop) (h : GTwoS xs objs Q) : ∃ r out, Q r out := by
  obtain ⟨l, k, f, _, _, _, hq⟩ := h
  exact ⟨_, _, hq⟩

set_option maxRecDepth 4000 in
set_option maxHeartbeats 8000000 in
theorem s_tree_step {d : Nat} (hd : GenSound Try.prog 151 2 (GTreeP d)) : GenSound Try.prog 151 2 (GTree d) := by
  have hR : Rely Try.prog (ctxOf [(87, .gen 1 GBelow), (188, .pure RTemp), (151, .gen 2 (GTreeP d)), (136, .gen 2 GPickInt), (189, .gen 1 GTwoS)]) :=
    rely_cons b_spec_l1Below.has s_spec_l1Below (rely_cons b_spec_l8Temporal.has s_spec_l8Temporal (rely_cons b_spec_l8DrawTree.has hd (rely_cons b_spec_l1PickInt.has s_spec_l1PickInt (rely_cons b_spec_l8Two.has s_spec_l8Two (rely_nil mixed)))))
  refine gen_of_aw b_spec_l8DrawTree ?_
  rintro xs objs Q - ⟨code, i, h, l, deep, most, rfl, rfl, h1, h2, h3, h3', h3'', h4, h5, h5', hq⟩ -
  have hln := length_nodeRows l
  have hpw : 1 ≤ deep → 2 * 2 ^ (deep - 1).toNat = 2 ^ deep.toNat := pow_pred
  have hp1 := pow_pos' deep.toNat
  have hp2 := pow_pos' (deep - 1).toNat
  have hle : ∀ t : Tr, (l ++ t.enc l.length).length = l.length + t.size := fun t => by rw [List.length_append, Tr.length_enc]
  have hlr : ∀ t : Tr, (nodeRows (l ++ t.enc l.length)).length = l.length + t.size := fun t => by rw [length_nodeRows, hle]
  refine ⟨by simp, vc2_sound hR _ _ _ _ _ ?_⟩
  conv => whnf
  repeat' (first
    | (refine And.intro (fun hb => ?_) (fun hb => ?_)
       all_goals (try simp only [decide_eq_true_eq, decide_eq_false_iff_not, Bool.not_eq_true', Bool.not_eq_false', Bool.not_not, ne_eq, length_ints, List.length_map, beq_iff_eq, bne_iff_ne, beq_eq_false_iff_ne, bne_eq_false_iff_eq, Int.not_le, Int.not_lt, ge_iff_le, gt_iff_lt, reduceCtorEq, not_false_eq_true, not_true_eq_false, Bool.false_eq_true, Bool.true_eq_false] at hb)
       all_goals (try (exfalso; omega))
       all_goals conv => whnf)
    | (refine And.intro (live_all rfl) ?_; conv => whnf)
    | (refine And.intro rfl ?_; conv => whnf)
    | (refine ⟨_, IntWalk.i64_in _ (by omega), ?_⟩; conv => whnf)
    | (refine And.intro (okcs_all rfl) ?_; conv => whnf)
    | (refine And.intro (okvs_all rfl) ?_; conv => whnf)
    | (refine And.intro (frees_all rfl) ?_; conv => whnf)
    | (refine And.intro (bsl_all rfl) ?_; conv => whnf)
    | (refine And.intro (lens_all rfl) ?_; conv => whnf)
    | (refine And.intro (Nat.le_of_ble_eq_true rfl) ?_; conv => whnf)
    | (rw [ints_at (by omega)]; conv => whnf)
    | (rw [ints_at0 (by omega)]; conv => whnf)
    | (rw [ints_at' (by omega) (by omega)]; conv => whnf)
    | (refine And.intro (show (_ + 1) * _ ≤ _ by omega) ?_; conv => whnf)
    | (refine And.intro (show _ + 1 ≤ _ by omega) ?_; conv => whnf)
    | (refine And.intro (by first | omega | (simp only [length_ints]; omega)) ?_; conv => whnf)
    | (refine ⟨GBelow_mk (by omega) (by omega) (by omega) (fun x i' h' hx0 hx1 hi' => ?_)⟩; have htm := tmod_in (a := x) (n := 3) hx0 (by omega); conv => whnf)
    | (refine ⟨_, _, RTemp_eq (l := l) (by repeat' (first | exact rfl | refine args_cons ?_ ?_ | refine snap_agg ?_ | refine cells_cons ?_ ?_ | exact snap1_all rfl (by first | (simp only [length_ints]; done) | (simp only [length_nodeRows]; done) | simp [ints, marks]) | exact snap_all rfl (by first | (simp only [length_ints]; done) | (simp only [length_nodeRows]; done) | simp [ints, marks]) | exact snap1_all2 rfl (by first | (simp only [length_ints]; done) | (simp only [length_nodeRows]; done) | simp [ints, marks]) | fail)) (by omega), ?_⟩; conv => whnf)
    | (refine ⟨⟨d - 1, by omega, GTree_mk (l := l) (by omega) (by omega) (by omega) (by omega) (by omega) (fun t i' h' ht1 ht2 hi' => ?_)⟩⟩; have hle1 := hle t; have hlr1 := hlr t; have htp := t.size_pos; conv => whnf)
    | (refine ⟨⟨d - 1, by omega, GTree_mk (l := l ++ t.enc l.length) (by omega) (by omega) (by omega) (by omega) (by omega) (fun t2 i' h' hs1 hs2 hi' => ?_)⟩⟩; have htp2 := t2.size_pos; have hlr2 : (nodeRows (l ++ t.enc l.length ++ t2.enc (l ++ t.enc l.length).length)).length = l.length + t.size + t2.size := (by rw [length_nodeRows, List.length_append, Tr.length_enc, hle1]); conv => whnf)
    | (refine ⟨GPickInt_mk (l := [7, 10, 11]) (by omega) (by omega) (by decide) (by decide) (fun j i' h' hj hi' => ?_)⟩; conv => whnf)
    | (refine ⟨GTwoS_mk (by rw [← length_nodeRows]; omega) ?_⟩; conv => whnf)
    | fail)
  all_goals
    refine ⟨.inl rfl, ?_⟩
    conv => whnf
    first
    | exact ⟨[some 0, none, some 2], .ref 2 0 _, [some (curO code i' h'), none, some (.arr 3 (nodeRows (l ++ (Tr.leaf 3 x).enc l.length)))], ⟨rfl, And.intro (And.intro (.inl rfl) (And.intro (.inl rfl) (And.intro (.inl rfl) trivial))) (And.intro (And.intro rfl (node_app)) trivial)⟩, congrArg (AV.ref _ 0) (by simp [Tr.enc]), rfl, hq (Tr.leaf 3 x) i' h' (.inr ⟨rfl, by omega, by omega⟩) (by simp only [Tr.size]; omega) (by omega)⟩
    | exact ⟨[some 0, none, some 3], .ref 2 0 _, [some (curO code i' h'), none, some (.arr 3 (nodeRows (l ++ (Tr.leaf 3 x).enc l.length)))], ⟨rfl, And.intro (And.intro (.inl rfl) (And.intro (.inl rfl) (And.intro (.inl rfl) trivial))) (And.intro (And.intro rfl (node_app)) trivial)⟩, congrArg (AV.ref _ 0) (by simp [Tr.enc]), rfl, hq (Tr.leaf 3 x) i' h' (.inr ⟨rfl, by omega, by omega⟩) (by simp only [Tr.size]; omega) (by omega)⟩
    | exact ⟨[some 0, none, some 4], .ref 2 0 _, [some (curO code i' h'), none, some (.arr 3 (nodeRows (l ++ (Tr.leaf 3 x).enc l.length)))], ⟨rfl, And.intro (And.intro (.inl rfl) (And.intro (.inl rfl) (And.intro (.inl rfl) trivial))) (And.intro (And.intro rfl (node_app)) trivial)⟩, congrArg (AV.ref _ 0) (by simp [Tr.enc]), rfl, hq (Tr.leaf 3 x) i' h' (.inr ⟨rfl, by omega, by omega⟩) (by simp only [Tr.size]; omega) (by omega)⟩
    | exact ⟨[some 0, none, some 5], .ref 2 0 _, [some (curO code i' h'), none, some (.arr 3 (nodeRows (l ++ (Tr.leaf 3 x).enc l.length)))], ⟨rfl, And.intro (And.intro (.inl rfl) (And.intro (.inl rfl) (And.intro (.inl rfl) trivial))) (And.intro (And.intro rfl (node_app)) trivial)⟩, congrArg (AV.ref _ 0) (by simp [Tr.enc]), rfl, hq (Tr.leaf 3 x) i' h' (.inr ⟨rfl, by omega, by omega⟩) (by simp only [Tr.size]; omega) (by omega)⟩
    | exact ⟨[some 0, none, some 6], .ref 2 0 _, [some (curO code i' h'), none, some (.arr 3 (nodeRows (l ++ (Tr.leaf 3 x).enc l.length)))], ⟨rfl, And.intro (And.intro (.inl rfl) (And.intro (.inl rfl) (And.intro (.inl rfl) trivial))) (And.intro (And.intro rfl (node_app)) trivial)⟩, congrArg (AV.ref _ 0) (by simp [Tr.enc]), rfl, hq (Tr.leaf 3 x) i' h' (.inr ⟨rfl, by omega, by omega⟩) (by simp only [Tr.size]; omega) (by omega)⟩
    | exact ⟨[some 0, none, some 7], .ref 2 0 _, [some (curO code i' h'), none, some (.arr 3 (nodeRows (l ++ (Tr.leaf 3 x).enc l.length)))], ⟨rfl, And.intro (And.intro (.inl rfl) (And.intro (.inl rfl) (And.intro (.inl rfl) trivial))) (And.intro (And.intro rfl (node_app)) trivial)⟩, congrArg (AV.ref _ 0) (by simp [Tr.enc]), rfl, hq (Tr.leaf 3 x) i' h' (.inr ⟨rfl, by omega, by omega⟩) (by simp only [Tr.size]; omega) (by omega)⟩
    | exact ⟨[some 0, none, some 2], .ref 2 0 _, [some (curO code i' h'), none, some (.arr 3 (nodeRows (l ++ (Tr.leaf (1 + x) 0).enc l.length)))], ⟨rfl, And.intro (And.intro (.inl rfl) (And.intro (.inl rfl) (And.intro (.inl rfl) trivial))) (And.intro (And.intro rfl (node_app)) trivial)⟩, congrArg (AV.ref _ 0) (by simp [Tr.enc]), rfl, hq (Tr.leaf (1 + x) 0) i' h' (.inl ⟨by omega, rfl⟩) (by simp only [Tr.size]; omega) (by omega)⟩
    | exact ⟨[some 0, none, some 3], .ref 2 0 _, [some (curO code i' h'), none, some (.arr 3 (nodeRows (l ++ (Tr.leaf (1 + x) 0).enc l.length)))], ⟨rfl, And.intro (And.intro (.inl rfl) (And.intro (.inl rfl) (And.intro (.inl rfl) trivial))) (And.intro (And.intro rfl (node_app)) trivial)⟩, congrArg (AV.ref _ 0) (by simp [Tr.enc]), rfl, hq (Tr.leaf (1 + x) 0) i' h' (.inl ⟨by omega, rfl⟩) (by simp only [Tr.size]; omega) (by omega)⟩
    | exact ⟨[some 0, none, some 4], .ref 2 0 _, [some (curO code i' h'), none, some (.arr 3 (nodeRows (l ++ (Tr.leaf (1 + x) 0).enc l.length)))], ⟨rfl, And.intro (And.intro (.inl rfl) (And.intro (.inl rfl) (And.intro (.inl rfl) trivial))) (And.intro (And.intro rfl (node_app)) trivial)⟩, congrArg (AV.ref _ 0) (by simp [Tr.enc]), rfl, hq (Tr.leaf (1 + x) 0) i' h' (.inl ⟨by omega, rfl⟩) (by simp only [Tr.size]; omega) (by omega)⟩
    | exact ⟨[some 0, none, some 5], .ref 2 0 _, [some (curO code i' h'), none, some (.arr 3 (nodeRows (l ++ (Tr.leaf (1 + x) 0).enc l.length)))], ⟨rfl, And.intro (And.intro (.inl rfl) (And.intro (.inl rfl) (And.intro (.inl rfl) trivial))) (And.intro (And.intro rfl (node_app)) trivial)⟩, congrArg (AV.ref _ 0) (by simp [Tr.enc]), rfl, hq (Tr.leaf (1 + x) 0) i' h' (.inl ⟨by omega, rfl⟩) (by simp only [Tr.size]; omega) (by omega)⟩
    | exact ⟨[some 0, none, some 6], .ref 2 0 _, [some (curO code i' h'), none, some (.arr 3 (nodeRows (l ++ (Tr.leaf (1 + x) 0).enc l.length)))], ⟨rfl, And.intro (And.intro (.inl rfl) (And.intro (.inl rfl) (And.intro (.inl rfl) trivial))) (And.intro (And.intro rfl (node_app)) trivial)⟩, congrArg (AV.ref _ 0) (by simp [Tr.enc]), rfl, hq (Tr.leaf (1 + x) 0) i' h' (.inl ⟨by omega, rfl⟩) (by simp only [Tr.size]; omega) (by omega)⟩
    | exact ⟨[some 0, none, some 7], .ref 2 0 _, [some (curO code i' h'), none, some (.arr 3 (nodeRows (l ++ (Tr.leaf (1 + x) 0).enc l.length)))], ⟨rfl, And.intro (And.intro (.inl rfl) (And.intro (.inl rfl) (And.intro (.inl rfl) trivial))) (And.intro (And.intro rfl (node_app)) trivial)⟩, congrArg (AV.ref _ 0) (by simp [Tr.enc]), rfl, hq (Tr.leaf (1 + x) 0) i' h' (.inl ⟨by omega, rfl⟩) (by simp only [Tr.size]; omega) (by omega)⟩
    | exact ⟨[some 0, none, some 2], .ref 2 0 _, [some (curO code i' h'), none, some (.arr 3 (nodeRows (l ++ (Tr.one 4 t).enc l.length)))], ⟨rfl, And.intro (And.intro (.inl rfl) (And.intro (.inl rfl) (And.intro (.inl rfl) trivial))) (And.intro (And.intro rfl (node_app.trans (congrArg nodeRows enc_one))) trivial)⟩, congrArg (AV.ref _ 0) (by simp [Tr.enc, Tr.length_enc]; omega), rfl, hq (Tr.one 4 t) i' h' (⟨.inl rfl, ht1⟩) (by simp only [Tr.size]; omega) (by omega)⟩
    | exact ⟨[some 0, none, some 3], .ref 2 0 _, [some (curO code i' h'), none, some (.arr 3 (nodeRows (l ++ (Tr.one 4 t).enc l.length)))], ⟨rfl, And.intro (And.intro (.inl rfl) (And.intro (.inl rfl) (And.intro (.inl rfl) trivial))) (And.intro (And.intro rfl (node_app.trans (congrArg nodeRows enc_one))) trivial)⟩, congrArg (AV.ref _ 0) (by simp [Tr.enc, Tr.length_enc]; omega), rfl, hq (Tr.one 4 t) i' h' (⟨.inl rfl, ht1⟩) (by simp only [Tr.size]; omega) (by omega)⟩
    | exact ⟨[some 0, none, some 4], .ref 2 0 _, [some (curO code i' h'), none, some (.arr 3 (nodeRows (l ++ (Tr.one 4 t).enc l.length)))], ⟨rfl, And.intro (And.intro (.inl rfl) (And.intro (.inl rfl) (And.intro (.inl rfl) trivial))) (And.intro (And.intro rfl (node_app.trans (congrArg nodeRows enc_one))) trivial)⟩, congrArg (AV.ref _ 0) (by simp [Tr.enc, Tr.length_enc]; omega), rfl, hq (Tr.one 4 t) i' h' (⟨.inl rfl, ht1⟩) (by simp only [Tr.size]; omega) (by omega)⟩
    | exact ⟨[some 0, none, some 5], .ref 2 0 _, [some (curO code i' h'), none, some (.arr 3 (nodeRows (l ++ (Tr.one 4 t).enc l.length)))], ⟨rfl, And.intro (And.intro (.inl rfl) (And.intro (.inl rfl) (And.intro (.inl rfl) trivial))) (And.intro (And.intro rfl (node_app.trans (congrArg nodeRows enc_one))) trivial)⟩, congrArg (AV.ref _ 0) (by simp [Tr.enc, Tr.length_enc]; omega), rfl, hq (Tr.one 4 t) i' h' (⟨.inl rfl, ht1⟩) (by simp only [Tr.size]; omega) (by omega)⟩
    | exact ⟨[some 0, none, some 6], .ref 2 0 _, [some (curO code i' h'), none, some (.arr 3 (nodeRows (l ++ (Tr.one 4 t).enc l.length)))], ⟨rfl, And.intro (And.intro (.inl rfl) (And.intro (.inl rfl) (And.intro (.inl rfl) trivial))) (And.intro (And.intro rfl (node_app.trans (congrArg nodeRows enc_one))) trivial)⟩, congrArg (AV.ref _ 0) (by simp [Tr.enc, Tr.length_enc]; omega), rfl, hq (Tr.one 4 t) i' h' (⟨.inl rfl, ht1⟩) (by simp only [Tr.size]; omega) (by omega)⟩
    | exact ⟨[some 0, none, some 7], .ref 2 0 _, [some (curO code i' h'), none, some (.arr 3 (nodeRows (l ++ (Tr.one 4 t).enc l.length)))], ⟨rfl, And.intro (And.intro (.inl rfl) (And.intro (.inl rfl) (And.intro (.inl rfl) trivial))) (And.intro (And.intro rfl (node_app.trans (congrArg nodeRows enc_one))) trivial)⟩, congrArg (AV.ref _ 0) (by simp [Tr.enc, Tr.length_enc]; omega), rfl, hq (Tr.one 4 t) i' h' (⟨.inl rfl, ht1⟩) (by simp only [Tr.size]; omega) (by omega)⟩
    | exact ⟨[some 0, none, some 2], .ref 2 0 _, [some (curO code i' h'), none, some (.arr 3 (nodeRows (l ++ (Tr.one (List.getD [7, 10, 11] j 0) t).enc l.length)))], ⟨rfl, And.intro (And.intro (.inl rfl) (And.intro (.inl rfl) (And.intro (.inl rfl) trivial))) (And.intro (And.intro rfl (node_app.trans (congrArg nodeRows enc_one))) trivial)⟩, congrArg (AV.ref _ 0) (by simp [Tr.enc, Tr.length_enc]; omega), rfl, hq (Tr.one (List.getD [7, 10, 11] j 0) t) i' h' (⟨pick3 hj, ht1⟩) (by simp only [Tr.size]; omega) (by omega)⟩
    | exact ⟨[some 0, none, some 3], .ref 2 0 _, [some (curO code i' h'), none, some (.arr 3 (nodeRows (l ++ (Tr.one (List.getD [7, 10, 11] j 0) t).enc l.length)))], ⟨rfl, And.intro (And.intro (.inl rfl) (And.intro (.inl rfl) (And.intro (.inl rfl) trivial))) (And.intro (And.intro rfl (node_app.trans (congrArg nodeRows enc_one))) trivial)⟩, congrArg (AV.ref _ 0) (by simp [Tr.enc, Tr.length_enc]; omega), rfl, hq (Tr.one (List.getD [7, 10, 11] j 0) t) i' h' (⟨pick3 hj, ht1⟩) (by simp only [Tr.size]; omega) (by omega)⟩
    | exact ⟨[some 0, none, some 4], .ref 2 0 _, [some (curO code i' h'), none, some (.arr 3 (nodeRows (l ++ (Tr.one (List.getD [7, 10, 11] j 0) t).enc l.length)))], ⟨rfl, And.intro (And.intro (.inl rfl) (And.intro (.inl rfl) (And.intro (.inl rfl) trivial))) (And.intro (And.intro rfl (node_app.trans (congrArg nodeRows enc_one))) trivial)⟩, congrArg (AV.ref _ 0) (by simp [Tr.enc, Tr.length_enc]; omega), rfl, hq (Tr.one (List.getD [7, 10, 11] j 0) t) i' h' (⟨pick3 hj, ht1⟩) (by simp only [Tr.size]; omega) (by omega)⟩
    | exact ⟨[some 0, none, some 5], .ref 2 0 _, [some (curO code i' h'), none, some (.arr 3 (nodeRows (l ++ (Tr.one (List.getD [7, 10, 11] j 0) t).enc l.length)))], ⟨rfl, And.intro (And.intro (.inl rfl) (And.intro (.inl rfl) (And.intro (.inl rfl) trivial))) (And.intro (And.intro rfl (node_app.trans (congrArg nodeRows enc_one))) trivial)⟩, congrArg (AV.ref _ 0) (by simp [Tr.enc, Tr.length_enc]; omega), rfl, hq (Tr.one (List.getD [7, 10, 11] j 0) t) i' h' (⟨pick3 hj, ht1⟩) (by simp only [Tr.size]; omega) (by omega)⟩
    | exact ⟨[some 0, none, some 6], .ref 2 0 _, [some (curO code i' h'), none, some (.arr 3 (nodeRows (l ++ (Tr.one (List.getD [7, 10, 11] j 0) t).enc l.length)))], ⟨rfl, And.intro (And.intro (.inl rfl) (And.intro (.inl rfl) (And.intro (.inl rfl) trivial))) (And.intro (And.intro rfl (node_app.trans (congrArg nodeRows enc_one))) trivial)⟩, congrArg (AV.ref _ 0) (by simp [Tr.enc, Tr.length_enc]; omega), rfl, hq (Tr.one (List.getD [7, 10, 11] j 0) t) i' h' (⟨pick3 hj, ht1⟩) (by simp only [Tr.size]; omega) (by omega)⟩
    | exact ⟨[some 0, none, some 7], .ref 2 0 _, [some (curO code i' h'), none, some (.arr 3 (nodeRows (l ++ (Tr.one (List.getD [7, 10, 11] j 0) t).enc l.length)))], ⟨rfl, And.intro (And.intro (.inl rfl) (And.intro (.inl rfl) (And.intro (.inl rfl) trivial))) (And.intro (And.intro rfl (node_app.trans (congrArg nodeRows enc_one))) trivial)⟩, congrArg (AV.ref _ 0) (by simp [Tr.enc, Tr.length_enc]; omega), rfl, hq (Tr.one (List.getD [7, 10, 11] j 0) t) i' h' (⟨pick3 hj, ht1⟩) (by simp only [Tr.size]; omega) (by omega)⟩
    | exact ⟨[some 0, none, some 2], .ref 2 0 _, [some (curO code i' h'), none, some (.arr 3 (nodeRows (l ++ (Tr.two (5 + x) t t2).enc l.length)))], ⟨rfl, And.intro (And.intro (.inl rfl) (And.intro (.inl rfl) (And.intro (.inl rfl) trivial))) (And.intro (And.intro rfl (congrArg nodeRows enc_two)) trivial)⟩, congrArg (AV.ref _ 0) (congrArg List.length enc_two), rfl, hq (Tr.two (5 + x) t t2) i' h' (⟨by omega, ht1, hs1⟩) (by simp only [Tr.size]; omega) (by omega)⟩
    | exact ⟨[some 0, none, some 3], .ref 2 0 _, [some (curO code i' h'), none, some (.arr 3 (nodeRows (l ++ (Tr.two (5 + x) t t2).enc l.length)))], ⟨rfl, And.intro (And.intro (.inl rfl) (And.intro (.inl rfl) (And.intro (.inl rfl) trivial))) (And.intro (And.intro rfl (congrArg nodeRows enc_two)) trivial)⟩, congrArg (AV.ref _ 0) (congrArg List.length enc_two), rfl, hq (Tr.two (5 + x) t t2) i' h' (⟨by omega, ht1, hs1⟩) (by simp only [Tr.size]; omega) (by omega)⟩
    | exact ⟨[some 0, none, some 4], .ref 2 0 _, [some (curO code i' h'), none, some (.arr 3 (nodeRows (l ++ (Tr.two (5 + x) t t2).enc l.length)))], ⟨rfl, And.intro (And.intro (.inl rfl) (And.intro (.inl rfl) (And.intro (.inl rfl) trivial))) (And.intro (And.intro rfl (congrArg nodeRows enc_two)) trivial)⟩, congrArg (AV.ref _ 0) (congrArg List.length enc_two), rfl, hq (Tr.two (5 + x) t t2) i' h' (⟨by omega, ht1, hs1⟩) (by simp only [Tr.size]; omega) (by omega)⟩
    | exact ⟨[some 0, none, some 5], .ref 2 0 _, [some (curO code i' h'), none, some (.arr 3 (nodeRows (l ++ (Tr.two (5 + x) t t2).enc l.length)))], ⟨rfl, And.intro (And.intro (.inl rfl) (And.intro (.inl rfl) (And.intro (.inl rfl) trivial))) (And.intro (And.intro rfl (congrArg nodeRows enc_two)) trivial)⟩, congrArg (AV.ref _ 0) (congrArg List.length enc_two), rfl, hq (Tr.two (5 + x) t t2) i' h' (⟨by omega, ht1, hs1⟩) (by simp only [Tr.size]; omega) (by omega)⟩
    | exact ⟨[some 0, none, some 6], .ref 2 0 _, [some (curO code i' h'), none, some (.arr 3 (nodeRows (l ++ (Tr.two (5 + x) t t2).enc l.length)))], ⟨rfl, And.intro (And.intro (.inl rfl) (And.intro (.inl rfl) (And.intro (.inl rfl) trivial))) (And.intro (And.intro rfl (congrArg nodeRows enc_two)) trivial)⟩, congrArg (AV.ref _ 0) (congrArg List.length enc_two), rfl, hq (Tr.two (5 + x) t t2) i' h' (⟨by omega, ht1, hs1⟩) (by simp only [Tr.size]; omega) (by omega)⟩
    | exact ⟨[some 0, none, some 7], .ref 2 0 _, [some (curO code i' h'), none, some (.arr 3 (nodeRows (l ++ (Tr.two (5 + x) t t2).enc l.length)))], ⟨rfl, And.intro (And.intro (.inl rfl) (And.intro (.inl rfl) (And.intro (.inl rfl) trivial))) (And.intro (And.intro rfl (congrArg nodeRows enc_two)) trivial)⟩, congrArg (AV.ref _ 0) (congrArg List.length enc_two), rfl, hq (Tr.two (5 + x) t t2) i' h' (⟨by omega, ht1, hs1⟩) (by simp only [Tr.size]; omega) (by omega)⟩
    | exact ⟨[some 0, none, some 2], .ref 2 0 _, [some (curO code i' h'), none, some (.arr 3 (nodeRows (l ++ (Tr.two (8 + x) t t2).enc l.length)))], ⟨rfl, And.intro (And.intro (.inl rfl) (And.intro (.inl rfl) (And.intro (.inl rfl) trivial))) (And.intro (And.intro rfl (congrArg nodeRows enc_two)) trivial)⟩, congrArg (AV.ref _ 0) (congrArg List.length enc_two), rfl, hq (Tr.two (8 + x) t t2) i' h' (⟨by omega, ht1, hs1⟩) (by simp only [Tr.size]; omega) (by omega)⟩
    | exact ⟨[some 0, none, some 3], .ref 2 0 _, [some (curO code i' h'), none, some (.arr 3 (nodeRows (l ++ (Tr.two (8 + x) t t2).enc l.length)))], ⟨rfl, And.intro (And.intro (.inl rfl) (And.intro (.inl rfl) (And.intro (.inl rfl) trivial))) (And.intro (And.intro rfl (congrArg nodeRows enc_two)) trivial)⟩, congrArg (AV.ref _ 0) (congrArg List.length enc_two), rfl, hq (Tr.two (8 + x) t t2) i' h' (⟨by omega, ht1, hs1⟩) (by simp only [Tr.size]; omega) (by omega)⟩
    | exact ⟨[some 0, none, some 4], .ref 2 0 _, [some (curO code i' h'), none, some (.arr 3 (nodeRows (l ++ (Tr.two (8 + x) t t2).enc l.length)))], ⟨rfl, And.intro (And.intro (.inl rfl) (And.intro (.inl rfl) (And.intro (.inl rfl) trivial))) (And.intro (And.intro rfl (congrArg nodeRows enc_two)) trivial)⟩, congrArg (AV.ref _ 0) (congrArg List.length enc_two), rfl, hq (Tr.two (8 + x) t t2) i' h' (⟨by omega, ht1, hs1⟩) (by simp only [Tr.size]; omega) (by omega)⟩
    | exact ⟨[some 0, none, some 5], .ref 2 0 _, [some (curO code i' h'), none, some (.arr 3 (nodeRows (l ++ (Tr.two (8 + x) t t2).enc l.length)))], ⟨rfl, And.intro (And.intro (.inl rfl) (And.intro (.inl rfl) (And.intro (.inl rfl) trivial))) (And.intro (And.intro rfl (congrArg nodeRows enc_two)) trivial)⟩, congrArg (AV.ref _ 0) (congrArg List.length enc_two), rfl, hq (Tr.two (8 + x) t t2) i' h' (⟨by omega, ht1, hs1⟩) (by simp only [Tr.size]; omega) (by omega)⟩
    | exact ⟨[some 0, none, some 6], .ref 2 0 _, [some (curO code i' h'), none, some (.arr 3 (nodeRows (l ++ (Tr.two (8 + x) t t2).enc l.length)))], ⟨rfl, And.intro (And.intro (.inl rfl) (And.intro (.inl rfl) (And.intro (.inl rfl) trivial))) (And.intro (And.intro rfl (congrArg nodeRows enc_two)) trivial)⟩, congrArg (AV.ref _ 0) (congrArg List.length enc_two), rfl, hq (Tr.two (8 + x) t t2) i' h' (⟨by omega, ht1, hs1⟩) (by simp only [Tr.size]; omega) (by omega)⟩
    | exact ⟨[some 0, none, some 7], .ref 2 0 _, [some (curO code i' h'), none, some (.arr 3 (nodeRows (l ++ (Tr.two (8 + x) t t2).enc l.length)))], ⟨rfl, And.intro (And.intro (.inl rfl) (And.intro (.inl rfl) (And.intro (.inl rfl) trivial))) (And.intro (And.intro rfl (congrArg nodeRows enc_two)) trivial)⟩, congrArg (AV.ref _ 0) (congrArg List.length enc_two), rfl, hq (Tr.two (8 + x) t t2) i' h' (⟨by omega, ht1, hs1⟩) (by simp only [Tr.size]; omega) (by omega)⟩

theorem s_spec_l8DrawTree : ∀ d, GenSound Try.prog 151 2 (GTree d)
  | 0 => s_tree_step (fun w own0 π objs xs vs Q hl hs hr ⟨d', hd, _⟩ => absurd hd (by omega))
  | d + 1 => s_tree_step (fun w own0 π objs xs vs Q hl hs hr ⟨d', hd, hg⟩ => by
    have : d' = d := by omega
    subst this
    exact s_spec_l8DrawTree d' w own0 π objs xs vs Q hl hs hr hg)

end Go.Proofs.Ytpfbkblgefddlaa.Ct

