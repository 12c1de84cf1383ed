/- Texts cut at a byte: strings.Cut, strings.Split, the reference's own. -/
import Derived.Test.YtpfbkblgefddlaaDoorCtO6
import Derived.Lib.Strings
import Derived.Lib.Slices
import Derived.Lib.Walk
import Derived.Lib.Bytealg
import Derived.Lib.IndexLaws
namespace Go.Proofs.YtpfbkblgefddlaaDoor.Ct
set_option linter.unusedSimpArgs false
set_option linter.unusedVariables false
open Go Go.Proofs Go.Proofs.YtpfbkblgefddlaaDoor.Av

set_option maxHeartbeats 1000000 in
set_option maxRecDepth 100000 in
/-- what the library's search for a byte gives -/
theorem indexByte_calls (s : ByteArray) (c : Int) (w : World) :
    Calls Tryd.prog 35 #[.string s, .int .u8 c] w fun e w' => e = .returned (.int .i64 (Lib.indexByte s.data.toList c.toNat.toUInt8)) ∧ w' = w := by
  go_enter Tryd.func35, Tryd.ntmps35
  go_wp2
  rw [run_callFunc_extern Tryd.func43 (by kernel_rfl) (by kernel_rfl) (by kernel_rfl) (e := Extern.BytealgIndexByte.indexByte) (by kernel_rfl), Lib.run_indexByteString]
  simp only [Result.andThen]
  rw [Oper.upon_value]
  go_wp2
  go_ret
  exact ⟨rfl, rfl⟩

set_option maxHeartbeats 1000000 in
set_option maxRecDepth 100000 in
/-- .. how often a byte is there -/
theorem count_calls (s : ByteArray) (c : UInt8) (w : World) :
    Calls Tryd.prog 25 #[.string s, .string ⟨#[c]⟩] w fun e w' => e = .returned (.int .i64 (Lib.countByte s.data.toList c)) ∧ w' = w := by
  go_enter Tryd.func25, Tryd.ntmps25
  go_wp2
  rw [run_callFunc_extern Tryd.func34 (by kernel_rfl) (by kernel_rfl) (by kernel_rfl) (e := Extern.BytealgCount.count) (by kernel_rfl), Lib.run_countString]
  simp only [Result.andThen]
  rw [Oper.upon_value]
  go_wp2
  go_ret
  exact ⟨rfl, rfl⟩

def c_internal_stringslite_IndexByte : ICode := (.seq (.reg [⟨(some 4), .mv, [(.c (.int .i64 0))], none⟩]) (.seq (.reg [⟨(some 5), .mv, [(.t 0)], none⟩, ⟨(some 6), .mv, [(.t 1)], none⟩, ⟨(some 7), (.call 43), [(.t 5), (.t 6)], none⟩, ⟨(some 4), .mv, [(.t 7)], none⟩]) .ret))
theorem b_internal_stringslite_IndexByte : Body Tryd.prog 35 8 c_internal_stringslite_IndexByte [(.t 4)] := body_mk Tryd.func35 (by kernel_rfl) (by decide)

def c_internal_stringslite_Index : ICode := (.seq (.reg [⟨(some 4), .mv, [(.c (.int .i64 0))], none⟩]) (.seq (.reg [⟨(some 14), .mv, [(.t 1)], none⟩, ⟨(some 15), .lens, [(.t 14)], none⟩, ⟨(some 5), .mv, [(.t 15)], none⟩]) (.seq (.block 0 (.seq (.reg [⟨(some 17), .mv, [(.t 5)], none⟩, ⟨(some 18), (.bin .eql), [(.t 17), (.c (.int .i64 0))], none⟩, ⟨(some 19), .mv, [(.t 18)], none⟩, ⟨(some 20), .mv, [(.t 1)], (some (19, false))⟩, ⟨(some 21), .mv, [(.t 0)], (some (19, false))⟩, ⟨(some 22), (.bin .eql), [(.t 20), (.t 21)], (some (19, false))⟩, ⟨(some 23), .pick, [(.t 19), (.c (.bool true)), (.t 22)], none⟩, ⟨(some 16), .mv, [(.t 23)], none⟩]) (.cond (.t 16) (.seq (.reg [⟨(some 4), .mv, [(.c (.int .i64 0))], none⟩]) .ret) (.seq (.reg [⟨(some 25), .mv, [(.t 5)], none⟩, ⟨(some 26), (.bin .eql), [(.t 25), (.c (.int .i64 1))], none⟩, ⟨(some 24), .mv, [(.t 26)], none⟩]) (.cond (.t 24) (.seq (.reg [⟨(some 27), .mv, [(.t 0)], none⟩, ⟨(some 28), .mv, [(.t 1)], none⟩, ⟨(some 29), .idx, [(.t 28), (.c (.int .i64 0))], none⟩, ⟨(some 30), (.call 35), [(.t 27), (.t 29)], none⟩, ⟨(some 4), .mv, [(.t 30)], none⟩]) .ret) (.seq (.reg [⟨(some 32), .mv, [(.t 5)], none⟩, ⟨(some 33), .mv, [(.t 0)], none⟩, ⟨(some 34), .lens, [(.t 33)], none⟩, ⟨(some 35), (.bin .geq), [(.t 32), (.t 34)], none⟩, ⟨(some 31), .mv, [(.t 35)], none⟩]) (.cond (.t 31) (.seq (.reg [⟨(some 4), .mv, [(.c (.int .i64 (-1)))], none⟩]) .ret) (.seq (.reg [⟨(some 37), .mv, [(.t 5)], none⟩, ⟨(some 38), .no, [], none⟩, ⟨(some 39), (.bin .leq), [(.t 37), (.t 38)], none⟩, ⟨(some 40), .mv, [(.t 39)], none⟩, ⟨(some 41), .mv, [(.t 0)], (some (40, true))⟩, ⟨(some 42), .lens, [(.t 41)], (some (40, true))⟩, ⟨(some 43), (.bin .leq), [(.t 42), (.c (.int .i64 64))], (some (40, true))⟩, ⟨(some 44), .pick, [(.t 40), (.t 43), (.c (.bool false))], none⟩, ⟨(some 36), .mv, [(.t 44)], none⟩]) (.cond (.t 36) (.seq (.reg [⟨(some 45), .mv, [(.t 0)], none⟩, ⟨(some 46), .mv, [(.t 1)], none⟩, ⟨(some 47), (.call 36), [(.t 45), (.t 46)], none⟩, ⟨(some 4), .mv, [(.t 47)], none⟩]) .ret) .skip))))))))) (.seq (.reg [⟨(some 48), .mv, [(.t 1)], none⟩, ⟨(some 49), .idx, [(.t 48), (.c (.int .i64 0))], none⟩, ⟨(some 6), .mv, [(.t 49)], none⟩]) (.seq (.reg [⟨(some 50), .mv, [(.t 1)], none⟩, ⟨(some 51), .idx, [(.t 50), (.c (.int .i64 1))], none⟩, ⟨(some 7), .mv, [(.t 51)], none⟩]) (.seq (.reg [⟨(some 8), .mv, [(.c (.int .i64 0))], none⟩]) (.seq (.reg [⟨(some 52), .mv, [(.t 0)], none⟩, ⟨(some 53), .lens, [(.t 52)], none⟩, ⟨(some 54), .mv, [(.t 5)], none⟩, ⟨(some 55), (.bin .sub), [(.t 53), (.t 54)], none⟩, ⟨(some 56), (.bin .add), [(.t 55), (.c (.int .i64 1))], none⟩, ⟨(some 9), .mv, [(.t 56)], none⟩]) (.seq (.reg [⟨(some 10), .mv, [(.c (.int .i64 0))], none⟩]) (.seq (.block 1 (.loop (.seq (.seq (.reg [⟨(some 57), .mv, [(.t 8)], none⟩, ⟨(some 58), .mv, [(.t 9)], none⟩, ⟨(some 59), (.bin .lss), [(.t 57), (.t 58)], none⟩]) (.cond (.t 59) .skip (.exit 1))) (.block 2 (.seq (.seq (.reg [⟨(some 60), .mv, [(.t 0)], none⟩, ⟨(some 61), .mv, [(.t 8)], none⟩, ⟨(some 62), .idx, [(.t 60), (.t 61)], none⟩, ⟨(some 63), .mv, [(.t 6)], none⟩, ⟨(some 64), (.bin .neq), [(.t 62), (.t 63)], none⟩]) (.cond (.t 64) (.seq (.reg [⟨(some 65), .mv, [(.t 0)], none⟩, ⟨(some 66), .mv, [(.t 8)], none⟩, ⟨(some 67), (.bin .add), [(.t 66), (.c (.int .i64 1))], none⟩, ⟨(some 68), .mv, [(.t 9)], none⟩, ⟨(some 69), (.sls true true), [(.t 65), (.t 67), (.t 68)], none⟩, ⟨(some 70), .mv, [(.t 6)], none⟩, ⟨(some 71), (.call 35), [(.t 69), (.t 70)], none⟩, ⟨(some 11), .mv, [(.t 71)], none⟩]) (.seq (.seq (.reg [⟨(some 72), .mv, [(.t 11)], none⟩, ⟨(some 73), (.bin .lss), [(.t 72), (.c (.int .i64 0))], none⟩]) (.cond (.t 73) (.seq (.reg [⟨(some 4), .mv, [(.c (.int .i64 (-1)))], none⟩]) .ret) .skip)) (.reg [⟨(some 74), .mv, [(.t 8)], none⟩, ⟨(some 75), .mv, [(.t 11)], none⟩, ⟨(some 76), (.bin .add), [(.t 75), (.c (.int .i64 1))], none⟩, ⟨(some 77), (.bin .add), [(.t 74), (.t 76)], none⟩, ⟨(some 8), .mv, [(.t 77)], none⟩]))) .skip)) (.seq (.seq (.reg [⟨(some 78), .mv, [(.t 0)], none⟩, ⟨(some 79), .mv, [(.t 8)], none⟩, ⟨(some 80), (.bin .add), [(.t 79), (.c (.int .i64 1))], none⟩, ⟨(some 81), .idx, [(.t 78), (.t 80)], none⟩, ⟨(some 82), .mv, [(.t 7)], none⟩, ⟨(some 83), (.bin .eql), [(.t 81), (.t 82)], none⟩, ⟨(some 84), .mv, [(.t 83)], none⟩, ⟨(some 85), .mv, [(.t 0)], (some (84, true))⟩, ⟨(some 86), .mv, [(.t 8)], (some (84, true))⟩, ⟨(some 87), .mv, [(.t 8)], (some (84, true))⟩, ⟨(some 88), .mv, [(.t 5)], (some (84, true))⟩, ⟨(some 89), (.bin .add), [(.t 87), (.t 88)], (some (84, true))⟩, ⟨(some 90), (.sls true true), [(.t 85), (.t 86), (.t 89)], (some (84, true))⟩, ⟨(some 91), .mv, [(.t 1)], (some (84, true))⟩, ⟨(some 92), (.bin .eql), [(.t 90), (.t 91)], (some (84, true))⟩, ⟨(some 93), .pick, [(.t 84), (.t 92), (.c (.bool false))], none⟩]) (.cond (.t 93) (.seq (.reg [⟨(some 94), .mv, [(.t 8)], none⟩, ⟨(some 4), .mv, [(.t 94)], none⟩]) .ret) .skip)) (.seq (.reg [⟨(some 95), .mv, [(.t 8)], none⟩, ⟨(some 96), (.bin .add), [(.t 95), (.c (.int .i64 1))], none⟩, ⟨(some 8), .mv, [(.t 96)], none⟩]) (.seq (.reg [⟨(some 97), .mv, [(.t 10)], none⟩, ⟨(some 98), (.bin .add), [(.t 97), (.c (.int .i64 1))], none⟩, ⟨(some 10), .mv, [(.t 98)], none⟩]) (.seq (.reg [⟨(some 99), .mv, [(.t 5)], none⟩, ⟨(some 100), .no, [], none⟩, ⟨(some 101), (.bin .leq), [(.t 99), (.t 100)], none⟩, ⟨(some 102), .mv, [(.t 101)], none⟩, ⟨(some 103), .mv, [(.t 10)], (some (102, true))⟩, ⟨(some 104), .mv, [(.t 8)], (some (102, true))⟩, ⟨(some 105), (.call 37), [(.t 104)], (some (102, true))⟩, ⟨(some 106), (.bin .gtr), [(.t 103), (.t 105)], (some (102, true))⟩, ⟨(some 107), .pick, [(.t 102), (.t 106), (.c (.bool false))], none⟩]) (.cond (.t 107) (.seq (.reg [⟨(some 108), .mv, [(.t 0)], none⟩, ⟨(some 109), .mv, [(.t 8)], none⟩, ⟨(some 110), (.sls true false), [(.t 108), (.t 109)], none⟩, ⟨(some 111), .mv, [(.t 1)], none⟩, ⟨(some 112), (.call 36), [(.t 110), (.t 111)], none⟩, ⟨(some 12), .mv, [(.t 112)], none⟩]) (.seq (.seq (.reg [⟨(some 113), .mv, [(.t 12)], none⟩, ⟨(some 114), (.bin .geq), [(.t 113), (.c (.int .i64 0))], none⟩]) (.cond (.t 114) (.seq (.reg [⟨(some 115), .mv, [(.t 12)], none⟩, ⟨(some 116), .mv, [(.t 8)], none⟩, ⟨(some 117), (.bin .add), [(.t 115), (.t 116)], none⟩, ⟨(some 4), .mv, [(.t 117)], none⟩]) .ret) .skip)) (.seq (.reg [⟨(some 4), .mv, [(.c (.int .i64 (-1)))], none⟩]) .ret))) (.seq (.reg [⟨(some 118), .mv, [(.t 5)], none⟩, ⟨(some 119), .no, [], none⟩, ⟨(some 120), (.bin .gtr), [(.t 118), (.t 119)], none⟩, ⟨(some 121), .mv, [(.t 120)], none⟩, ⟨(some 122), .mv, [(.t 10)], (some (121, true))⟩, ⟨(some 123), .mv, [(.t 8)], (some (121, true))⟩, ⟨(some 124), (.bin .shr), [(.t 123), (.c (.int .u64 4))], (some (121, true))⟩, ⟨(some 125), (.bin .add), [(.c (.int .i64 4)), (.t 124)], (some (121, true))⟩, ⟨(some 126), (.bin .geq), [(.t 122), (.t 125)], (some (121, true))⟩, ⟨(some 127), .pick, [(.t 121), (.t 126), (.c (.bool false))], none⟩, ⟨(some 128), .mv, [(.t 127)], none⟩, ⟨(some 129), .mv, [(.t 8)], (some (128, true))⟩, ⟨(some 130), .mv, [(.t 9)], (some (128, true))⟩, ⟨(some 131), (.bin .lss), [(.t 129), (.t 130)], (some (128, true))⟩, ⟨(some 132), .pick, [(.t 128), (.t 131), (.c (.bool false))], none⟩]) (.cond (.t 132) (.seq (.reg [⟨(some 133), .mv, [(.t 0)], none⟩, ⟨(some 134), .mv, [(.t 8)], none⟩, ⟨(some 135), (.sls true false), [(.t 133), (.t 134)], none⟩, ⟨(some 136), .mv, [(.t 1)], none⟩, ⟨(some 137), (.call 38), [(.t 135), (.t 136)], none⟩, ⟨(some 13), .mv, [(.t 137)], none⟩]) (.seq (.seq (.reg [⟨(some 138), .mv, [(.t 13)], none⟩, ⟨(some 139), (.bin .lss), [(.t 138), (.c (.int .i64 0))], none⟩]) (.cond (.t 139) (.seq (.reg [⟨(some 4), .mv, [(.c (.int .i64 (-1)))], none⟩]) .ret) .skip)) (.seq (.reg [⟨(some 140), .mv, [(.t 8)], none⟩, ⟨(some 141), .mv, [(.t 13)], none⟩, ⟨(some 142), (.bin .add), [(.t 140), (.t 141)], none⟩, ⟨(some 4), .mv, [(.t 142)], none⟩]) .ret))) .skip)))))))))))) (.seq (.reg [⟨(some 4), .mv, [(.c (.int .i64 (-1)))], none⟩]) .ret))))))))))
theorem b_internal_stringslite_Index : Body Tryd.prog 27 143 c_internal_stringslite_Index [(.t 4)] := body_mk Tryd.func27 (by kernel_rfl) (by decide)

def c_internal_stringslite_Cut : ICode := (.seq (.reg [⟨(some 4), .mv, [(.c (.str []))], none⟩, ⟨(some 5), .mv, [(.c (.str []))], none⟩, ⟨(some 6), .mv, [(.c (.bool false))], none⟩]) (.seq (.seq (.reg [⟨(some 8), .mv, [(.t 0)], none⟩, ⟨(some 9), .mv, [(.t 1)], none⟩, ⟨(some 10), (.call 27), [(.t 8), (.t 9)], none⟩, ⟨(some 7), .mv, [(.t 10)], none⟩]) (.seq (.reg [⟨(some 11), .mv, [(.t 7)], none⟩, ⟨(some 12), (.bin .geq), [(.t 11), (.c (.int .i64 0))], none⟩]) (.cond (.t 12) (.seq (.drw [⟨(some 13), .mv, [(.t 0)], none⟩, ⟨(some 14), .mv, [(.t 7)], none⟩, ⟨(some 15), (.sls false true), [(.t 13), (.t 14)], none⟩, ⟨(some 16), .mv, [(.t 0)], none⟩, ⟨(some 17), .mv, [(.t 7)], none⟩, ⟨(some 18), .mv, [(.t 1)], none⟩, ⟨(some 19), .lens, [(.t 18)], none⟩, ⟨(some 20), (.bin .add), [(.t 17), (.t 19)], none⟩, ⟨(some 21), (.sls true false), [(.t 16), (.t 20)], none⟩, ⟨(some 4), .mv, [(.t 15)], none⟩, ⟨(some 5), .mv, [(.t 21)], none⟩, ⟨(some 6), .mv, [(.c (.bool true))], none⟩] [[], [], [0, 1], [], [], [], [5], [4, 5, 6], [3, 4, 5, 6, 7], [0, 1, 2], [0, 1, 2, 3, 4, 5, 6, 7, 8, 9], [0, 1, 2, 3, 4, 5, 6, 7, 8, 9, 10]] true true) .ret) .skip))) (.seq (.reg [⟨(some 22), .mv, [(.t 0)], none⟩, ⟨(some 4), .mv, [(.t 22)], none⟩, ⟨(some 5), .mv, [(.c (.str []))], none⟩, ⟨(some 6), .mv, [(.c (.bool false))], none⟩]) .ret)))
theorem b_internal_stringslite_Cut : Body Tryd.prog 19 23 c_internal_stringslite_Cut [(.t 4), (.t 5), (.t 6)] := body_mk Tryd.func19 (by kernel_rfl) (by decide)

def c_strings_Cut : ICode := (.seq (.reg [⟨(some 4), .mv, [(.c (.str []))], none⟩, ⟨(some 5), .mv, [(.c (.str []))], none⟩, ⟨(some 6), .mv, [(.c (.bool false))], none⟩]) (.seq (.reg [⟨(some 7), .mv, [(.t 0)], none⟩, ⟨(some 8), .mv, [(.t 1)], none⟩, ⟨(some 9), (.call 19), [(.t 7), (.t 8)], none⟩, ⟨(some 10), (.ext 0), [(.t 9)], none⟩, ⟨(some 11), (.ext 1), [(.t 9)], none⟩, ⟨(some 12), (.ext 2), [(.t 9)], none⟩, ⟨(some 4), .mv, [(.t 10)], none⟩, ⟨(some 5), .mv, [(.t 11)], none⟩, ⟨(some 6), .mv, [(.t 12)], none⟩]) .ret))
theorem b_strings_Cut : Body Tryd.prog 12 13 c_strings_Cut [(.t 4), (.t 5), (.t 6)] := body_mk Tryd.func12 (by kernel_rfl) (by decide)

def c_strings_Index : ICode := (.seq (.reg [⟨(some 4), .mv, [(.c (.int .i64 0))], none⟩]) (.seq (.reg [⟨(some 5), .mv, [(.t 0)], none⟩, ⟨(some 6), .mv, [(.t 1)], none⟩, ⟨(some 7), (.call 27), [(.t 5), (.t 6)], none⟩, ⟨(some 4), .mv, [(.t 7)], none⟩]) .ret))
theorem b_strings_Index : Body Tryd.prog 26 8 c_strings_Index [(.t 4)] := body_mk Tryd.func26 (by kernel_rfl) (by decide)

def c_strings_Count : ICode := (.seq (.reg [⟨(some 4), .mv, [(.c (.int .i64 0))], none⟩]) (.seq (.seq (.reg [⟨(some 7), .mv, [(.t 1)], none⟩, ⟨(some 8), .lens, [(.t 7)], none⟩, ⟨(some 9), (.bin .eql), [(.t 8), (.c (.int .i64 0))], none⟩]) (.cond (.t 9) (.seq (.reg [⟨(some 10), .mv, [(.t 0)], none⟩, ⟨(some 11), (.call 32), [(.t 10)], none⟩, ⟨(some 12), (.bin .add), [(.t 11), (.c (.int .i64 1))], none⟩, ⟨(some 4), .mv, [(.t 12)], none⟩]) .ret) .skip)) (.seq (.seq (.reg [⟨(some 13), .mv, [(.t 1)], none⟩, ⟨(some 14), .lens, [(.t 13)], none⟩, ⟨(some 15), (.bin .eql), [(.t 14), (.c (.int .i64 1))], none⟩]) (.cond (.t 15) (.seq (.reg [⟨(some 16), .mv, [(.t 0)], none⟩, ⟨(some 17), .mv, [(.t 1)], none⟩, ⟨(some 18), .idx, [(.t 17), (.c (.int .i64 0))], none⟩, ⟨(some 19), (.call 34), [(.t 16), (.t 18)], none⟩, ⟨(some 4), .mv, [(.t 19)], none⟩]) .ret) .skip)) (.seq (.reg [⟨(some 5), .mv, [(.c (.int .i64 0))], none⟩]) (.block 0 (.loop (.block 1 (.seq (.reg [⟨(some 20), .mv, [(.t 0)], none⟩, ⟨(some 21), .mv, [(.t 1)], none⟩, ⟨(some 22), (.call 26), [(.t 20), (.t 21)], none⟩, ⟨(some 6), .mv, [(.t 22)], none⟩]) (.seq (.seq (.reg [⟨(some 23), .mv, [(.t 6)], none⟩, ⟨(some 24), (.bin .eql), [(.t 23), (.c (.int .i64 (-1)))], none⟩]) (.cond (.t 24) (.seq (.reg [⟨(some 25), .mv, [(.t 5)], none⟩, ⟨(some 4), .mv, [(.t 25)], none⟩]) .ret) .skip)) (.seq (.reg [⟨(some 26), .mv, [(.t 5)], none⟩, ⟨(some 27), (.bin .add), [(.t 26), (.c (.int .i64 1))], none⟩, ⟨(some 5), .mv, [(.t 27)], none⟩]) (.reg [⟨(some 28), .mv, [(.t 0)], none⟩, ⟨(some 29), .mv, [(.t 6)], none⟩, ⟨(some 30), .mv, [(.t 1)], none⟩, ⟨(some 31), .lens, [(.t 30)], none⟩, ⟨(some 32), (.bin .add), [(.t 29), (.t 31)], none⟩, ⟨(some 33), (.sls true false), [(.t 28), (.t 32)], none⟩, ⟨(some 0), .mv, [(.t 33)], none⟩])))))))))))
theorem b_strings_Count : Body Tryd.prog 25 34 c_strings_Count [(.t 4)] := body_mk Tryd.func25 (by kernel_rfl) (by decide)

def c_strings_genSplit : ICode := (.seq (.reg [⟨(some 8), .mv, [(.c .snil)], none⟩]) (.seq (.seq (.reg [⟨(some 12), .mv, [(.t 3)], none⟩, ⟨(some 13), (.bin .eql), [(.t 12), (.c (.int .i64 0))], none⟩]) (.cond (.t 13) (.seq (.reg [⟨(some 8), .mv, [(.c .snil)], none⟩]) .ret) .skip)) (.seq (.seq (.reg [⟨(some 14), .mv, [(.t 1)], none⟩, ⟨(some 15), (.bin .eql), [(.t 14), (.c (.str []))], none⟩]) (.cond (.t 15) (.seq (.reg [⟨(some 16), .mv, [(.t 0)], none⟩, ⟨(some 17), .mv, [(.t 3)], none⟩, ⟨(some 18), (.call 24), [(.t 16), (.t 17)], none⟩, ⟨(some 8), .mv, [(.t 18)], none⟩]) .ret) .skip)) (.seq (.seq (.reg [⟨(some 19), .mv, [(.t 3)], none⟩, ⟨(some 20), (.bin .lss), [(.t 19), (.c (.int .i64 0))], none⟩]) (.cond (.t 20) (.reg [⟨(some 21), .mv, [(.t 0)], none⟩, ⟨(some 22), .mv, [(.t 1)], none⟩, ⟨(some 23), (.call 25), [(.t 21), (.t 22)], none⟩, ⟨(some 24), (.bin .add), [(.t 23), (.c (.int .i64 1))], none⟩, ⟨(some 3), .mv, [(.t 24)], none⟩]) .skip)) (.seq (.reg [⟨(some 25), .mv, [(.t 3)], none⟩, ⟨(some 26), .mv, [(.t 0)], none⟩, ⟨(some 27), .lens, [(.t 26)], none⟩, ⟨(some 28), (.bin .add), [(.t 27), (.c (.int .i64 1))], none⟩, ⟨(some 29), .min, [(.t 25), (.t 28)], none⟩, ⟨(some 3), .mv, [(.t 29)], none⟩]) (.seq (.reg [⟨(some 30), .mv, [(.t 3)], none⟩, ⟨(some 31), (.mks 1 16 [(.str [])]), [(.t 30), (.t 30)], none⟩, ⟨(some 9), .mv, [(.t 31)], none⟩]) (.seq (.reg [⟨(some 32), .mv, [(.t 3)], none⟩, ⟨(some 33), (.bin .sub), [(.t 32), (.c (.int .i64 1))], none⟩, ⟨(some 3), .mv, [(.t 33)], none⟩]) (.seq (.reg [⟨(some 10), .mv, [(.c (.int .i64 0))], none⟩]) (.seq (.block 0 (.loop (.seq (.seq (.reg [⟨(some 34), .mv, [(.t 10)], none⟩, ⟨(some 35), .mv, [(.t 3)], none⟩, ⟨(some 36), (.bin .lss), [(.t 34), (.t 35)], none⟩]) (.cond (.t 36) .skip (.exit 0))) (.block 1 (.seq (.reg [⟨(some 37), .mv, [(.t 0)], none⟩, ⟨(some 38), .mv, [(.t 1)], none⟩, ⟨(some 39), (.call 26), [(.t 37), (.t 38)], none⟩, ⟨(some 11), .mv, [(.t 39)], none⟩]) (.seq (.seq (.reg [⟨(some 40), .mv, [(.t 11)], none⟩, ⟨(some 41), (.bin .lss), [(.t 40), (.c (.int .i64 0))], none⟩]) (.cond (.t 41) (.exit 0) .skip)) (.seq (.reg [⟨(some 42), .mv, [(.t 9)], none⟩, ⟨(some 43), .mv, [(.t 10)], none⟩, ⟨(some 44), .mv, [(.t 0)], none⟩, ⟨(some 45), .mv, [(.t 11)], none⟩, ⟨(some 46), .mv, [(.t 2)], none⟩, ⟨(some 47), (.bin .add), [(.t 45), (.t 46)], none⟩, ⟨(some 48), (.sls false true), [(.t 44), (.t 47)], none⟩, ⟨(some 49), (.iadr 1), [(.t 42), (.t 43)], none⟩, ⟨none, (.st 1), [(.t 49), (.t 48)], none⟩]) (.seq (.reg [⟨(some 50), .mv, [(.t 0)], none⟩, ⟨(some 51), .mv, [(.t 11)], none⟩, ⟨(some 52), .mv, [(.t 1)], none⟩, ⟨(some 53), .lens, [(.t 52)], none⟩, ⟨(some 54), (.bin .add), [(.t 51), (.t 53)], none⟩, ⟨(some 55), (.sls true false), [(.t 50), (.t 54)], none⟩, ⟨(some 0), .mv, [(.t 55)], none⟩]) (.reg [⟨(some 56), .mv, [(.t 10)], none⟩, ⟨(some 57), (.bin .add), [(.t 56), (.c (.int .i64 1))], none⟩, ⟨(some 10), .mv, [(.t 57)], none⟩]))))))))) (.seq (.reg [⟨(some 58), .mv, [(.t 9)], none⟩, ⟨(some 59), .mv, [(.t 10)], none⟩, ⟨(some 60), .mv, [(.t 0)], none⟩, ⟨(some 61), (.iadr 1), [(.t 58), (.t 59)], none⟩, ⟨none, (.st 1), [(.t 61), (.t 60)], none⟩]) (.seq (.reg [⟨(some 62), .mv, [(.t 9)], none⟩, ⟨(some 63), .mv, [(.t 10)], none⟩, ⟨(some 64), (.bin .add), [(.t 63), (.c (.int .i64 1))], none⟩, ⟨(some 65), (.slc 1 false true), [(.t 62), (.t 64)], none⟩, ⟨(some 8), .mv, [(.t 65)], none⟩]) .ret)))))))))))
theorem b_strings_genSplit : Body Tryd.prog 18 66 c_strings_genSplit [(.t 8)] := body_mk Tryd.func18 (by kernel_rfl) (by decide)

def c_strings_Split : ICode := (.seq (.reg [⟨(some 4), .mv, [(.c .snil)], none⟩]) (.seq (.reg [⟨(some 5), .mv, [(.t 0)], none⟩, ⟨(some 6), .mv, [(.t 1)], none⟩, ⟨(some 7), (.call 18), [(.t 5), (.t 6), (.c (.int .i64 0)), (.c (.int .i64 (-1)))], none⟩, ⟨(some 4), .mv, [(.t 7)], none⟩]) .ret))
theorem b_strings_Split : Body Tryd.prog 11 8 c_strings_Split [(.t 4)] := body_mk Tryd.func11 (by kernel_rfl) (by decide)

def c_spec_l12Cut : ICode := (.seq (.reg [⟨(some 4), .mv, [(.c .snil)], none⟩]) (.seq (.reg [⟨(some 8), .bsle, [], none⟩, ⟨(some 5), .mv, [(.t 8)], none⟩]) (.seq (.reg [⟨(some 6), .mv, [(.c (.int .i64 0))], none⟩]) (.seq (.seq (.reg [⟨(some 7), .mv, [(.c (.int .i64 0))], none⟩]) (.block 0 (.loop (.seq (.seq (.reg [⟨(some 9), .mv, [(.t 7)], none⟩, ⟨(some 10), .mv, [(.t 0)], none⟩, ⟨(some 11), .lens, [(.t 10)], none⟩, ⟨(some 12), (.bin .leq), [(.t 9), (.t 11)], none⟩]) (.cond (.t 12) .skip (.exit 0))) (.seq (.block 1 (.seq (.reg [⟨(some 15), .mv, [(.t 7)], none⟩, ⟨(some 16), .mv, [(.t 0)], none⟩, ⟨(some 17), .lens, [(.t 16)], none⟩, ⟨(some 18), (.bin .eql), [(.t 15), (.t 17)], none⟩, ⟨(some 19), .mv, [(.t 18)], none⟩, ⟨(some 20), .mv, [(.t 0)], (some (19, false))⟩, ⟨(some 21), .mv, [(.t 7)], (some (19, false))⟩, ⟨(some 22), .idx, [(.t 20), (.t 21)], (some (19, false))⟩, ⟨(some 23), .mv, [(.t 1)], (some (19, false))⟩, ⟨(some 24), (.bin .eql), [(.t 22), (.t 23)], (some (19, false))⟩, ⟨(some 25), .pick, [(.t 19), (.c (.bool true)), (.t 24)], none⟩]) (.cond (.t 25) (.seq (.reg [⟨(some 26), .mv, [(.t 5)], none⟩, ⟨(some 27), .mv, [(.t 0)], none⟩, ⟨(some 28), .mv, [(.t 6)], none⟩, ⟨(some 29), .mv, [(.t 7)], none⟩, ⟨(some 30), (.sls true true), [(.t 27), (.t 28), (.t 29)], none⟩, ⟨(some 31), (.bslv 1), [(.t 30)], none⟩, ⟨(some 32), (.app 1 16), [(.t 26), (.t 31)], none⟩, ⟨(some 5), .mv, [(.t 32)], none⟩]) (.reg [⟨(some 33), .mv, [(.t 7)], none⟩, ⟨(some 34), (.bin .add), [(.t 33), (.c (.int .i64 1))], none⟩, ⟨(some 6), .mv, [(.t 34)], none⟩])) .skip))) (.reg [⟨(some 13), .mv, [(.t 7)], none⟩, ⟨(some 14), (.bin .add), [(.t 13), (.c (.int .i64 1))], none⟩, ⟨(some 7), .mv, [(.t 14)], none⟩])))))) (.seq (.reg [⟨(some 35), .mv, [(.t 5)], none⟩, ⟨(some 4), .mv, [(.t 35)], none⟩]) .ret)))))
theorem b_spec_l12Cut : Body Tryd.prog 9 36 c_spec_l12Cut [(.t 4)] := body_mk Tryd.func9 (by kernel_rfl) (by decide)


/-- a contract of the library's, of a function that gives one cell and makes nothing -/
theorem pure_of_calls {P : Program} {f : Nat} {R : List AV → AV → List AObj → Prop}
    (H : ∀ (w : World) (own : Nat → Prop) xs (vs : Array Value) r objs, Rels w own noPl 0 xs vs.toList → R xs r objs → objs = [] ∧ ∃ v, (∀ (π : Pl) (own' : Nat → Prop), Rel w own' π 0 r v) ∧ Calls P f vs w fun e w' => e = .returned v ∧ w' = w) : PureSound P f R := by
  intro w own xs vs r objs hr hR
  obtain ⟨rfl, v, h1, h2⟩ := H w own xs vs r objs hr hR
  refine h2.mono ?_
  rintro e w' ⟨rfl, rfl⟩
  refine ⟨v, noPl, rfl, ⟨rfl, rfl, rfl, Nat.le_refl _, fun _ _ _ => rfl⟩, ⟨fun _ _ => rfl, fun id o ho => ?_, fun _ _ _ _ _ h => by simp [noPl] at h, fun _ _ _ h => by simp [noPl] at h, fun b hb => hb, fun b k h => by simp [noPl] at h⟩, h1 _ _⟩
  simp [objsH] at ho

def RIndexByte (xs : List AV) (r : AV) (objs : List AObj) : Prop := ∃ s c, xs = [.str s, .int .u8 c] ∧ r = .int .i64 (Lib.indexByte s c.toNat.toUInt8) ∧ objs = []
theorem RIndexByte_mk {s : List UInt8} {c : Int} : RIndexByte [.str s, .int .u8 c] (.int .i64 (Lib.indexByte s c.toNat.toUInt8)) [] := ⟨s, c, rfl, rfl, rfl⟩

theorem s_IndexByte : PureSound Tryd.prog 35 RIndexByte := by
  refine pure_of_calls ?_
  rintro w own xs vs r objs hr ⟨s, c, rfl, rfl, rfl⟩
  obtain ⟨hl, hr⟩ := hr
  obtain ⟨v0, h0⟩ := rels_at ⟨hl, hr⟩ (i := 0) rfl
  obtain ⟨v1, h1⟩ := rels_at ⟨hl, hr⟩ (i := 1) rfl
  have e : vs = #[.string ⟨s.toArray⟩, .int .u8 c] := by
    obtain ⟨l⟩ := vs
    match l, hl, hr with
    | [a, b], _, hr =>
      have ha := hr 0 _ _ rfl rfl
      have hb := hr 1 _ _ rfl rfl
      cases ha
      cases hb
      rfl
  subst e
  refine ⟨rfl, .int .i64 (Lib.indexByte s c.toNat.toUInt8), fun _ _ => .int _ _, ?_⟩
  have := indexByte_calls ⟨s.toArray⟩ c w
  simpa using this

/-- Index of one byte -/
def RIndex1 (xs : List AV) (r : AV) (objs : List AObj) : Prop := ∃ s c, xs = [.str s, .str [c]] ∧ r = .int .i64 (Lib.indexByte s c) ∧ objs = []
theorem RIndex1_mk {s : List UInt8} {c : UInt8} : RIndex1 [.str s, .str [c]] (.int .i64 (Lib.indexByte s c)) [] := ⟨s, c, rfl, rfl, rfl⟩

theorem s_Index : PureSound Tryd.prog 27 RIndex1 := by
  have hR : Rely Tryd.prog (ctxOf [(35, .pure RIndexByte)]) := rely_cons b_internal_stringslite_IndexByte.has s_IndexByte (rely_nil mixed)
  refine pure_of_aw b_internal_stringslite_Index ?_
  rintro xs r objs ⟨s, c, rfl, rfl, rfl⟩ -
  refine ⟨by simp, vc2_sound hR _ _ _ _ _ ?_⟩
  conv => whnf
  repeat' ((first
    | contradiction
    | (refine And.intro (fun hb => ?_) (fun hb => ?_) <;> first | contradiction | ((try simp only [SB, reduceCtorEq] at hb); try (exfalso; first | contradiction | omega)))
    | refine And.intro rfl ?_
    | refine ⟨_, IntWalk.i64_in _ (by omega), ?_⟩
    | rw [ints_at (by omega)]
    | rw [ints_at0 (by omega)]
    | rw [ints_at' (by omega) (by omega)]
    | refine And.intro (lens_all rfl) ?_
    | refine And.intro (show _ ≤ _ ∧ (_ + 1) * _ ≤ _ ∧ _ + 1 ≤ _ by first | omega | (simp; omega)) ?_
    | refine And.intro (show 1 * _ ≤ _ ∧ 1 ≤ _ by omega) ?_
    | refine And.intro (by first | omega | (simp; omega) | (show _ ∧ _; simp; done)) ?_
    | refine ⟨_, _, RIndexByte_mk, ?_⟩
    | fail) <;> conv => whnf)
  · refine ⟨.inl rfl, ?_⟩
    conv => whnf
    refine ⟨[], ⟨rfl, trivial⟩, ?_, rfl, rfl⟩
    conv => whnf
    left
    conv => lhs; whnf
    refine congrArg (AV.int .i64) ?_
    have hs : [c] = s := by assumption
    subst hs
    simp [Lib.indexByte]
  · refine ⟨.inl rfl, ?_⟩
    conv => whnf
    refine ⟨[], ⟨rfl, trivial⟩, ?_, rfl, rfl⟩
    conv => whnf
    left
    conv => lhs; whnf
    refine congrArg (AV.int .i64) ?_
    simp

/-- a text at its first sign c: what is ahead, what is behind, is there one -/
def cutAt (s : List UInt8) (c : UInt8) : List UInt8 × List UInt8 × Bool :=
  if Lib.indexByte s c < 0 then (s, [], false) else (s.take (Lib.indexByte s c).toNat, s.drop ((Lib.indexByte s c).toNat + 1), true)

theorem indexByte_lt {s : List UInt8} {c : UInt8} (h : 0 ≤ Lib.indexByte s c) : Lib.indexByte s c < s.length := by
  have := (Lib.indexByte_some (l := s) (c := c) (o := (Lib.indexByte s c).toNat) (by omega)).1
  have := (List.getElem?_eq_some_iff.1 this).1
  omega

def RCut (xs : List AV) (r : AV) (objs : List AObj) : Prop := ∃ s c, xs = [.str s, .str [c]] ∧ s.length ≤ 1048576 ∧ r = .tup [.str (cutAt s c).1, .str (cutAt s c).2.1, .bool (cutAt s c).2.2] ∧ objs = []
theorem RCut_mk {s : List UInt8} {c : UInt8} (h : s.length ≤ 1048576) : RCut [.str s, .str [c]] (.tup [.str (cutAt s c).1, .str (cutAt s c).2.1, .bool (cutAt s c).2.2]) [] := ⟨s, c, rfl, h, rfl, rfl⟩

theorem s_Cut0 : PureSound Tryd.prog 19 RCut := by
  have hR : Rely Tryd.prog (ctxOf [(27, .pure RIndex1)]) := rely_cons b_internal_stringslite_Index.has s_Index (rely_nil mixed)
  refine pure_of_aw b_internal_stringslite_Cut ?_
  rintro xs r objs ⟨s, c, rfl, hl, rfl, rfl⟩ -
  refine ⟨by simp, vc2_sound hR _ _ _ _ _ ?_⟩
  have hlt := indexByte_lt (s := s) (c := c)
  conv => whnf
  repeat' ((first
    | contradiction
    | (refine And.intro (fun hb => ?_) (fun hb => ?_) <;> first | contradiction | ((try simp only [SB, reduceCtorEq] at hb); try (exfalso; first | contradiction | omega)))
    | refine And.intro rfl ?_
    | refine ⟨_, IntWalk.i64_in _ (by omega), ?_⟩
    | rw [ints_at (by omega)]
    | rw [ints_at0 (by omega)]
    | rw [ints_at' (by omega) (by omega)]
    | refine And.intro (lens_all rfl) ?_
    | refine And.intro (show _ ≤ _ ∧ (_ + 1) * _ ≤ _ ∧ _ + 1 ≤ _ by first | omega | (simp; omega)) ?_
    | refine And.intro (show 1 * _ ≤ _ ∧ 1 ≤ _ by omega) ?_
    | refine And.intro (by first | omega | (simp; omega) | (show _ ∧ _; simp; done)) ?_
    | refine ⟨_, _, RIndex1_mk, ?_⟩
    | fail) <;> conv => whnf)
  · have hlt' := hlt hb
    have h1 : ([c] : List UInt8).length = 1 := rfl
    rw [h1]
    conv => whnf
    repeat' ((first
      | contradiction
      | (refine And.intro (fun hb => ?_) (fun hb => ?_) <;> first | contradiction | ((try simp only [SB, reduceCtorEq] at hb); try (exfalso; first | contradiction | omega)))
      | refine And.intro rfl ?_
      | refine ⟨_, IntWalk.i64_in _ (by omega), ?_⟩
      | rw [ints_at (by omega)]
      | rw [ints_at0 (by omega)]
      | rw [ints_at' (by omega) (by omega)]
      | refine And.intro (lens_all rfl) ?_
      | refine And.intro (show _ ≤ _ ∧ (_ + 1) * _ ≤ _ ∧ _ + 1 ≤ _ by first | omega | (simp; omega)) ?_
      | refine And.intro (show 1 * _ ≤ _ ∧ 1 ≤ _ by omega) ?_
      | refine And.intro (by first | omega | (simp; omega) | (show _ ∧ _; simp; done)) ?_
      | fail) <;> conv => whnf)
    have hn : ¬ (Lib.indexByte s c < 0) := by omega
    refine ⟨.inl rfl, ?_⟩
    conv => whnf
    refine ⟨[], ⟨rfl, trivial⟩, ?_, rfl, rfl⟩
    repeat' (first | exact trivial | refine And.intro ?_ ?_)
    all_goals
      conv => whnf
      left
      conv => lhs; whnf
    · refine congrArg AV.str ?_
      simp [cutAt, hn, sub]
    · refine congrArg AV.str ?_
      have e1 : (Lib.indexByte s c + 1).toNat = (Lib.indexByte s c).toNat + 1 := by omega
      have e2 : ((s.length : Int) - (Lib.indexByte s c + 1)).toNat = (s.drop ((Lib.indexByte s c).toNat + 1)).length := by simp; omega
      show sub s (Lib.indexByte s c + 1).toNat ((s.length : Int) - (Lib.indexByte s c + 1)).toNat = _
      rw [e1, e2, sub, List.take_length]
      simp [cutAt, hn]
    · refine congrArg AV.bool ?_
      simp [cutAt, hn]
  · refine ⟨.inl rfl, ?_⟩
    conv => whnf
    refine ⟨[], ⟨rfl, trivial⟩, ?_, rfl, rfl⟩
    repeat' (first | exact trivial | refine And.intro ?_ ?_)
    all_goals
      conv => whnf
      left
      conv => lhs; whnf
    all_goals simp [cutAt, hb]

theorem s_Cut : PureSound Tryd.prog 12 RCut := by
  have hR : Rely Tryd.prog (ctxOf [(19, .pure RCut)]) := rely_cons b_internal_stringslite_Cut.has s_Cut0 (rely_nil mixed)
  refine pure_of_aw b_strings_Cut ?_
  rintro xs r objs ⟨s, c, rfl, hl, rfl, rfl⟩ -
  refine ⟨by simp, vc2_sound hR _ _ _ _ _ ?_⟩
  conv => whnf
  repeat' ((first
    | contradiction
    | (refine And.intro (fun hb => ?_) (fun hb => ?_) <;> first | contradiction | ((try simp only [SB, reduceCtorEq] at hb); try (exfalso; first | contradiction | omega)))
    | refine And.intro rfl ?_
    | refine ⟨_, IntWalk.i64_in _ (by omega), ?_⟩
    | rw [ints_at (by omega)]
    | rw [ints_at0 (by omega)]
    | rw [ints_at' (by omega) (by omega)]
    | refine And.intro (lens_all rfl) ?_
    | refine And.intro (show _ ≤ _ ∧ (_ + 1) * _ ≤ _ ∧ _ + 1 ≤ _ by first | omega | (simp; omega)) ?_
    | refine And.intro (show 1 * _ ≤ _ ∧ 1 ≤ _ by omega) ?_
    | refine And.intro (by first | omega | (simp; omega) | (show _ ∧ _; simp; done)) ?_
    | refine ⟨_, _, RCut_mk hl, ?_⟩
    | fail) <;> conv => whnf)
  all_goals
    refine ⟨.inl rfl, ?_⟩
    conv => whnf
    refine ⟨[], ⟨rfl, trivial⟩, ?_, rfl, rfl⟩
    repeat' (first | exact trivial | refine And.intro ?_ ?_)
    all_goals
      conv => whnf
      left
      conv => lhs; whnf
    all_goals simp [hb]


def RCount1 (xs : List AV) (r : AV) (objs : List AObj) : Prop := ∃ (s : List UInt8) (c : UInt8), xs = [.str s, .str [c]] ∧ r = .int .i64 ((s.count c : Nat) : Int) ∧ objs = []
theorem RCount1_mk {s : List UInt8} {c : UInt8} : RCount1 [.str s, .str [c]] (.int .i64 ((s.count c : Nat) : Int)) [] := ⟨s, c, rfl, rfl, rfl⟩

theorem s_Count : PureSound Tryd.prog 25 RCount1 := by
  refine pure_of_calls ?_
  rintro w own xs vs r objs hr ⟨s, c, rfl, rfl, rfl⟩
  obtain ⟨hl, hr⟩ := hr
  have e : vs = #[.string ⟨s.toArray⟩, .string ⟨#[c]⟩] := by
    obtain ⟨l⟩ := vs
    match l, hl, hr with
    | [a, b], _, hr =>
      have ha := hr 0 _ _ rfl rfl
      have hb := hr 1 _ _ rfl rfl
      cases ha
      cases hb
      rfl
  subst e
  refine ⟨rfl, .int .i64 ((s.count c : Nat) : Int), fun _ _ => .int _ _, ?_⟩
  have := count_calls ⟨s.toArray⟩ c w
  simpa [Lib.countByte] using this

theorem s_Index1 : PureSound Tryd.prog 26 RIndex1 := by
  have hR : Rely Tryd.prog (ctxOf [(27, .pure RIndex1)]) := rely_cons b_internal_stringslite_Index.has s_Index (rely_nil mixed)
  refine pure_of_aw b_strings_Index ?_
  rintro xs r objs ⟨s, c, rfl, rfl, rfl⟩ -
  refine ⟨by simp, vc2_sound hR _ _ _ _ _ ?_⟩
  conv => whnf
  repeat' ((first
    | contradiction
    | (refine And.intro (fun hb => ?_) (fun hb => ?_) <;> first | contradiction | ((try simp only [SB, reduceCtorEq] at hb); try (exfalso; first | contradiction | omega)))
    | refine And.intro rfl ?_
    | refine ⟨_, IntWalk.i64_in _ (by omega), ?_⟩
    | rw [ints_at (by omega)]
    | rw [ints_at0 (by omega)]
    | rw [ints_at' (by omega) (by omega)]
    | refine And.intro (lens_all rfl) ?_
    | refine And.intro (show _ ≤ _ ∧ (_ + 1) * _ ≤ _ ∧ _ + 1 ≤ _ by first | omega | (simp; omega)) ?_
    | refine And.intro (show 1 * _ ≤ _ ∧ 1 ≤ _ by omega) ?_
    | refine And.intro (by first | omega | (simp; omega) | (show _ ∧ _; simp; done)) ?_
    | refine ⟨_, _, RIndex1_mk, ?_⟩
    | fail) <;> conv => whnf)
  refine ⟨.inl rfl, ?_⟩
  conv => whnf
  refine ⟨[], ⟨rfl, trivial⟩, ?_, rfl, rfl⟩
  conv => whnf
  left
  conv => lhs; whnf

/-- the pieces between the bytes c of a text -/
def pieces : List UInt8 → UInt8 → List (List UInt8)
  | [], _ => [[]]
  | b :: r, c => if b = c then [] :: pieces r c else match pieces r c with
    | x :: xs => (b :: x) :: xs
    | [] => [[b]]

theorem pieces_len (c : UInt8) : ∀ s : List UInt8, (pieces s c).length = s.count c + 1
  | [] => rfl
  | b :: r => by
    have ih := pieces_len c r
    simp only [pieces]
    by_cases hb : b = c
    · subst hb; simp [ih]
    · rw [if_neg hb]
      rw [List.count_cons_of_ne (by simpa using hb)]
      split
      · rename_i x xs hx; rw [hx] at ih; simpa using ih
      · rename_i hx; rw [hx] at ih; simp at ih
theorem pieces_none {c : UInt8} : ∀ {t : List UInt8}, (∀ j, j < t.length → t.getD j 0 ≠ c) → pieces t c = [t]
  | [], _ => rfl
  | b :: r, h => by
    have h0 : b ≠ c := by simpa using h 0 (by simp)
    have ih := pieces_none (c := c) (t := r) (fun j hj => by simpa using h (j + 1) (by simpa using hj))
    simp only [pieces]
    rw [if_neg h0, ih]
theorem pieces_hit {c : UInt8} : ∀ {t : List UInt8} {k : Nat}, k < t.length → t.getD k 0 = c → (∀ j, j < k → t.getD j 0 ≠ c) → pieces t c = t.take k :: pieces (t.drop (k + 1)) c
  | [], k, hk, _, _ => by simp at hk
  | b :: r, 0, _, hc, _ => by
    have : b = c := by simpa using hc
    simp [pieces, this]
  | b :: r, k + 1, hk, hc, h => by
    have h0 : b ≠ c := by simpa using h 0 (by omega)
    have ih := pieces_hit (c := c) (t := r) (k := k) (by simpa using hk) (by simpa using hc) (fun j hj => by simpa using h (j + 1) (by omega))
    simp only [pieces]
    rw [if_neg h0, ih]
    simp
theorem pieces_ix {c : UInt8} {t : List UInt8} (h : 0 ≤ Lib.indexByte t c) : pieces t c = t.take (Lib.indexByte t c).toNat :: pieces (t.drop ((Lib.indexByte t c).toNat + 1)) c := by
  obtain ⟨h1, h2⟩ := Lib.indexByte_some (l := t) (c := c) (o := (Lib.indexByte t c).toNat) (by omega)
  have hlt := (List.getElem?_eq_some_iff.1 h1).1
  refine pieces_hit hlt (by rw [List.getD_eq_getElem?_getD, h1]; rfl) (fun j hj he => ?_)
  refine h2 j hj ?_
  rw [List.getElem?_eq_getElem (by omega)]
  rw [List.getD_eq_getElem?_getD, List.getElem?_eq_getElem (by omega)] at he
  exact congrArg some he
theorem pieces_nix {c : UInt8} {t : List UInt8} (h : Lib.indexByte t c < 0) : pieces t c = [t] := by
  have h1 : Lib.indexByte t c = -1 := by have := Lib.indexByte_ge t c; omega
  refine pieces_none (fun j hj he => Lib.indexByte_none h1 j ?_)
  rw [List.getElem?_eq_getElem hj]
  rw [List.getD_eq_getElem?_getD, List.getElem?_eq_getElem hj] at he
  exact congrArg some he

def strRow (s : List UInt8) : List AV := [.str s]
def strRows (l : List (List UInt8)) : List (List AV) := l.map strRow
@[simp] theorem length_strRows (l : List (List UInt8)) : (strRows l).length = l.length := by simp [strRows]
theorem strRows_nov (l : List (List UInt8)) : (strRows l).all AV.novs = true := by simp [strRows, strRow, AV.novs, AV.nov]

end Go.Proofs.YtpfbkblgefddlaaDoor.Ct
