/- strings.Cut at one byte. -/
import Derived.Test.YtpfbkblgefddlaaCtLawWord
import Derived.Test.YtpfbkblgefddlaaAvVc2
import Derived.Lib.Strings
import Derived.Lib.Slices
import Derived.Lib.Walk
import Derived.Lib.Bytealg
import Derived.Lib.IndexLaws
namespace Go.Proofs.Ytpfbkblgefddlaa.Ct
set_option linter.unusedSimpArgs false
set_option linter.unusedVariables false
open Go Go.Proofs Go.Proofs.Ytpfbkblgefddlaa.Av

set_option maxHeartbeats 1000000 in
set_option maxRecDepth 100000 in
/-- what the library's search for a byte gives -/
theorem indexByte_calls (s : ByteArray) (c : Int) (w : World) :
    Calls Try.prog 194 #[.string s, .int .u8 c] w fun e w' => e = .returned (.int .i64 (Lib.indexByte s.data.toList c.toNat.toUInt8)) ∧ w' = w := by
  go_enter Try.func194, Try.ntmps194
  go_wp2
  rw [run_callFunc_extern Try.func201 (by kernel_rfl) (by kernel_rfl) (by kernel_rfl) (e := Extern.BytealgIndexByte.indexByte) (by kernel_rfl), Lib.run_indexByteString]
  simp only [Result.andThen]
  rw [Oper.upon_value]
  go_wp2
  go_ret
  exact ⟨rfl, rfl⟩

def c_internal_stringslite_IndexByte : ICode := (.seq (.reg [⟨(some 4), .mv, [(.c (.int .i64 0))], none⟩]) (.seq (.reg [⟨(some 5), .mv, [(.t 0)], none⟩, ⟨(some 6), .mv, [(.t 1)], none⟩, ⟨(some 7), (.call 201), [(.t 5), (.t 6)], none⟩, ⟨(some 4), .mv, [(.t 7)], none⟩]) .ret))
theorem b_internal_stringslite_IndexByte : Body Try.prog 194 8 c_internal_stringslite_IndexByte [(.t 4)] := by
  have h1 : comp Try.prog 8 (Try.f194.body.getD .skip) = some c_internal_stringslite_IndexByte := by kernel_rfl
  have h2 : Try.f194.body = some (Try.f194.body.getD .skip) := by kernel_rfl
  have h3 : Try.f194.results.toList.map (cRes Try.prog) = [(some (.t 4))] := by kernel_rfl
  exact ⟨_, _, Try.func194, h2, Try.ntmps194, h1, h3, by decide⟩

def c_internal_stringslite_Index : ICode := (.seq (.reg [⟨(some 4), .mv, [(.c (.int .i64 0))], none⟩]) (.seq (.reg [⟨(some 14), .mv, [(.t 1)], none⟩, ⟨(some 15), .lens, [(.t 14)], none⟩, ⟨(some 5), .mv, [(.t 15)], none⟩]) (.seq (.block 0 (.seq (.reg [⟨(some 17), .mv, [(.t 5)], none⟩, ⟨(some 18), (.bin .eql), [(.t 17), (.c (.int .i64 0))], none⟩, ⟨(some 19), .mv, [(.t 18)], none⟩, ⟨(some 20), .mv, [(.t 1)], (some (19, false))⟩, ⟨(some 21), .mv, [(.t 0)], (some (19, false))⟩, ⟨(some 22), (.bin .eql), [(.t 20), (.t 21)], (some (19, false))⟩, ⟨(some 23), .pick, [(.t 19), (.c (.bool true)), (.t 22)], none⟩, ⟨(some 16), .mv, [(.t 23)], none⟩]) (.cond (.t 16) (.seq (.reg [⟨(some 4), .mv, [(.c (.int .i64 0))], none⟩]) .ret) (.seq (.reg [⟨(some 25), .mv, [(.t 5)], none⟩, ⟨(some 26), (.bin .eql), [(.t 25), (.c (.int .i64 1))], none⟩, ⟨(some 24), .mv, [(.t 26)], none⟩]) (.cond (.t 24) (.seq (.reg [⟨(some 27), .mv, [(.t 0)], none⟩, ⟨(some 28), .mv, [(.t 1)], none⟩, ⟨(some 29), .idx, [(.t 28), (.c (.int .i64 0))], none⟩, ⟨(some 30), (.call 194), [(.t 27), (.t 29)], none⟩, ⟨(some 4), .mv, [(.t 30)], none⟩]) .ret) (.seq (.reg [⟨(some 32), .mv, [(.t 5)], none⟩, ⟨(some 33), .mv, [(.t 0)], none⟩, ⟨(some 34), .lens, [(.t 33)], none⟩, ⟨(some 35), (.bin .geq), [(.t 32), (.t 34)], none⟩, ⟨(some 31), .mv, [(.t 35)], none⟩]) (.cond (.t 31) (.seq (.reg [⟨(some 4), .mv, [(.c (.int .i64 (-1)))], none⟩]) .ret) (.seq (.reg [⟨(some 37), .mv, [(.t 5)], none⟩, ⟨(some 38), .no, [], none⟩, ⟨(some 39), (.bin .leq), [(.t 37), (.t 38)], none⟩, ⟨(some 40), .mv, [(.t 39)], none⟩, ⟨(some 41), .mv, [(.t 0)], (some (40, true))⟩, ⟨(some 42), .lens, [(.t 41)], (some (40, true))⟩, ⟨(some 43), (.bin .leq), [(.t 42), (.c (.int .i64 64))], (some (40, true))⟩, ⟨(some 44), .pick, [(.t 40), (.t 43), (.c (.bool false))], none⟩, ⟨(some 36), .mv, [(.t 44)], none⟩]) (.cond (.t 36) (.seq (.reg [⟨(some 45), .mv, [(.t 0)], none⟩, ⟨(some 46), .mv, [(.t 1)], none⟩, ⟨(some 47), (.call 195), [(.t 45), (.t 46)], none⟩, ⟨(some 4), .mv, [(.t 47)], none⟩]) .ret) .skip))))))))) (.seq (.reg [⟨(some 48), .mv, [(.t 1)], none⟩, ⟨(some 49), .idx, [(.t 48), (.c (.int .i64 0))], none⟩, ⟨(some 6), .mv, [(.t 49)], none⟩]) (.seq (.reg [⟨(some 50), .mv, [(.t 1)], none⟩, ⟨(some 51), .idx, [(.t 50), (.c (.int .i64 1))], none⟩, ⟨(some 7), .mv, [(.t 51)], none⟩]) (.seq (.reg [⟨(some 8), .mv, [(.c (.int .i64 0))], none⟩]) (.seq (.reg [⟨(some 52), .mv, [(.t 0)], none⟩, ⟨(some 53), .lens, [(.t 52)], none⟩, ⟨(some 54), .mv, [(.t 5)], none⟩, ⟨(some 55), (.bin .sub), [(.t 53), (.t 54)], none⟩, ⟨(some 56), (.bin .add), [(.t 55), (.c (.int .i64 1))], none⟩, ⟨(some 9), .mv, [(.t 56)], none⟩]) (.seq (.reg [⟨(some 10), .mv, [(.c (.int .i64 0))], none⟩]) (.seq (.block 1 (.loop (.seq (.seq (.reg [⟨(some 57), .mv, [(.t 8)], none⟩, ⟨(some 58), .mv, [(.t 9)], none⟩, ⟨(some 59), (.bin .lss), [(.t 57), (.t 58)], none⟩]) (.cond (.t 59) .skip (.exit 1))) (.block 2 (.seq (.seq (.reg [⟨(some 60), .mv, [(.t 0)], none⟩, ⟨(some 61), .mv, [(.t 8)], none⟩, ⟨(some 62), .idx, [(.t 60), (.t 61)], none⟩, ⟨(some 63), .mv, [(.t 6)], none⟩, ⟨(some 64), (.bin .neq), [(.t 62), (.t 63)], none⟩]) (.cond (.t 64) (.seq (.reg [⟨(some 65), .mv, [(.t 0)], none⟩, ⟨(some 66), .mv, [(.t 8)], none⟩, ⟨(some 67), (.bin .add), [(.t 66), (.c (.int .i64 1))], none⟩, ⟨(some 68), .mv, [(.t 9)], none⟩, ⟨(some 69), (.sls true true), [(.t 65), (.t 67), (.t 68)], none⟩, ⟨(some 70), .mv, [(.t 6)], none⟩, ⟨(some 71), (.call 194), [(.t 69), (.t 70)], none⟩, ⟨(some 11), .mv, [(.t 71)], none⟩]) (.seq (.seq (.reg [⟨(some 72), .mv, [(.t 11)], none⟩, ⟨(some 73), (.bin .lss), [(.t 72), (.c (.int .i64 0))], none⟩]) (.cond (.t 73) (.seq (.reg [⟨(some 4), .mv, [(.c (.int .i64 (-1)))], none⟩]) .ret) .skip)) (.reg [⟨(some 74), .mv, [(.t 8)], none⟩, ⟨(some 75), .mv, [(.t 11)], none⟩, ⟨(some 76), (.bin .add), [(.t 75), (.c (.int .i64 1))], none⟩, ⟨(some 77), (.bin .add), [(.t 74), (.t 76)], none⟩, ⟨(some 8), .mv, [(.t 77)], none⟩]))) .skip)) (.seq (.seq (.reg [⟨(some 78), .mv, [(.t 0)], none⟩, ⟨(some 79), .mv, [(.t 8)], none⟩, ⟨(some 80), (.bin .add), [(.t 79), (.c (.int .i64 1))], none⟩, ⟨(some 81), .idx, [(.t 78), (.t 80)], none⟩, ⟨(some 82), .mv, [(.t 7)], none⟩, ⟨(some 83), (.bin .eql), [(.t 81), (.t 82)], none⟩, ⟨(some 84), .mv, [(.t 83)], none⟩, ⟨(some 85), .mv, [(.t 0)], (some (84, true))⟩, ⟨(some 86), .mv, [(.t 8)], (some (84, true))⟩, ⟨(some 87), .mv, [(.t 8)], (some (84, true))⟩, ⟨(some 88), .mv, [(.t 5)], (some (84, true))⟩, ⟨(some 89), (.bin .add), [(.t 87), (.t 88)], (some (84, true))⟩, ⟨(some 90), (.sls true true), [(.t 85), (.t 86), (.t 89)], (some (84, true))⟩, ⟨(some 91), .mv, [(.t 1)], (some (84, true))⟩, ⟨(some 92), (.bin .eql), [(.t 90), (.t 91)], (some (84, true))⟩, ⟨(some 93), .pick, [(.t 84), (.t 92), (.c (.bool false))], none⟩]) (.cond (.t 93) (.seq (.reg [⟨(some 94), .mv, [(.t 8)], none⟩, ⟨(some 4), .mv, [(.t 94)], none⟩]) .ret) .skip)) (.seq (.reg [⟨(some 95), .mv, [(.t 8)], none⟩, ⟨(some 96), (.bin .add), [(.t 95), (.c (.int .i64 1))], none⟩, ⟨(some 8), .mv, [(.t 96)], none⟩]) (.seq (.reg [⟨(some 97), .mv, [(.t 10)], none⟩, ⟨(some 98), (.bin .add), [(.t 97), (.c (.int .i64 1))], none⟩, ⟨(some 10), .mv, [(.t 98)], none⟩]) (.seq (.reg [⟨(some 99), .mv, [(.t 5)], none⟩, ⟨(some 100), .no, [], none⟩, ⟨(some 101), (.bin .leq), [(.t 99), (.t 100)], none⟩, ⟨(some 102), .mv, [(.t 101)], none⟩, ⟨(some 103), .mv, [(.t 10)], (some (102, true))⟩, ⟨(some 104), .mv, [(.t 8)], (some (102, true))⟩, ⟨(some 105), (.call 196), [(.t 104)], (some (102, true))⟩, ⟨(some 106), (.bin .gtr), [(.t 103), (.t 105)], (some (102, true))⟩, ⟨(some 107), .pick, [(.t 102), (.t 106), (.c (.bool false))], none⟩]) (.cond (.t 107) (.seq (.reg [⟨(some 108), .mv, [(.t 0)], none⟩, ⟨(some 109), .mv, [(.t 8)], none⟩, ⟨(some 110), (.sls true false), [(.t 108), (.t 109)], none⟩, ⟨(some 111), .mv, [(.t 1)], none⟩, ⟨(some 112), (.call 195), [(.t 110), (.t 111)], none⟩, ⟨(some 12), .mv, [(.t 112)], none⟩]) (.seq (.seq (.reg [⟨(some 113), .mv, [(.t 12)], none⟩, ⟨(some 114), (.bin .geq), [(.t 113), (.c (.int .i64 0))], none⟩]) (.cond (.t 114) (.seq (.reg [⟨(some 115), .mv, [(.t 12)], none⟩, ⟨(some 116), .mv, [(.t 8)], none⟩, ⟨(some 117), (.bin .add), [(.t 115), (.t 116)], none⟩, ⟨(some 4), .mv, [(.t 117)], none⟩]) .ret) .skip)) (.seq (.reg [⟨(some 4), .mv, [(.c (.int .i64 (-1)))], none⟩]) .ret))) (.seq (.reg [⟨(some 118), .mv, [(.t 5)], none⟩, ⟨(some 119), .no, [], none⟩, ⟨(some 120), (.bin .gtr), [(.t 118), (.t 119)], none⟩, ⟨(some 121), .mv, [(.t 120)], none⟩, ⟨(some 122), .mv, [(.t 10)], (some (121, true))⟩, ⟨(some 123), .mv, [(.t 8)], (some (121, true))⟩, ⟨(some 124), (.bin .shr), [(.t 123), (.c (.int .u64 4))], (some (121, true))⟩, ⟨(some 125), (.bin .add), [(.c (.int .i64 4)), (.t 124)], (some (121, true))⟩, ⟨(some 126), (.bin .geq), [(.t 122), (.t 125)], (some (121, true))⟩, ⟨(some 127), .pick, [(.t 121), (.t 126), (.c (.bool false))], none⟩, ⟨(some 128), .mv, [(.t 127)], none⟩, ⟨(some 129), .mv, [(.t 8)], (some (128, true))⟩, ⟨(some 130), .mv, [(.t 9)], (some (128, true))⟩, ⟨(some 131), (.bin .lss), [(.t 129), (.t 130)], (some (128, true))⟩, ⟨(some 132), .pick, [(.t 128), (.t 131), (.c (.bool false))], none⟩]) (.cond (.t 132) (.seq (.reg [⟨(some 133), .mv, [(.t 0)], none⟩, ⟨(some 134), .mv, [(.t 8)], none⟩, ⟨(some 135), (.sls true false), [(.t 133), (.t 134)], none⟩, ⟨(some 136), .mv, [(.t 1)], none⟩, ⟨(some 137), (.call 197), [(.t 135), (.t 136)], none⟩, ⟨(some 13), .mv, [(.t 137)], none⟩]) (.seq (.seq (.reg [⟨(some 138), .mv, [(.t 13)], none⟩, ⟨(some 139), (.bin .lss), [(.t 138), (.c (.int .i64 0))], none⟩]) (.cond (.t 139) (.seq (.reg [⟨(some 4), .mv, [(.c (.int .i64 (-1)))], none⟩]) .ret) .skip)) (.seq (.reg [⟨(some 140), .mv, [(.t 8)], none⟩, ⟨(some 141), .mv, [(.t 13)], none⟩, ⟨(some 142), (.bin .add), [(.t 140), (.t 141)], none⟩, ⟨(some 4), .mv, [(.t 142)], none⟩]) .ret))) .skip)))))))))))) (.seq (.reg [⟨(some 4), .mv, [(.c (.int .i64 (-1)))], none⟩]) .ret))))))))))
theorem b_internal_stringslite_Index : Body Try.prog 183 143 c_internal_stringslite_Index [(.t 4)] := by
  have h1 : comp Try.prog 143 (Try.f183.body.getD .skip) = some c_internal_stringslite_Index := by kernel_rfl
  have h2 : Try.f183.body = some (Try.f183.body.getD .skip) := by kernel_rfl
  have h3 : Try.f183.results.toList.map (cRes Try.prog) = [(some (.t 4))] := by kernel_rfl
  exact ⟨_, _, Try.func183, h2, Try.ntmps183, h1, h3, by decide⟩

def c_internal_stringslite_Cut : ICode := (.seq (.reg [⟨(some 4), .mv, [(.c (.str []))], none⟩, ⟨(some 5), .mv, [(.c (.str []))], none⟩, ⟨(some 6), .mv, [(.c (.bool false))], none⟩]) (.seq (.seq (.reg [⟨(some 8), .mv, [(.t 0)], none⟩, ⟨(some 9), .mv, [(.t 1)], none⟩, ⟨(some 10), (.call 183), [(.t 8), (.t 9)], none⟩, ⟨(some 7), .mv, [(.t 10)], none⟩]) (.seq (.reg [⟨(some 11), .mv, [(.t 7)], none⟩, ⟨(some 12), (.bin .geq), [(.t 11), (.c (.int .i64 0))], none⟩]) (.cond (.t 12) (.seq (.drw [⟨(some 13), .mv, [(.t 0)], none⟩, ⟨(some 14), .mv, [(.t 7)], none⟩, ⟨(some 15), (.sls false true), [(.t 13), (.t 14)], none⟩, ⟨(some 16), .mv, [(.t 0)], none⟩, ⟨(some 17), .mv, [(.t 7)], none⟩, ⟨(some 18), .mv, [(.t 1)], none⟩, ⟨(some 19), .lens, [(.t 18)], none⟩, ⟨(some 20), (.bin .add), [(.t 17), (.t 19)], none⟩, ⟨(some 21), (.sls true false), [(.t 16), (.t 20)], none⟩, ⟨(some 4), .mv, [(.t 15)], none⟩, ⟨(some 5), .mv, [(.t 21)], none⟩, ⟨(some 6), .mv, [(.c (.bool true))], none⟩] [[], [], [0, 1], [], [], [], [5], [4, 5, 6], [3, 4, 5, 6, 7], [0, 1, 2], [0, 1, 2, 3, 4, 5, 6, 7, 8, 9], [0, 1, 2, 3, 4, 5, 6, 7, 8, 9, 10]] true true) .ret) .skip))) (.seq (.reg [⟨(some 22), .mv, [(.t 0)], none⟩, ⟨(some 4), .mv, [(.t 22)], none⟩, ⟨(some 5), .mv, [(.c (.str []))], none⟩, ⟨(some 6), .mv, [(.c (.bool false))], none⟩]) .ret)))
theorem b_internal_stringslite_Cut : Body Try.prog 135 23 c_internal_stringslite_Cut [(.t 4), (.t 5), (.t 6)] := by
  have h1 : comp Try.prog 23 (Try.f135.body.getD .skip) = some c_internal_stringslite_Cut := by kernel_rfl
  have h2 : Try.f135.body = some (Try.f135.body.getD .skip) := by kernel_rfl
  have h3 : Try.f135.results.toList.map (cRes Try.prog) = [(some (.t 4)), (some (.t 5)), (some (.t 6))] := by kernel_rfl
  exact ⟨_, _, Try.func135, h2, Try.ntmps135, h1, h3, by decide⟩

def c_strings_Cut : ICode := (.seq (.reg [⟨(some 4), .mv, [(.c (.str []))], none⟩, ⟨(some 5), .mv, [(.c (.str []))], none⟩, ⟨(some 6), .mv, [(.c (.bool false))], none⟩]) (.seq (.reg [⟨(some 7), .mv, [(.t 0)], none⟩, ⟨(some 8), .mv, [(.t 1)], none⟩, ⟨(some 9), (.call 135), [(.t 7), (.t 8)], none⟩, ⟨(some 10), (.ext 0), [(.t 9)], none⟩, ⟨(some 11), (.ext 1), [(.t 9)], none⟩, ⟨(some 12), (.ext 2), [(.t 9)], none⟩, ⟨(some 4), .mv, [(.t 10)], none⟩, ⟨(some 5), .mv, [(.t 11)], none⟩, ⟨(some 6), .mv, [(.t 12)], none⟩]) .ret))
theorem b_strings_Cut : Body Try.prog 77 13 c_strings_Cut [(.t 4), (.t 5), (.t 6)] := by
  have h1 : comp Try.prog 13 (Try.f77.body.getD .skip) = some c_strings_Cut := by kernel_rfl
  have h2 : Try.f77.body = some (Try.f77.body.getD .skip) := by kernel_rfl
  have h3 : Try.f77.results.toList.map (cRes Try.prog) = [(some (.t 4)), (some (.t 5)), (some (.t 6))] := by kernel_rfl
  exact ⟨_, _, Try.func77, h2, Try.ntmps77, h1, h3, by decide⟩


/-- a contract of the library's, of a function that gives one cell and makes nothing -/
theorem pure_of_calls {P : Program} {f : Nat} {R : List AV → AV → List AObj → Prop}
    (H : ∀ (w : World) (own : Nat → Prop) xs (vs : Array Value) r objs, Rels w own noPl 0 xs vs.toList → R xs r objs → objs = [] ∧ ∃ v, (∀ (π : Pl) (own' : Nat → Prop), Rel w own' π 0 r v) ∧ Calls P f vs w fun e w' => e = .returned v ∧ w' = w) : PureSound P f R := by
  intro w own xs vs r objs hr hR
  obtain ⟨rfl, v, h1, h2⟩ := H w own xs vs r objs hr hR
  refine h2.mono ?_
  rintro e w' ⟨rfl, rfl⟩
  refine ⟨v, noPl, rfl, ⟨rfl, rfl, rfl, Nat.le_refl _, fun _ _ _ => rfl⟩, ⟨fun _ _ => rfl, fun id o ho => ?_, fun _ _ _ _ _ h => by simp [noPl] at h, fun _ _ _ h => by simp [noPl] at h, fun b hb => hb⟩, h1 _ _⟩
  simp [objsH] at ho

def RIndexByte (xs : List AV) (r : AV) (objs : List AObj) : Prop := ∃ s c, xs = [.str s, .int .u8 c] ∧ r = .int .i64 (Lib.indexByte s c.toNat.toUInt8) ∧ objs = []
theorem RIndexByte_mk {s : List UInt8} {c : Int} : RIndexByte [.str s, .int .u8 c] (.int .i64 (Lib.indexByte s c.toNat.toUInt8)) [] := ⟨s, c, rfl, rfl, rfl⟩

theorem s_IndexByte : PureSound Try.prog 194 RIndexByte := by
  refine pure_of_calls ?_
  rintro w own xs vs r objs hr ⟨s, c, rfl, rfl, rfl⟩
  obtain ⟨hl, hr⟩ := hr
  obtain ⟨v0, h0⟩ := rels_at ⟨hl, hr⟩ (i := 0) rfl
  obtain ⟨v1, h1⟩ := rels_at ⟨hl, hr⟩ (i := 1) rfl
  have e : vs = #[.string ⟨s.toArray⟩, .int .u8 c] := by
    obtain ⟨l⟩ := vs
    match l, hl, hr with
    | [a, b], _, hr =>
      have ha := hr 0 _ _ rfl rfl
      have hb := hr 1 _ _ rfl rfl
      cases ha
      cases hb
      rfl
  subst e
  refine ⟨rfl, .int .i64 (Lib.indexByte s c.toNat.toUInt8), fun _ _ => .int _ _, ?_⟩
  have := indexByte_calls ⟨s.toArray⟩ c w
  simpa using this

/-- Index of one byte -/
def RIndex1 (xs : List AV) (r : AV) (objs : List AObj) : Prop := ∃ s c, xs = [.str s, .str [c]] ∧ r = .int .i64 (Lib.indexByte s c) ∧ objs = []
theorem RIndex1_mk {s : List UInt8} {c : UInt8} : RIndex1 [.str s, .str [c]] (.int .i64 (Lib.indexByte s c)) [] := ⟨s, c, rfl, rfl, rfl⟩

theorem s_Index : PureSound Try.prog 183 RIndex1 := by
  have hR : Rely Try.prog (ctxOf [(194, .pure RIndexByte)]) := rely_cons b_internal_stringslite_IndexByte.has s_IndexByte (rely_nil mixed)
  refine pure_of_aw b_internal_stringslite_Index ?_
  rintro xs r objs ⟨s, c, rfl, rfl, rfl⟩ -
  refine ⟨by simp, vc2_sound hR _ _ _ _ _ ?_⟩
  conv => whnf
  repeat' (first
    | contradiction
    | (refine And.intro (fun hb => ?_) (fun hb => ?_) <;> first | contradiction | skip
       all_goals (try simp only [decide_eq_true_eq, decide_eq_false_iff_not, Bool.not_eq_true', Bool.not_eq_false', Bool.not_not, ne_eq, length_ints, List.length_map, beq_iff_eq, bne_iff_ne, beq_eq_false_iff_ne, bne_eq_false_iff_eq, Int.not_le, Int.not_lt, ge_iff_le, gt_iff_lt, reduceCtorEq, not_false_eq_true, not_true_eq_false, Bool.false_eq_true, Bool.true_eq_false] at hb)
       all_goals (try (exfalso; first | contradiction | omega))
       all_goals conv => whnf)
    | (refine And.intro (live_all rfl) ?_; conv => whnf)
    | (refine And.intro rfl ?_; conv => whnf)
    | (refine ⟨_, IntWalk.i64_in _ (by omega), ?_⟩; conv => whnf)
    | (refine And.intro (okcs_all rfl) ?_; conv => whnf)
    | (refine And.intro (okvs_all rfl) ?_; conv => whnf)
    | (refine And.intro (frees_all rfl) ?_; conv => whnf)
    | (refine And.intro (bsl_all rfl) ?_; conv => whnf)
    | (refine And.intro (lens_all rfl) ?_; conv => whnf)
    | (refine And.intro (Nat.le_of_ble_eq_true rfl) ?_; conv => whnf)
    | (rw [ints_at (by omega)]; conv => whnf)
    | (rw [ints_at0 (by omega)]; conv => whnf)
    | (rw [ints_at' (by omega) (by omega)]; conv => whnf)
    | (refine And.intro (show (_ + 1) * _ ≤ _ by omega) ?_; conv => whnf)
    | (refine And.intro (show _ + 1 ≤ _ by omega) ?_; conv => whnf)
    | (refine And.intro (by first | omega | (simp only [length_ints]; omega)) ?_; conv => whnf)
    | (refine ⟨_, _, RIndexByte_mk, ?_⟩; conv => whnf)
    | fail)
  · refine ⟨.inl rfl, ?_⟩
    conv => whnf
    refine ⟨[], ⟨rfl, trivial⟩, ?_, rfl, rfl⟩
    conv => whnf
    left
    conv => lhs; whnf
    refine congrArg (AV.int .i64) ?_
    have hs : [c] = s := by assumption
    subst hs
    simp [Lib.indexByte]
  · refine ⟨.inl rfl, ?_⟩
    conv => whnf
    refine ⟨[], ⟨rfl, trivial⟩, ?_, rfl, rfl⟩
    conv => whnf
    left
    conv => lhs; whnf
    refine congrArg (AV.int .i64) ?_
    simp

/-- a text at its first sign c: what is ahead, what is behind, is there one -/
def cutAt (s : List UInt8) (c : UInt8) : List UInt8 × List UInt8 × Bool :=
  if Lib.indexByte s c < 0 then (s, [], false) else (s.take (Lib.indexByte s c).toNat, s.drop ((Lib.indexByte s c).toNat + 1), true)

theorem indexByte_lt {s : List UInt8} {c : UInt8} (h : 0 ≤ Lib.indexByte s c) : Lib.indexByte s c < s.length := by
  have := (Lib.indexByte_some (l := s) (c := c) (o := (Lib.indexByte s c).toNat) (by omega)).1
  have := (List.getElem?_eq_some_iff.1 this).1
  omega

def RCut (xs : List AV) (r : AV) (objs : List AObj) : Prop := ∃ s c, xs = [.str s, .str [c]] ∧ s.length ≤ 1048576 ∧ r = .tup [.str (cutAt s c).1, .str (cutAt s c).2.1, .bool (cutAt s c).2.2] ∧ objs = []
theorem RCut_mk {s : List UInt8} {c : UInt8} (h : s.length ≤ 1048576) : RCut [.str s, .str [c]] (.tup [.str (cutAt s c).1, .str (cutAt s c).2.1, .bool (cutAt s c).2.2]) [] := ⟨s, c, rfl, h, rfl, rfl⟩

theorem s_Cut0 : PureSound Try.prog 135 RCut := by
  have hR : Rely Try.prog (ctxOf [(183, .pure RIndex1)]) := rely_cons b_internal_stringslite_Index.has s_Index (rely_nil mixed)
  refine pure_of_aw b_internal_stringslite_Cut ?_
  rintro xs r objs ⟨s, c, rfl, hl, rfl, rfl⟩ -
  refine ⟨by simp, vc2_sound hR _ _ _ _ _ ?_⟩
  have hlt := indexByte_lt (s := s) (c := c)
  conv => whnf
  repeat' (first
    | contradiction
    | (refine And.intro (fun hb => ?_) (fun hb => ?_) <;> first | contradiction | skip
       all_goals (try simp only [decide_eq_true_eq, decide_eq_false_iff_not, Bool.not_eq_true', Bool.not_eq_false', Bool.not_not, ne_eq, length_ints, List.length_map, beq_iff_eq, bne_iff_ne, beq_eq_false_iff_ne, bne_eq_false_iff_eq, Int.not_le, Int.not_lt, ge_iff_le, gt_iff_lt, reduceCtorEq, not_false_eq_true, not_true_eq_false, Bool.false_eq_true, Bool.true_eq_false] at hb)
       all_goals (try (exfalso; first | contradiction | omega))
       all_goals conv => whnf)
    | (refine And.intro (live_all rfl) ?_; conv => whnf)
    | (refine And.intro rfl ?_; conv => whnf)
    | (refine ⟨_, IntWalk.i64_in _ (by omega), ?_⟩; conv => whnf)
    | (refine And.intro (okcs_all rfl) ?_; conv => whnf)
    | (refine And.intro (okvs_all rfl) ?_; conv => whnf)
    | (refine And.intro (frees_all rfl) ?_; conv => whnf)
    | (refine And.intro (bsl_all rfl) ?_; conv => whnf)
    | (refine And.intro (lens_all rfl) ?_; conv => whnf)
    | (refine And.intro (Nat.le_of_ble_eq_true rfl) ?_; conv => whnf)
    | (rw [ints_at (by omega)]; conv => whnf)
    | (rw [ints_at0 (by omega)]; conv => whnf)
    | (rw [ints_at' (by omega) (by omega)]; conv => whnf)
    | (refine And.intro (show (_ + 1) * _ ≤ _ by omega) ?_; conv => whnf)
    | (refine And.intro (show _ + 1 ≤ _ by omega) ?_; conv => whnf)
    | (refine And.intro (by first | omega | (simp only [length_ints]; omega)) ?_; conv => whnf)
    | (refine ⟨_, _, RIndex1_mk, ?_⟩; conv => whnf)
    | fail)
  · have hlt' := hlt hb
    have h1 : ([c] : List UInt8).length = 1 := rfl
    rw [h1]
    conv => whnf
    repeat' (first
      | contradiction
      | (refine And.intro (fun hb => ?_) (fun hb => ?_) <;> first | contradiction | skip
         all_goals (try simp only [decide_eq_true_eq, decide_eq_false_iff_not, Bool.not_eq_true', Bool.not_eq_false', Bool.not_not, ne_eq, length_ints, List.length_map, beq_iff_eq, bne_iff_ne, beq_eq_false_iff_ne, bne_eq_false_iff_eq, Int.not_le, Int.not_lt, ge_iff_le, gt_iff_lt, reduceCtorEq, not_false_eq_true, not_true_eq_false, Bool.false_eq_true, Bool.true_eq_false] at hb)
         all_goals (try (exfalso; first | contradiction | omega))
         all_goals conv => whnf)
      | (refine And.intro (live_all rfl) ?_; conv => whnf)
      | (refine And.intro rfl ?_; conv => whnf)
      | (refine ⟨_, IntWalk.i64_in _ (by omega), ?_⟩; conv => whnf)
      | (refine And.intro (okcs_all rfl) ?_; conv => whnf)
      | (refine And.intro (okvs_all rfl) ?_; conv => whnf)
      | (refine And.intro (frees_all rfl) ?_; conv => whnf)
      | (refine And.intro (bsl_all rfl) ?_; conv => whnf)
      | (refine And.intro (lens_all rfl) ?_; conv => whnf)
      | (refine And.intro (Nat.le_of_ble_eq_true rfl) ?_; conv => whnf)
      | (rw [ints_at (by omega)]; conv => whnf)
      | (rw [ints_at0 (by omega)]; conv => whnf)
      | (rw [ints_at' (by omega) (by omega)]; conv => whnf)
      | (refine And.intro (show (_ + 1) * _ ≤ _ by omega) ?_; conv => whnf)
      | (refine And.intro (show _ + 1 ≤ _ by omega) ?_; conv => whnf)
      | (refine And.intro (by first | omega | (simp only [length_ints]; omega)) ?_; conv => whnf)
      | fail)
    have hn : ¬ (Lib.indexByte s c < 0) := by omega
    refine ⟨.inl rfl, ?_⟩
    conv => whnf
    refine ⟨[], ⟨rfl, trivial⟩, ?_, rfl, rfl⟩
    repeat' (first | exact trivial | refine And.intro ?_ ?_)
    all_goals
      conv => whnf
      left
      conv => lhs; whnf
    · refine congrArg AV.str ?_
      simp [cutAt, hn, sub]
    · refine congrArg AV.str ?_
      have e1 : (Lib.indexByte s c + 1).toNat = (Lib.indexByte s c).toNat + 1 := by omega
      have e2 : ((s.length : Int) - (Lib.indexByte s c + 1)).toNat = (s.drop ((Lib.indexByte s c).toNat + 1)).length := by simp; omega
      show sub s (Lib.indexByte s c + 1).toNat ((s.length : Int) - (Lib.indexByte s c + 1)).toNat = _
      rw [e1, e2, sub, List.take_length]
      simp [cutAt, hn]
    · refine congrArg AV.bool ?_
      simp [cutAt, hn]
  · refine ⟨.inl rfl, ?_⟩
    conv => whnf
    refine ⟨[], ⟨rfl, trivial⟩, ?_, rfl, rfl⟩
    repeat' (first | exact trivial | refine And.intro ?_ ?_)
    all_goals
      conv => whnf
      left
      conv => lhs; whnf
    all_goals simp [cutAt, hb]

theorem s_Cut : PureSound Try.prog 77 RCut := by
  have hR : Rely Try.prog (ctxOf [(135, .pure RCut)]) := rely_cons b_internal_stringslite_Cut.has s_Cut0 (rely_nil mixed)
  refine pure_of_aw b_strings_Cut ?_
  rintro xs r objs ⟨s, c, rfl, hl, rfl, rfl⟩ -
  refine ⟨by simp, vc2_sound hR _ _ _ _ _ ?_⟩
  conv => whnf
  repeat' (first
    | contradiction
    | (refine And.intro (fun hb => ?_) (fun hb => ?_) <;> first | contradiction | skip
       all_goals (try simp only [decide_eq_true_eq, decide_eq_false_iff_not, Bool.not_eq_true', Bool.not_eq_false', Bool.not_not, ne_eq, length_ints, List.length_map, beq_iff_eq, bne_iff_ne, beq_eq_false_iff_ne, bne_eq_false_iff_eq, Int.not_le, Int.not_lt, ge_iff_le, gt_iff_lt, reduceCtorEq, not_false_eq_true, not_true_eq_false, Bool.false_eq_true, Bool.true_eq_false] at hb)
       all_goals (try (exfalso; first | contradiction | omega))
       all_goals conv => whnf)
    | (refine And.intro (live_all rfl) ?_; conv => whnf)
    | (refine And.intro rfl ?_; conv => whnf)
    | (refine ⟨_, IntWalk.i64_in _ (by omega), ?_⟩; conv => whnf)
    | (refine And.intro (okcs_all rfl) ?_; conv => whnf)
    | (refine And.intro (okvs_all rfl) ?_; conv => whnf)
    | (refine And.intro (frees_all rfl) ?_; conv => whnf)
    | (refine And.intro (bsl_all rfl) ?_; conv => whnf)
    | (refine And.intro (lens_all rfl) ?_; conv => whnf)
    | (refine And.intro (Nat.le_of_ble_eq_true rfl) ?_; conv => whnf)
    | (rw [ints_at (by omega)]; conv => whnf)
    | (rw [ints_at0 (by omega)]; conv => whnf)
    | (rw [ints_at' (by omega) (by omega)]; conv => whnf)
    | (refine And.intro (show (_ + 1) * _ ≤ _ by omega) ?_; conv => whnf)
    | (refine And.intro (show _ + 1 ≤ _ by omega) ?_; conv => whnf)
    | (refine And.intro (by first | omega | (simp only [length_ints]; omega)) ?_; conv => whnf)
    | (refine ⟨_, _, RCut_mk hl, ?_⟩; conv => whnf)
    | fail)
  all_goals
    refine ⟨.inl rfl, ?_⟩
    conv => whnf
    refine ⟨[], ⟨rfl, trivial⟩, ?_, rfl, rfl⟩
    repeat' (first | exact trivial | refine And.intro ?_ ?_)
    all_goals
      conv => whnf
      left
      conv => lhs; whnf
    all_goals simp [hb]

end Go.Proofs.Ytpfbkblgefddlaa.Ct

