/- Expressions of words read from text: what the reference's reader does. -/
import Derived.Test.YtpfbkblgefddlaaDoorCtO4
namespace Go.Proofs.YtpfbkblgefddlaaDoor.Ct
set_option linter.unusedSimpArgs false
set_option linter.unusedVariables false
open Go Go.Proofs Go.Proofs.YtpfbkblgefddlaaDoor.Av

def c_spec_l11Read : ICode := (.seq (.reg [⟨(some 8), .mv, [(.c .snil)], none⟩, ⟨(some 9), .mv, [(.c (.int .i64 0))], none⟩, ⟨(some 10), .mv, [(.c (.int .i64 0))], none⟩]) (.seq (.seq (.reg [⟨(some 17), .mv, [(.t 2)], none⟩, ⟨(some 18), (.bin .eql), [(.t 17), (.c (.int .i64 2))], none⟩]) (.cond (.t 18) (.seq (.reg [⟨(some 19), .mv, [(.t 0)], none⟩, ⟨(some 20), .mv, [(.t 1)], none⟩, ⟨(some 21), .mv, [(.t 3)], none⟩, ⟨(some 22), (.call 23), [(.t 19), (.t 20), (.t 21)], none⟩, ⟨(some 23), (.ext 0), [(.t 22)], none⟩, ⟨(some 24), (.ext 1), [(.t 22)], none⟩, ⟨(some 25), (.ext 2), [(.t 22)], none⟩, ⟨(some 8), .mv, [(.t 23)], none⟩, ⟨(some 9), .mv, [(.t 24)], none⟩, ⟨(some 10), .mv, [(.t 25)], none⟩]) .ret) .skip)) (.seq (.reg [⟨(some 26), (.bsl 1), [(.c (.int .u8 124)), (.c (.int .u8 46))], none⟩, ⟨(some 27), .mv, [(.t 2)], none⟩, ⟨(some 28), (.iadr 1), [(.t 26), (.t 27)], none⟩, ⟨(some 29), .ld1, [(.t 28)], none⟩, ⟨(some 11), .mv, [(.t 29)], none⟩]) (.seq (.reg [⟨(some 30), (.bsl 1), [(.c (.int .i64 6)), (.c (.int .i64 5))], none⟩, ⟨(some 31), .mv, [(.t 2)], none⟩, ⟨(some 32), (.iadr 1), [(.t 30), (.t 31)], none⟩, ⟨(some 33), .ld1, [(.t 32)], none⟩, ⟨(some 12), .mv, [(.t 33)], none⟩]) (.seq (.reg [⟨(some 35), .mv, [(.t 0)], none⟩, ⟨(some 36), .mv, [(.t 1)], none⟩, ⟨(some 37), .mv, [(.t 2)], none⟩, ⟨(some 38), (.bin .add), [(.t 37), (.c (.int .i64 1))], none⟩, ⟨(some 39), .mv, [(.t 3)], none⟩, ⟨(some 40), (.call 17), [(.t 35), (.t 36), (.t 38), (.t 39)], none⟩, ⟨(some 34), .mv, [(.t 40)], none⟩, ⟨(some 41), (.ext 0), [(.t 34)], none⟩, ⟨(some 42), (.ext 1), [(.t 34)], none⟩, ⟨(some 43), (.ext 2), [(.t 34)], none⟩, ⟨(some 13), .mv, [(.t 41)], none⟩, ⟨(some 14), .mv, [(.t 42)], none⟩, ⟨(some 15), .mv, [(.t 43)], none⟩]) (.seq (.block 0 (.loop (.seq (.seq (.reg [⟨(some 44), .mv, [(.t 15)], none⟩, ⟨(some 45), (.bin .eql), [(.t 44), (.c (.int .i64 0))], none⟩, ⟨(some 46), .mv, [(.t 45)], none⟩, ⟨(some 47), .mv, [(.t 14)], (some (46, true))⟩, ⟨(some 48), .mv, [(.t 0)], (some (46, true))⟩, ⟨(some 49), .lens, [(.t 48)], (some (46, true))⟩, ⟨(some 50), (.bin .lss), [(.t 47), (.t 49)], (some (46, true))⟩, ⟨(some 51), .pick, [(.t 46), (.t 50), (.c (.bool false))], none⟩, ⟨(some 52), .mv, [(.t 51)], none⟩, ⟨(some 53), .mv, [(.t 0)], (some (52, true))⟩, ⟨(some 54), .mv, [(.t 14)], (some (52, true))⟩, ⟨(some 55), .idx, [(.t 53), (.t 54)], (some (52, true))⟩, ⟨(some 56), .mv, [(.t 11)], (some (52, true))⟩, ⟨(some 57), (.bin .eql), [(.t 55), (.t 56)], (some (52, true))⟩, ⟨(some 58), .pick, [(.t 52), (.t 57), (.c (.bool false))], none⟩]) (.cond (.t 58) .skip (.exit 0))) (.block 1 (.seq (.reg [⟨(some 59), .mv, [(.t 13)], none⟩, ⟨(some 60), .len, [(.t 59)], none⟩, ⟨(some 61), (.bin .sub), [(.t 60), (.c (.int .i64 1))], none⟩, ⟨(some 16), .mv, [(.t 61)], none⟩]) (.seq (.reg [⟨(some 63), .mv, [(.t 0)], none⟩, ⟨(some 64), .mv, [(.t 14)], none⟩, ⟨(some 65), (.bin .add), [(.t 64), (.c (.int .i64 1))], none⟩, ⟨(some 66), .mv, [(.t 2)], none⟩, ⟨(some 67), (.bin .add), [(.t 66), (.c (.int .i64 1))], none⟩, ⟨(some 68), .mv, [(.t 13)], none⟩, ⟨(some 69), (.call 17), [(.t 63), (.t 65), (.t 67), (.t 68)], none⟩, ⟨(some 62), .mv, [(.t 69)], none⟩, ⟨(some 70), (.ext 0), [(.t 62)], none⟩, ⟨(some 71), (.ext 1), [(.t 62)], none⟩, ⟨(some 72), (.ext 2), [(.t 62)], none⟩, ⟨(some 13), .mv, [(.t 70)], none⟩, ⟨(some 14), .mv, [(.t 71)], none⟩, ⟨(some 15), .mv, [(.t 72)], none⟩]) (.seq (.reg [⟨(some 73), .mv, [(.t 15)], none⟩, ⟨(some 74), (.bin .eql), [(.t 73), (.c (.int .i64 0))], none⟩]) (.cond (.t 74) (.reg [⟨(some 75), .mv, [(.t 13)], none⟩, ⟨(some 76), .mv, [(.t 12)], none⟩, ⟨(some 77), .mv, [(.t 16)], none⟩, ⟨(some 78), .mv, [(.t 13)], none⟩, ⟨(some 79), .len, [(.t 78)], none⟩, ⟨(some 80), (.bin .sub), [(.t 79), (.c (.int .i64 1))], none⟩, ⟨(some 81), (.bld [(.int .i64 0), (.int .i64 0), (.int .i64 0)] [(0, 1), (1, 1), (2, 1)]), [(.t 76), (.t 77), (.t 80)], none⟩, ⟨(some 82), (.bslv 3), [(.t 81)], none⟩, ⟨(some 83), (.app 3 24), [(.t 75), (.t 82)], none⟩, ⟨(some 13), .mv, [(.t 83)], none⟩]) .skip)))))))) (.seq (.reg [⟨(some 84), .mv, [(.t 13)], none⟩, ⟨(some 85), .mv, [(.t 14)], none⟩, ⟨(some 86), .mv, [(.t 15)], none⟩, ⟨(some 8), .mv, [(.t 84)], none⟩, ⟨(some 9), .mv, [(.t 85)], none⟩, ⟨(some 10), .mv, [(.t 86)], none⟩]) .ret)))))))
theorem b_spec_l11Read : Body Tryd.prog 17 87 c_spec_l11Read [(.t 8), (.t 9), (.t 10)] := body_mk Tryd.func17 (by kernel_rfl) (by decide)

def c_spec_l11Atom : ICode := (.seq (.reg [⟨(some 6), .mv, [(.c .snil)], none⟩, ⟨(some 7), .mv, [(.c (.int .i64 0))], none⟩, ⟨(some 8), .mv, [(.c (.int .i64 0))], none⟩]) (.seq (.seq (.reg [⟨(some 14), .mv, [(.t 1)], none⟩, ⟨(some 15), .mv, [(.t 0)], none⟩, ⟨(some 16), .lens, [(.t 15)], none⟩, ⟨(some 17), (.bin .geq), [(.t 14), (.t 16)], none⟩]) (.cond (.t 17) (.seq (.reg [⟨(some 18), .mv, [(.t 2)], none⟩, ⟨(some 19), .mv, [(.t 0)], none⟩, ⟨(some 20), .lens, [(.t 19)], none⟩, ⟨(some 6), .mv, [(.t 18)], none⟩, ⟨(some 7), .mv, [(.t 20)], none⟩, ⟨(some 8), .mv, [(.c (.int .i64 2))], none⟩]) .ret) .skip)) (.seq (.reg [⟨(some 21), .mv, [(.t 2)], none⟩, ⟨(some 22), .mv, [(.t 1)], none⟩, ⟨(some 23), (.bin .add), [(.t 22), (.c (.int .i64 1))], none⟩, ⟨(some 9), .mv, [(.t 21)], none⟩, ⟨(some 10), .mv, [(.t 23)], none⟩]) (.seq (.block 0 (.seq (.reg [⟨(some 27), .mv, [(.t 0)], none⟩, ⟨(some 28), .mv, [(.t 1)], none⟩, ⟨(some 29), .idx, [(.t 27), (.t 28)], none⟩, ⟨(some 30), (.bin .eql), [(.t 29), (.c (.int .u8 64))], none⟩, ⟨(some 26), .mv, [(.t 30)], none⟩]) (.cond (.t 26) (.reg [⟨(some 31), .mv, [(.t 9)], none⟩, ⟨(some 32), (.bld [(.int .i64 0), (.int .i64 0), (.int .i64 0)] [(0, 1)]), [(.c (.int .i64 1))], none⟩, ⟨(some 33), (.bslv 3), [(.t 32)], none⟩, ⟨(some 34), (.app 3 24), [(.t 31), (.t 33)], none⟩, ⟨(some 9), .mv, [(.t 34)], none⟩]) (.seq (.reg [⟨(some 36), .mv, [(.t 0)], none⟩, ⟨(some 37), .mv, [(.t 1)], none⟩, ⟨(some 38), .idx, [(.t 36), (.t 37)], none⟩, ⟨(some 39), (.bin .eql), [(.t 38), (.c (.int .u8 95))], none⟩, ⟨(some 35), .mv, [(.t 39)], none⟩]) (.cond (.t 35) (.reg [⟨(some 40), .mv, [(.t 9)], none⟩, ⟨(some 41), (.bld [(.int .i64 0), (.int .i64 0), (.int .i64 0)] [(0, 1)]), [(.c (.int .i64 2))], none⟩, ⟨(some 42), (.bslv 3), [(.t 41)], none⟩, ⟨(some 43), (.app 3 24), [(.t 40), (.t 42)], none⟩, ⟨(some 9), .mv, [(.t 43)], none⟩]) (.seq (.reg [⟨(some 45), .mv, [(.t 0)], none⟩, ⟨(some 46), .mv, [(.t 1)], none⟩, ⟨(some 47), .idx, [(.t 45), (.t 46)], none⟩, ⟨(some 48), (.bin .geq), [(.t 47), (.c (.int .u8 48))], none⟩, ⟨(some 49), .mv, [(.t 48)], none⟩, ⟨(some 50), .mv, [(.t 0)], (some (49, true))⟩, ⟨(some 51), .mv, [(.t 1)], (some (49, true))⟩, ⟨(some 52), .idx, [(.t 50), (.t 51)], (some (49, true))⟩, ⟨(some 53), (.cvt .i64), [(.t 52)], (some (49, true))⟩, ⟨(some 54), (.bin .lss), [(.t 53), (.c (.int .i64 56))], (some (49, true))⟩, ⟨(some 55), .pick, [(.t 49), (.t 54), (.c (.bool false))], none⟩, ⟨(some 44), .mv, [(.t 55)], none⟩]) (.cond (.t 44) (.reg [⟨(some 56), .mv, [(.t 9)], none⟩, ⟨(some 57), .mv, [(.t 0)], none⟩, ⟨(some 58), .mv, [(.t 1)], none⟩, ⟨(some 59), .idx, [(.t 57), (.t 58)], none⟩, ⟨(some 60), (.cvt .i64), [(.t 59)], none⟩, ⟨(some 61), (.bin .sub), [(.t 60), (.c (.int .i64 48))], none⟩, ⟨(some 62), (.bld [(.int .i64 0), (.int .i64 0), (.int .i64 0)] [(0, 1), (1, 1)]), [(.c (.int .i64 3)), (.t 61)], none⟩, ⟨(some 63), (.bslv 3), [(.t 62)], none⟩, ⟨(some 64), (.app 3 24), [(.t 56), (.t 63)], none⟩, ⟨(some 9), .mv, [(.t 64)], none⟩]) (.seq (.reg [⟨(some 66), .mv, [(.t 0)], none⟩, ⟨(some 67), .mv, [(.t 1)], none⟩, ⟨(some 68), .idx, [(.t 66), (.t 67)], none⟩, ⟨(some 69), (.bin .eql), [(.t 68), (.c (.int .u8 40))], none⟩, ⟨(some 65), .mv, [(.t 69)], none⟩]) (.cond (.t 65) (.seq (.reg [⟨(some 71), .mv, [(.t 0)], none⟩, ⟨(some 72), .mv, [(.t 1)], none⟩, ⟨(some 73), (.bin .add), [(.t 72), (.c (.int .i64 1))], none⟩, ⟨(some 74), .mv, [(.t 2)], none⟩, ⟨(some 75), (.call 17), [(.t 71), (.t 73), (.c (.int .i64 0)), (.t 74)], none⟩, ⟨(some 70), .mv, [(.t 75)], none⟩, ⟨(some 76), (.ext 0), [(.t 70)], none⟩, ⟨(some 77), (.ext 1), [(.t 70)], none⟩, ⟨(some 78), (.ext 2), [(.t 70)], none⟩, ⟨(some 11), .mv, [(.t 76)], none⟩, ⟨(some 12), .mv, [(.t 77)], none⟩, ⟨(some 13), .mv, [(.t 78)], none⟩]) (.seq (.block 1 (.seq (.reg [⟨(some 80), .mv, [(.t 13)], none⟩, ⟨(some 81), (.bin .neq), [(.t 80), (.c (.int .i64 0))], none⟩, ⟨(some 79), .mv, [(.t 81)], none⟩]) (.cond (.t 79) (.seq (.reg [⟨(some 82), .mv, [(.t 11)], none⟩, ⟨(some 83), .mv, [(.t 12)], none⟩, ⟨(some 84), .mv, [(.t 13)], none⟩, ⟨(some 6), .mv, [(.t 82)], none⟩, ⟨(some 7), .mv, [(.t 83)], none⟩, ⟨(some 8), .mv, [(.t 84)], none⟩]) .ret) (.seq (.reg [⟨(some 86), .mv, [(.t 12)], none⟩, ⟨(some 87), .mv, [(.t 0)], none⟩, ⟨(some 88), .lens, [(.t 87)], none⟩, ⟨(some 89), (.bin .geq), [(.t 86), (.t 88)], none⟩, ⟨(some 85), .mv, [(.t 89)], none⟩]) (.cond (.t 85) (.seq (.reg [⟨(some 90), .mv, [(.t 11)], none⟩, ⟨(some 91), .mv, [(.t 0)], none⟩, ⟨(some 92), .lens, [(.t 91)], none⟩, ⟨(some 6), .mv, [(.t 90)], none⟩, ⟨(some 7), .mv, [(.t 92)], none⟩, ⟨(some 8), .mv, [(.c (.int .i64 2))], none⟩]) .ret) (.seq (.reg [⟨(some 94), .mv, [(.t 0)], none⟩, ⟨(some 95), .mv, [(.t 12)], none⟩, ⟨(some 96), .idx, [(.t 94), (.t 95)], none⟩, ⟨(some 97), (.bin .neq), [(.t 96), (.c (.int .u8 41))], none⟩, ⟨(some 93), .mv, [(.t 97)], none⟩]) (.cond (.t 93) (.seq (.reg [⟨(some 98), .mv, [(.t 11)], none⟩, ⟨(some 99), .mv, [(.t 12)], none⟩, ⟨(some 6), .mv, [(.t 98)], none⟩, ⟨(some 7), .mv, [(.t 99)], none⟩, ⟨(some 8), .mv, [(.c (.int .i64 3))], none⟩]) .ret) .skip))))))) (.seq (.reg [⟨(some 100), .mv, [(.t 11)], none⟩, ⟨(some 9), .mv, [(.t 100)], none⟩]) (.reg [⟨(some 101), .mv, [(.t 12)], none⟩, ⟨(some 102), (.bin .add), [(.t 101), (.c (.int .i64 1))], none⟩, ⟨(some 10), .mv, [(.t 102)], none⟩])))) (.seq (.reg [⟨(some 24), .mv, [(.t 2)], none⟩, ⟨(some 25), .mv, [(.t 1)], none⟩, ⟨(some 6), .mv, [(.t 24)], none⟩, ⟨(some 7), .mv, [(.t 25)], none⟩, ⟨(some 8), .mv, [(.c (.int .i64 3))], none⟩]) .ret)))))))))) (.seq (.block 2 (.loop (.seq (.seq (.reg [⟨(some 103), .mv, [(.t 10)], none⟩, ⟨(some 104), .mv, [(.t 0)], none⟩, ⟨(some 105), .lens, [(.t 104)], none⟩, ⟨(some 106), (.bin .lss), [(.t 103), (.t 105)], none⟩, ⟨(some 107), .mv, [(.t 106)], none⟩, ⟨(some 108), .mv, [(.t 0)], (some (107, true))⟩, ⟨(some 109), .mv, [(.t 10)], (some (107, true))⟩, ⟨(some 110), .idx, [(.t 108), (.t 109)], (some (107, true))⟩, ⟨(some 111), (.bin .eql), [(.t 110), (.c (.int .u8 42))], (some (107, true))⟩, ⟨(some 112), .pick, [(.t 107), (.t 111), (.c (.bool false))], none⟩]) (.cond (.t 112) .skip (.exit 2))) (.block 3 (.seq (.reg [⟨(some 113), .mv, [(.t 9)], none⟩, ⟨(some 114), .mv, [(.t 9)], none⟩, ⟨(some 115), .len, [(.t 114)], none⟩, ⟨(some 116), (.bin .sub), [(.t 115), (.c (.int .i64 1))], none⟩, ⟨(some 117), (.bld [(.int .i64 0), (.int .i64 0), (.int .i64 0)] [(0, 1), (1, 1)]), [(.c (.int .i64 4)), (.t 116)], none⟩, ⟨(some 118), (.bslv 3), [(.t 117)], none⟩, ⟨(some 119), (.app 3 24), [(.t 113), (.t 118)], none⟩, ⟨(some 9), .mv, [(.t 119)], none⟩]) (.reg [⟨(some 120), .mv, [(.t 10)], none⟩, ⟨(some 121), (.bin .add), [(.t 120), (.c (.int .i64 1))], none⟩, ⟨(some 10), .mv, [(.t 121)], none⟩])))))) (.seq (.reg [⟨(some 122), .mv, [(.t 9)], none⟩, ⟨(some 123), .mv, [(.t 10)], none⟩, ⟨(some 6), .mv, [(.t 122)], none⟩, ⟨(some 7), .mv, [(.t 123)], none⟩, ⟨(some 8), .mv, [(.c (.int .i64 0))], none⟩]) .ret))))))
theorem b_spec_l11Atom : Body Tryd.prog 23 124 c_spec_l11Atom [(.t 6), (.t 7), (.t 8)] := body_mk Tryd.func23 (by kernel_rfl) (by decide)


theorem u8_of {x : UInt8} {k : Int} (y : UInt8) (hk : (y.toNat : Int) = k) (h : (x.toNat : Int) = k) : x = y := UInt8.toNat_inj.1 (by omega)
theorem u8_not {x : UInt8} {k : Int} (y : UInt8) (hk : (y.toNat : Int) = k) (h : ¬ (x.toNat : Int) = k) : x ≠ y := fun e => h (by rw [e]; exact hk)

def GS (b m : Nat) : GFun := fun xs objs Q => ∃ (s : List UInt8) (p : Nat) (l : List NodeD), xs = [.str s, .int .i64 ((p : Nat) : Int), .int .i64 ((m : Nat) : Int), .ref 0 0 l.length] ∧ objs = [.arr 3 (nodeRows l)] ∧ s.length ≤ 200 ∧ p ≤ s.length ∧ l.length ≤ p ∧ need s m p ≤ b ∧
  ∀ R, R = rr s b m ⟨p, 0, l⟩ → p ≤ R.p → R.p ≤ s.length → R.l.length + p ≤ l.length + R.p → Q (.tup [.ref 1 0 R.l.length, .int .i64 R.p, .int .i64 R.c]) [none, some (.arr 3 (nodeRows R.l))]
def GSLt (b : Nat) : GFun := fun xs objs Q => ∃ b' m, b' < b ∧ m ≤ 2 ∧ GS b' m xs objs Q
theorem GSLt_mk {b : Nat} (b' m : Nat) {s : List UInt8} {p : Nat} {l : List NodeD} {Q : AV → List (Option AObj) → Prop} (hb : b' < b) (h1 : s.length ≤ 200) (h2 : p ≤ s.length) (h3 : l.length ≤ p) (h4 : need s m p ≤ b')
    (hq : ∀ R, R = rr s b' m ⟨p, 0, l⟩ → p ≤ R.p → R.p ≤ s.length → R.l.length + p ≤ l.length + R.p → Q (.tup [.ref 1 0 R.l.length, .int .i64 R.p, .int .i64 R.c]) [none, some (.arr 3 (nodeRows R.l))]) (hm : m ≤ 2 := by omega) :
    GSLt b [.str s, .int .i64 ((p : Nat) : Int), .int .i64 ((m : Nat) : Int), .ref 0 0 l.length] [.arr 3 (nodeRows l)] Q := ⟨b', m, hb, hm, s, p, l, rfl, rfl, h1, h2, h3, h4, hq⟩
def GA (b : Nat) : GFun := fun xs objs Q => ∃ (s : List UInt8) (p : Nat) (l : List NodeD), xs = [.str s, .int .i64 ((p : Nat) : Int), .ref 0 0 l.length] ∧ objs = [.arr 3 (nodeRows l)] ∧ s.length ≤ 200 ∧ p ≤ s.length ∧ l.length ≤ p ∧ need s 2 p ≤ b ∧
  ∀ R, R = rr s b 2 ⟨p, 0, l⟩ → p ≤ R.p → R.p ≤ s.length → R.l.length + p ≤ l.length + R.p → Q (.tup [.ref 1 0 R.l.length, .int .i64 R.p, .int .i64 R.c]) [none, some (.arr 3 (nodeRows R.l))]
theorem GA_mk {b : Nat} {s : List UInt8} {p : Nat} {l : List NodeD} {Q : AV → List (Option AObj) → Prop} (h1 : s.length ≤ 200) (h2 : p ≤ s.length) (h3 : l.length ≤ p) (h4 : need s 2 p ≤ b)
    (hq : ∀ R, R = rr s b 2 ⟨p, 0, l⟩ → p ≤ R.p → R.p ≤ s.length → R.l.length + p ≤ l.length + R.p → Q (.tup [.ref 1 0 R.l.length, .int .i64 R.p, .int .i64 R.c]) [none, some (.arr 3 (nodeRows R.l))]) :
    GA b [.str s, .int .i64 ((p : Nat) : Int), .ref 0 0 l.length] [.arr 3 (nodeRows l)] Q := ⟨s, p, l, rfl, rfl, h1, h2, h3, h4, hq⟩

theorem two_ok {q : PR} {k f : Int} (h : q.c = 0) : q.two k f = ⟨q.p, 0, q.l ++ [⟨k, f, (q.l.length : Int) - 1⟩]⟩ := by unfold PR.two; rw [if_pos h]
theorem two_bad {q : PR} {k f : Int} (h : ¬ q.c = 0) : q.two k f = q := by unfold PR.two; rw [if_neg h]
theorem one_ok {q : PR} {k : Int} (h : q.c = 0) : q.one k = ⟨q.p, 0, q.l ++ [⟨k, (q.l.length : Int) - 1, 0⟩]⟩ := by unfold PR.one; rw [if_pos h]
theorem one_bad {q : PR} {k : Int} (h : ¬ q.c = 0) : q.one k = q := by unfold PR.one; rw [if_neg h]
theorem close_0 {s : List UInt8} {q : PR} (hc : q.c = 0) (hp : q.p < s.length) (hx : s.getD q.p 0 = 41) : q.close s = ⟨q.p + 1, 0, q.l⟩ := by
  unfold PR.close PR.adv
  rw [if_pos hc, if_pos (isB_pos hp hx), hc]
theorem close_end {s : List UInt8} {q : PR} (hc : q.c = 0) (hp : ¬ q.p < s.length) (h : q.p ≤ s.length) : q.close s = ⟨s.length, 2, q.l⟩ := by
  unfold PR.close PR.bad
  rw [if_pos hc, isB_neg (.inl hp), if_neg hp]
  simp
  omega
theorem close_word {s : List UInt8} {q : PR} (hc : q.c = 0) (hp : q.p < s.length) (hx : s.getD q.p 0 ≠ 41) : q.close s = ⟨q.p, 3, q.l⟩ := by
  unfold PR.close PR.bad
  rw [if_pos hc, isB_neg (.inr hx), if_pos hp]
  simp
theorem close_bad {s : List UInt8} {q : PR} (hc : ¬ q.c = 0) : q.close s = q := by
  unfold PR.close
  rw [if_neg hc]

/-- the end of a reading -/
theorem sp_fin {Q : AV → List (Option AObj) → Prop} {h : Heap} {k n : Nat} {p c : Int} (q : PR) {rows : List (List AV)} (hk : h k = some (.arr 3 rows)) (hn : n = q.l.length) (hr : rows = nodeRows q.l) (hp : p = q.p) (hc : c = q.c)
    (hQ : Q (.tup [.ref 1 0 q.l.length, .int .i64 q.p, .int .i64 q.c]) [none, some (.arr 3 (nodeRows q.l))]) : ∃ σ r out, CovS σ h out ∧ covV σ h (.tup [.ref k 0 n, .int .i64 p, .int .i64 c]) r ∧ ancB σ out 1 = true ∧ Q r out := by
  subst hn hr hp hc
  refine ⟨[none, some k], _, _, ⟨rfl, ?_⟩, ?_, rfl, hQ⟩
  · refine And.intro ?_ trivial
    rw [hk]; exact And.intro rfl rfl
  · exact And.intro rfl (And.intro (.inl rfl) (And.intro (.inl rfl) trivial))
/-- .. of a part of one -/
theorem sp_cov {e : Env} {h : Heap} {k n : Nat} {rows : List (List AV)} (l : List NodeD) (t : Nat) (hv : e t = .ref k 0 n) (hk : h k = some (.arr 3 rows)) (hr : rows = nodeRows l) {L : List (Nat × AV)} (he : covAll [none, some k] h e L) : CovN [none, some k] e h L [none, some (.arr 3 (nodeRows l))] 1 := by
  subst hr
  refine ⟨rfl, rfl, ?_, he⟩
  refine And.intro ?_ trivial
  rw [hk]; exact And.intro rfl rfl

theorem len_app {l : List NodeD} {x : NodeD} : l.length + 1 = (l ++ [x]).length := by simp

theorem at_bad {s : List UInt8} {b p : Nat} {l : List NodeD} (hlt : p < s.length) (h1 : s.getD p 0 ≠ 40) (h2 : s.getD p 0 ≠ 64) (h3 : s.getD p 0 ≠ 95) (hd : ¬ (48 ≤ (s.getD p 0).toNat ∧ (s.getD p 0).toNat < 56)) :
    PR.mk p 3 l = rr s (b + 2) 2 ⟨p, 0, l⟩ := by
  rw [rr_2, rr_5x rfl (isB_neg (.inr h1)) (isB_neg (.inr h2)) (isB_neg (.inr h3)) (fun h => hd h.2), stars_no (.inl (by simp [PR.bad, hlt]))]
  simp only [PR.bad, if_pos hlt]
theorem at_br {s : List UInt8} {b p : Nat} {l : List NodeD} {t : PR} (hlt : p < s.length) (h1 : s.getD p 0 = 40) (e : (rr s b 0 ⟨p + 1, 0, l⟩).close s = t) : rr s (b + 1) 5 ⟨p, 0, l⟩ = t := by
  rw [rr_5b rfl (isB_pos hlt h1)]
  exact e
theorem at_er {s : List UInt8} {b p : Nat} {l : List NodeD} {t : PR} (hc : t.c ≠ 0) (e : rr s (b + 1) 5 ⟨p, 0, l⟩ = t) : t = rr s (b + 2) 2 ⟨p, 0, l⟩ := by
  rw [rr_2, e, stars_no (.inl hc)]

set_option maxHeartbeats 8000000 in
theorem s_l11Atom {b : Nat} (h0 : GenSound Tryd.prog 17 1 (GSLt (b + 2))) : GenSound Tryd.prog 23 1 (GA (b + 2)) := by
  have hR : Rely Tryd.prog (ctxOf [(17, .gen 1 (GSLt (b + 2)))]) := rely_cons b_spec_l11Read.has h0 (rely_nil mixed)
  refine gen_of_aw b_spec_l11Atom ?_
  rintro xs objs Q - ⟨s, p, l, rfl, rfl, hs, hp, hl, hf, hq⟩ -
  have hln := length_nodeRows l
  simp only [need, rank] at hf
  refine ⟨by simp, ?_⟩
  refine Aw.meet (α := Unit) (fun _ => True) (fun _ => [(0, .str s), (1, .int .i64 p), (2, .ref 0 0 l.length)]) (fun _ => [some (.arr 3 (nodeRows l))]) ?_ ?_
  · refine vc2_sound hR _ _ _ _ _ ?_
    conv => whnf
    repeat' ((first
      | (refine And.intro (fun hb => ?_) (fun hb => ?_) <;> ((try simp only [SB, reduceCtorEq] at hb); try (exfalso; omega)))
      | refine And.intro rfl ?_
      | refine ⟨_, IntWalk.i64_in _ (by omega), ?_⟩
      | rw [ints_at (by omega)]
      | rw [ints_at0 (by omega)]
      | rw [ints_at' (by omega) (by omega)]
      | refine And.intro (lens_all rfl) ?_
      | refine And.intro (show _ ≤ _ ∧ (_ + 1) * _ ≤ _ ∧ _ + 1 ≤ _ by first | omega | (simp; omega)) ?_
      | refine And.intro (show 1 * _ ≤ _ ∧ 1 ≤ _ by omega) ?_
      | refine And.intro (by first | omega | (simp; omega) | (show _ ∧ _; simp; done)) ?_
      | fail) <;> conv => whnf)
    refine ⟨(), trivial, [some 0], rfl, rfl, And.intro (And.intro rfl rfl) trivial, ?_⟩
    repeat' (first
      | exact trivial
      | refine ⟨?_, ?_⟩
      | fail)
    all_goals first
      | with_reducible rfl
      | (conv => whnf
         try left
         conv => lhs; whnf
         first
           | rfl
           | exact congrArg (AV.int .i64) (by omega)
           | skip)
  rintro _ -
  refine Aw.meet (α := Unit) (fun _ => p < s.length) (fun _ => [(0, .str s), (1, .int .i64 p), (2, .ref 0 0 l.length)]) (fun _ => [some (.arr 3 (nodeRows l))]) ?_ ?_
  · refine vc2_sound hR _ _ _ _ _ ?_
    conv => whnf
    repeat' ((first
      | (refine And.intro (fun hb => ?_) (fun hb => ?_) <;> ((try simp only [SB, reduceCtorEq] at hb); try (exfalso; omega)))
      | refine And.intro rfl ?_
      | refine ⟨_, IntWalk.i64_in _ (by omega), ?_⟩
      | rw [ints_at (by omega)]
      | rw [ints_at0 (by omega)]
      | rw [ints_at' (by omega) (by omega)]
      | refine And.intro (lens_all rfl) ?_
      | refine And.intro (show _ ≤ _ ∧ (_ + 1) * _ ≤ _ ∧ _ + 1 ≤ _ by first | omega | (simp; omega)) ?_
      | refine And.intro (show 1 * _ ≤ _ ∧ 1 ≤ _ by omega) ?_
      | refine And.intro (by first | omega | (simp; omega) | (show _ ∧ _; simp; done)) ?_
      | fail) <;> conv => whnf)
    · refine ⟨.inl rfl, ?_⟩
      conv => whnf
      have hpl : ¬ p < s.length := by omega
      have e : PR.mk s.length 2 l = rr s (b + 2) 2 ⟨p, 0, l⟩ := by
        have hn : ∀ y, isB s p y = false := fun y => isB_neg (.inl hpl)
        rw [rr_2, rr_5x rfl (hn _) (hn _) (hn _) (fun h => hpl h.1), stars_no (.inl (by simp [PR.bad, hpl]))]
        simp only [PR.bad, if_neg hpl]
        congr 1
        omega
      exact sp_fin (PR.mk s.length 2 l) rfl rfl rfl rfl rfl (hq _ e (by (try dsimp only at *); omega) (by (try dsimp only at *); omega) (by (try simp only [List.length_append, List.length_cons, List.length_nil] at *); omega))
    · refine ⟨(), by omega, [some 0], rfl, rfl, And.intro (And.intro rfl rfl) trivial, ?_⟩
      repeat' (first
        | exact trivial
        | refine ⟨?_, ?_⟩
        | fail)
      all_goals first
        | with_reducible rfl
        | (conv => whnf
           try left
           conv => lhs; whnf
           first
             | rfl
             | exact congrArg (AV.int .i64) (by omega)
             | skip)
  rintro _ hlt
  refine Aw.meet (α := Unit) (fun _ => True) (fun _ => [(0, .str s), (1, .int .i64 p), (2, .ref 0 0 l.length), (9, .ref 0 0 l.length), (10, .int .i64 ((p + 1 : Nat) : Int))]) (fun _ => [some (.arr 3 (nodeRows l))]) ?_ ?_
  · refine vc2_sound hR _ _ _ _ _ ?_
    conv => whnf
    repeat' ((first
      | (refine And.intro (fun hb => ?_) (fun hb => ?_) <;> ((try simp only [SB, reduceCtorEq] at hb); try (exfalso; omega)))
      | refine And.intro rfl ?_
      | refine ⟨_, IntWalk.i64_in _ (by omega), ?_⟩
      | rw [ints_at (by omega)]
      | rw [ints_at0 (by omega)]
      | rw [ints_at' (by omega) (by omega)]
      | refine And.intro (lens_all rfl) ?_
      | refine And.intro (show _ ≤ _ ∧ (_ + 1) * _ ≤ _ ∧ _ + 1 ≤ _ by first | omega | (simp; omega)) ?_
      | refine And.intro (show 1 * _ ≤ _ ∧ 1 ≤ _ by omega) ?_
      | refine And.intro (by first | omega | (simp; omega) | (show _ ∧ _; simp; done)) ?_
      | fail) <;> conv => whnf)
    refine ⟨(), trivial, [some 0], rfl, rfl, And.intro (And.intro rfl rfl) trivial, ?_⟩
    repeat' (first
      | exact trivial
      | refine ⟨?_, ?_⟩
      | fail)
    all_goals first
      | with_reducible rfl
      | (conv => whnf
         try left
         conv => lhs; whnf
         first
           | rfl
           | exact congrArg (AV.int .i64) (by omega)
           | skip)
  rintro _ -
  refine Aw.meet (α := PR) (fun q => q = rr s (b + 1) 5 ⟨p, 0, l⟩ ∧ q.c = 0 ∧ p ≤ q.p ∧ q.p ≤ s.length ∧ q.l.length + p ≤ l.length + q.p) (fun q => [(0, .str s), (9, .ref 1 0 q.l.length), (10, .int .i64 q.p)]) (fun q => [none, some (.arr 3 (nodeRows q.l))]) ?_ ?_
  · refine vc2_sound hR _ _ _ _ _ ?_
    have hy := byte_le (s.getD p 0)
    conv => whnf
    repeat' ((first
      | (refine And.intro (fun hb => ?_) (fun hb => ?_) <;> ((try simp only [SB, reduceCtorEq] at hb); try (exfalso; omega)))
      | refine And.intro rfl ?_
      | refine ⟨_, IntWalk.i64_in _ (by omega), ?_⟩
      | rw [ints_at (by omega)]
      | rw [ints_at0 (by omega)]
      | rw [ints_at' (by omega) (by omega)]
      | refine And.intro (lens_all rfl) ?_
      | refine And.intro (show _ ≤ _ ∧ (_ + 1) * _ ≤ _ ∧ _ + 1 ≤ _ by first | omega | (simp; omega)) ?_
      | refine And.intro (show 1 * _ ≤ _ ∧ 1 ≤ _ by omega) ?_
      | refine And.intro (by first | omega | (simp; omega) | (show _ ∧ _; simp; done)) ?_
      | rw [str_idx (by omega)]
      | (refine ⟨GSLt_mk b 0 (p := p + 1) (l := l) (by omega) hs (by omega) (by omega) (by simp only [need, rank]; omega) (fun q e1 a2 a3 a4 => ?_)⟩)
      | fail) <;> conv => whnf)
    · refine ⟨(PR.mk (p + 1) 0 (l ++ [NodeD.mk 1 0 0])), ⟨(rr_5n (r := ⟨p, 0, l⟩) rfl (isB_pos hlt (u8_of 64 rfl hb))).symm, rfl, by (try dsimp only at *); omega, by (try dsimp only at *); omega, by (try simp only [List.length_append, List.length_cons, List.length_nil] at *); omega⟩, _, sp_cov (PR.mk (p + 1) 0 (l ++ [NodeD.mk 1 0 0])).l 9 (by exact rfl) (by exact rfl) (by exact node_app) ?_⟩
      exact ⟨.inl rfl, congrArg (AV.ref _ 0) len_app, .inl rfl, trivial⟩
    · refine ⟨(PR.mk (p + 1) 0 (l ++ [NodeD.mk 2 0 0])), ⟨(rr_5e (r := ⟨p, 0, l⟩) rfl (isB_pos hlt (u8_of 95 rfl hb))).symm, rfl, by (try dsimp only at *); omega, by (try dsimp only at *); omega, by (try simp only [List.length_append, List.length_cons, List.length_nil] at *); omega⟩, _, sp_cov (PR.mk (p + 1) 0 (l ++ [NodeD.mk 2 0 0])).l 9 (by exact rfl) (by exact rfl) (by exact node_app) ?_⟩
      exact ⟨.inl rfl, congrArg (AV.ref _ 0) len_app, .inl rfl, trivial⟩
    · refine ⟨(PR.mk (p + 1) 0 (l ++ [NodeD.mk 3 (((s.getD p 0).toNat : Int) - 48) 0])), ⟨(rr_5d (r := ⟨p, 0, l⟩) rfl hlt (by dsimp only; omega) (by dsimp only; omega)).symm, rfl, by (try dsimp only at *); omega, by (try dsimp only at *); omega, by (try simp only [List.length_append, List.length_cons, List.length_nil] at *); omega⟩, _, sp_cov (PR.mk (p + 1) 0 (l ++ [NodeD.mk 3 (((s.getD p 0).toNat : Int) - 48) 0])).l 9 (by exact rfl) (by exact rfl) (by exact node_app) ?_⟩
      exact ⟨.inl rfl, congrArg (AV.ref _ 0) len_app, .inl rfl, trivial⟩
    · refine ⟨.inl rfl, ?_⟩
      conv => whnf
      exact sp_fin (PR.mk p 3 l) rfl rfl rfl rfl rfl (hq _ (at_bad hlt (u8_not 40 rfl (by assumption)) (u8_not 64 rfl (by assumption)) (u8_not 95 rfl (by assumption)) (by omega)) (by (try dsimp only at *); omega) (by (try dsimp only at *); omega) (by (try simp only [List.length_append, List.length_cons, List.length_nil] at *); omega))
    · refine ⟨.inl rfl, ?_⟩
      conv => whnf
      exact sp_fin q rfl rfl rfl rfl rfl (hq _ (at_er hb (at_br hlt (u8_of 40 rfl (by assumption)) (by rw [← e1]; exact close_bad hb))) (by (try dsimp only at *); omega) (by (try dsimp only at *); omega) (by (try simp only [List.length_append, List.length_cons, List.length_nil] at *); omega))
    · refine ⟨.inl rfl, ?_⟩
      conv => whnf
      exact sp_fin (PR.mk s.length 2 q.l) rfl rfl rfl rfl rfl (hq _ (at_er (by simp) (at_br hlt (u8_of 40 rfl (by assumption)) (by rw [← e1]; exact close_end (by assumption) (by omega) a3))) (by (try dsimp only at *); omega) (by (try dsimp only at *); omega) (by (try simp only [List.length_append, List.length_cons, List.length_nil] at *); omega))
    · refine ⟨.inl rfl, ?_⟩
      conv => whnf
      exact sp_fin (PR.mk q.p 3 q.l) rfl rfl rfl rfl rfl (hq _ (at_er (by simp) (at_br hlt (u8_of 40 rfl (by assumption)) (by rw [← e1]; exact close_word (by assumption) (by omega) (u8_not 41 rfl hb)))) (by (try dsimp only at *); omega) (by (try dsimp only at *); omega) (by (try simp only [List.length_append, List.length_cons, List.length_nil] at *); omega))
    · refine ⟨(PR.mk (q.p + 1) 0 q.l), ⟨(at_br hlt (u8_of 40 rfl (by assumption)) (by rw [← e1]; exact close_0 (by assumption) (by omega) (u8_of 41 rfl hb))).symm, rfl, by (try dsimp only at *); omega, by (try dsimp only at *); omega, by (try simp only [List.length_append, List.length_cons, List.length_nil] at *); omega⟩, _, sp_cov (PR.mk (q.p + 1) 0 q.l).l 9 (by exact rfl) (by exact rfl) (by exact rfl) ?_⟩
      exact ⟨.inl rfl, rfl, .inl rfl, trivial⟩
    · refine ⟨.inl rfl, ?_⟩
      conv => whnf
      exact sp_fin (PR.mk p 3 l) rfl rfl rfl rfl rfl (hq _ (at_bad hlt (u8_not 40 rfl (by assumption)) (u8_not 64 rfl (by assumption)) (u8_not 95 rfl (by assumption)) (by omega)) (by (try dsimp only at *); omega) (by (try dsimp only at *); omega) (by (try simp only [List.length_append, List.length_cons, List.length_nil] at *); omega))
  · rintro q ⟨e1, hc, a2, a3, a4⟩
    refine vc2_sound hR _ _ _ _ _ ?_
    conv => whnf
    repeat' ((first
      | (refine And.intro (fun hb => ?_) (fun hb => ?_) <;> ((try simp only [SB, reduceCtorEq] at hb); try (exfalso; omega)))
      | refine And.intro rfl ?_
      | refine ⟨_, IntWalk.i64_in _ (by omega), ?_⟩
      | rw [ints_at (by omega)]
      | rw [ints_at0 (by omega)]
      | rw [ints_at' (by omega) (by omega)]
      | refine And.intro (lens_all rfl) ?_
      | refine And.intro (show _ ≤ _ ∧ (_ + 1) * _ ≤ _ ∧ _ + 1 ≤ _ by first | omega | (simp; omega)) ?_
      | refine And.intro (show 1 * _ ≤ _ ∧ 1 ≤ _ by omega) ?_
      | refine And.intro (by first | omega | (simp; omega) | (show _ ∧ _; simp; done)) ?_
      | fail) <;> conv => whnf)
    refine Lp.intro (α := Nat × PR) (fun a => s.length ≤ a.2.p + a.1 ∧ a.2.c = 0 ∧ p ≤ a.2.p ∧ a.2.p ≤ s.length ∧ a.2.l.length + p ≤ l.length + a.2.p ∧ stars s a.1 a.2 = rr s (b + 2) 2 ⟨p, 0, l⟩) (fun a => a.1)
      (fun a => [(0, .str s), (9, .ref 1 0 a.2.l.length), (10, .int .i64 a.2.p)]) (fun a => [none, some (.arr 3 (nodeRows a.2.l))]) ?_ ?_
    · refine ⟨(s.length, q), ⟨by dsimp only; omega, hc, a2, a3, a4, by rw [rr_2, e1]⟩, _, sp_cov q.l 9 (by exact rfl) (by exact rfl) (by exact rfl) ?_⟩
      exact ⟨.inl rfl, rfl, .inl rfl, trivial⟩
    clear e1 hc a2 a3 a4 q
    rintro ⟨n, q⟩ ⟨a0, hc, a2, a3, a4, a1⟩
    dsimp only at a0 hc a2 a3 a4 a1 ⊢
    have hlq := length_nodeRows q.l
    refine vc2_sound hR _ _ _ _ _ ?_
    conv => whnf
    repeat' ((first
      | (refine And.intro (fun hb => ?_) (fun hb => ?_) <;> ((try simp only [SB, reduceCtorEq] at hb); try (exfalso; omega)))
      | refine And.intro rfl ?_
      | refine ⟨_, IntWalk.i64_in _ (by omega), ?_⟩
      | rw [ints_at (by omega)]
      | rw [ints_at0 (by omega)]
      | rw [ints_at' (by omega) (by omega)]
      | refine And.intro (lens_all rfl) ?_
      | refine And.intro (show _ ≤ _ ∧ (_ + 1) * _ ≤ _ ∧ _ + 1 ≤ _ by first | omega | (simp; omega)) ?_
      | refine And.intro (show 1 * _ ≤ _ ∧ 1 ≤ _ by omega) ?_
      | refine And.intro (by first | omega | (simp; omega) | (show _ ∧ _; simp; done)) ?_
      | rw [str_idx (by omega)]
      | fail) <;> conv => whnf)
    · obtain ⟨m, rfl, e⟩ := stars_yes a0 hc (isB_pos (by omega) (u8_of 42 rfl (by assumption)))
      rw [e] at a1
      refine ⟨(m, PR.mk (q.p + 1) 0 (q.l ++ [NodeD.mk 4 ((q.l.length : Int) - 1) 0])), ⟨by dsimp only; omega, rfl, by dsimp only; omega, by dsimp only; omega, by simp only [List.length_append, List.length_cons, List.length_nil]; omega, a1⟩, by dsimp only; omega, _, sp_cov (q.l ++ [NodeD.mk 4 ((q.l.length : Int) - 1) 0]) 9 (by exact rfl) (by exact rfl) (by exact node_app) ?_⟩
      exact ⟨.inl rfl, congrArg (AV.ref _ 0) len_app, .inl rfl, trivial⟩
    all_goals
      have hn : q.c ≠ 0 ∨ isB s q.p 42 = false := by
        first
        | exact .inr (isB_neg (.inl (by omega)))
        | exact .inr (isB_neg (.inr (u8_not 42 rfl (by assumption))))
      rw [stars_no hn] at a1
      refine ⟨.inl rfl, ?_⟩
      conv => whnf
      exact sp_fin q rfl rfl rfl rfl hc.symm (hq _ a1 a2 a3 a4)

end Go.Proofs.YtpfbkblgefddlaaDoor.Ct
