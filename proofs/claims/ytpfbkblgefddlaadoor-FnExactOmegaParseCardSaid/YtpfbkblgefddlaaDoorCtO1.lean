/- Nodes read from text: readings as functions of text and place; what the program's reader does. -/
import Derived.Test.YtpfbkblgefddlaaDoorProg
import Derived.Test.YtpfbkblgefddlaaDoorAvVc3
import Derived.Test.YtpfbkblgefddlaaDoorAvLoop
import Derived.KernelRfl
import Derived.IntWalk
namespace Go.Proofs.YtpfbkblgefddlaaDoor.Ct
set_option linter.unusedSimpArgs false
set_option linter.unusedVariables false
open Go Go.Proofs Go.Proofs.YtpfbkblgefddlaaDoor.Av

theorem mixed : Tryd.prog.follows .mixedOrders = true := by kernel_rfl

theorem byte_le (b : UInt8) : b.toNat ≤ 255 := by
  have := UInt8.toNat_lt b
  omega

structure NodeD where
  kind : Int
  a : Int
  b : Int
  deriving Inhabited, DecidableEq

def nodeRow (n : NodeD) : List AV := [.int .i64 n.kind, .int .i64 n.a, .int .i64 n.b]
def nodeRows (l : List NodeD) : List (List AV) := l.map nodeRow
@[simp] theorem length_nodeRows (l : List NodeD) : (nodeRows l).length = l.length := by simp [nodeRows]
theorem nodeRows_nov (l : List NodeD) : (nodeRows l).all AV.novs = true := by
  simp [nodeRows, nodeRow, AV.novs, AV.nov]

/-- how far a reading is: the place, what is wrong, the nodes -/
structure PR where
  p : Nat
  c : Int
  l : List NodeD
  deriving Inhabited

/-- a byte stands at a place -/
def isB (s : List UInt8) (p : Nat) (b : UInt8) : Bool := decide (p < s.length) && (s.getD p 0 == b)
def PR.adv (r : PR) : PR := ⟨r.p + 1, r.c, r.l⟩
def PR.bad (s : List UInt8) (r : PR) : PR := ⟨r.p, if r.p < s.length then 3 else 2, r.l⟩
def PR.leaf (k a : Int) (r : PR) : PR := ⟨r.p + 1, r.c, r.l ++ [⟨k, a, 0⟩]⟩
def PR.one (k : Int) (r : PR) : PR := if r.c = 0 then ⟨r.p, 0, r.l ++ [⟨k, (r.l.length : Int) - 1, 0⟩]⟩ else r
def PR.two (k : Int) (f : Int) (r : PR) : PR := if r.c = 0 then ⟨r.p, 0, r.l ++ [⟨k, f, (r.l.length : Int) - 1⟩]⟩ else r
def PR.close (s : List UInt8) (r : PR) : PR := if r.c = 0 then (if isB s r.p 41 then r.adv else r.bad s) else r

theorem isB_lt {s : List UInt8} {p : Nat} {b : UInt8} (h : isB s p b = true) : p < s.length := by
  simp [isB] at h; exact h.1
theorem isB_pos {s : List UInt8} {p : Nat} {b : UInt8} (h : p < s.length) (h1 : s.getD p 0 = b) : isB s p b = true := by
  unfold isB; rw [h1]; simp [h]
theorem isB_neg {s : List UInt8} {p : Nat} {b : UInt8} (h : ¬ p < s.length ∨ s.getD p 0 ≠ b) : isB s p b = false := by
  unfold isB
  rcases h with h | h
  · simp [h]
  · rw [Bool.and_eq_false_iff]; exact .inr (by simpa using h)

/-- a reading goes on in the text, a node a byte at most -/
def PR.le (s : List UInt8) (r q : PR) : Prop := r.p ≤ q.p ∧ q.p ≤ s.length ∧ q.l.length + r.p ≤ r.l.length + q.p
theorem PR.le_refl {s : List UInt8} {r : PR} (h : r.p ≤ s.length) : r.le s r := ⟨Nat.le_refl _, h, Nat.le_refl _⟩
theorem PR.le_trans {s : List UInt8} {r q t : PR} (h1 : r.le s q) (h2 : q.le s t) : r.le s t := by
  unfold PR.le at *
  omega
theorem PR.two_le {s : List UInt8} {r q : PR} {k f : Int} (h : r.adv.le s q) : r.le s (q.two k f) := by
  unfold PR.two
  split
  · simp only [PR.le, PR.adv, List.length_append, List.length_cons, List.length_nil] at *
    omega
  · simp only [PR.le, PR.adv] at *
    omega
theorem PR.one_le {s : List UInt8} {r q : PR} {k : Int} (h : r.adv.le s q) : r.le s (q.one k) := by
  unfold PR.one
  split
  · simp only [PR.le, PR.adv, List.length_append, List.length_cons, List.length_nil] at *
    omega
  · simp only [PR.le, PR.adv] at *
    omega
theorem PR.close_le {s : List UInt8} {r q : PR} (h : r.adv.le s q) : r.le s (q.close s) := by
  unfold PR.close
  split
  · split
    · rename_i hb
      have := isB_lt hb
      simp only [PR.le, PR.adv] at *
      omega
    · simp only [PR.le, PR.adv, PR.bad] at *
      omega
  · simp only [PR.le, PR.adv] at *
    omega
theorem PR.leaf_le {s : List UInt8} {r : PR} {k a : Int} (h : r.p < s.length) : r.le s (r.leaf k a) := by
  simp only [PR.le, PR.leaf, List.length_append, List.length_cons, List.length_nil]
  omega

def c_impl_reader_peek : ICode := (.seq (.reg [⟨(some 2), .mv, [(.c (.int .u8 0))], none⟩]) (.seq (.seq (.drw [⟨(some 3), .mv, [(.t 0)], none⟩, ⟨(some 4), .nck, [(.t 3)], none⟩, ⟨(some 5), (.fadr 2), [(.t 4)], none⟩, ⟨(some 6), .ld1, [(.t 5)], none⟩, ⟨(some 7), (.bin .neq), [(.t 6), (.c (.int .i64 0))], none⟩, ⟨(some 8), .mv, [(.t 7)], none⟩, ⟨(some 9), .mv, [(.t 0)], (some (8, false))⟩, ⟨(some 10), .nck, [(.t 9)], (some (8, false))⟩, ⟨(some 11), (.fadr 1), [(.t 10)], (some (8, false))⟩, ⟨(some 12), .ld1, [(.t 11)], (some (8, false))⟩, ⟨(some 13), .mv, [(.t 0)], (some (8, false))⟩, ⟨(some 14), .nck, [(.t 13)], (some (8, false))⟩, ⟨(some 15), (.fadr 0), [(.t 14)], (some (8, false))⟩, ⟨(some 16), .ld1, [(.t 15)], (some (8, false))⟩, ⟨(some 17), .lens, [(.t 16)], (some (8, false))⟩, ⟨(some 18), (.bin .geq), [(.t 12), (.t 17)], (some (8, false))⟩, ⟨(some 19), .pick, [(.t 8), (.c (.bool true)), (.t 18)], none⟩] [[], [0], [0, 1], [0, 1, 2], [0, 1, 2, 3], [0, 1, 2, 3, 4], [0, 1, 2, 3, 4, 5], [0, 1, 2, 3, 4, 5, 6], [0, 1, 2, 3, 4, 5, 6, 7], [0, 1, 2, 3, 4, 5, 6, 7, 8], [0, 1, 2, 3, 4, 5], [0, 1, 2, 3, 4, 5, 10], [0, 1, 2, 3, 4, 5, 10, 11], [0, 1, 2, 3, 4, 5, 10, 11, 12], [0, 1, 2, 3, 4, 5, 10, 11, 12, 13], [0, 1, 2, 3, 4, 5, 6, 7, 8, 9, 10, 11, 12, 13, 14], [0, 1, 2, 3, 4, 5, 6, 7, 8, 9, 10, 11, 12, 13, 14, 15]] true true) (.cond (.t 19) (.seq (.reg [⟨(some 2), .mv, [(.c (.int .u8 0))], none⟩]) .ret) .skip)) (.seq (.drw [⟨(some 20), .mv, [(.t 0)], none⟩, ⟨(some 21), .nck, [(.t 20)], none⟩, ⟨(some 22), (.fadr 0), [(.t 21)], none⟩, ⟨(some 23), .ld1, [(.t 22)], none⟩, ⟨(some 24), .mv, [(.t 0)], none⟩, ⟨(some 25), .nck, [(.t 24)], none⟩, ⟨(some 26), (.fadr 1), [(.t 25)], none⟩, ⟨(some 27), .ld1, [(.t 26)], none⟩, ⟨(some 28), .idx, [(.t 23), (.t 27)], none⟩, ⟨(some 2), .mv, [(.t 28)], none⟩] [[], [0], [0, 1], [0, 1, 2], [], [4], [4, 5], [4, 5, 6], [0, 1, 2, 3, 4, 5, 6, 7], [0, 1, 2, 3, 4, 5, 6, 7, 8]] true true) .ret)))
theorem b_impl_reader_peek : Body Tryd.prog 45 29 c_impl_reader_peek [(.t 2)] := body_mk Tryd.func45 (by kernel_rfl) (by decide)

def c_impl_reader_skip : ICode := (.seq (.reg [⟨(some 4), .mv, [(.c (.bool false))], none⟩]) (.seq (.seq (.drw [⟨(some 5), .mv, [(.t 0)], none⟩, ⟨(some 6), (.call 45), [(.t 5)], none⟩, ⟨(some 7), .mv, [(.t 1)], none⟩, ⟨(some 8), (.bin .neq), [(.t 6), (.t 7)], none⟩, ⟨(some 9), .mv, [(.t 8)], none⟩, ⟨(some 10), .mv, [(.t 0)], (some (9, false))⟩, ⟨(some 11), .nck, [(.t 10)], (some (9, false))⟩, ⟨(some 12), (.fadr 1), [(.t 11)], (some (9, false))⟩, ⟨(some 13), .ld1, [(.t 12)], (some (9, false))⟩, ⟨(some 14), .mv, [(.t 0)], (some (9, false))⟩, ⟨(some 15), .nck, [(.t 14)], (some (9, false))⟩, ⟨(some 16), (.fadr 0), [(.t 15)], (some (9, false))⟩, ⟨(some 17), .ld1, [(.t 16)], (some (9, false))⟩, ⟨(some 18), .lens, [(.t 17)], (some (9, false))⟩, ⟨(some 19), (.bin .geq), [(.t 13), (.t 18)], (some (9, false))⟩, ⟨(some 20), .pick, [(.t 9), (.c (.bool true)), (.t 19)], none⟩, ⟨(some 21), .mv, [(.t 20)], none⟩, ⟨(some 22), .mv, [(.t 0)], (some (21, false))⟩, ⟨(some 23), .nck, [(.t 22)], (some (21, false))⟩, ⟨(some 24), (.fadr 2), [(.t 23)], (some (21, false))⟩, ⟨(some 25), .ld1, [(.t 24)], (some (21, false))⟩, ⟨(some 26), (.bin .neq), [(.t 25), (.c (.int .i64 0))], (some (21, false))⟩, ⟨(some 27), .pick, [(.t 21), (.c (.bool true)), (.t 26)], none⟩] [[], [0], [], [0, 1, 2], [0, 1, 2, 3], [0, 1, 2, 3, 4], [0, 1, 2, 3, 4, 5], [0, 1, 2, 3, 4, 5, 6], [0, 1, 2, 3, 4, 5, 6, 7], [0, 1, 2, 3, 4], [0, 1, 2, 3, 4, 9], [0, 1, 2, 3, 4, 9, 10], [0, 1, 2, 3, 4, 9, 10, 11], [0, 1, 2, 3, 4, 9, 10, 11, 12], [0, 1, 2, 3, 4, 5, 6, 7, 8, 9, 10, 11, 12, 13], [0, 1, 2, 3, 4, 5, 6, 7, 8, 9, 10, 11, 12, 13, 14], [0, 1, 2, 3, 4, 5, 6, 7, 8, 9, 10, 11, 12, 13, 14, 15], [0, 1, 2, 3, 4, 5, 6, 7, 8, 9, 10, 11, 12, 13, 14, 15, 16], [0, 1, 2, 3, 4, 5, 6, 7, 8, 9, 10, 11, 12, 13, 14, 15, 16, 17], [0, 1, 2, 3, 4, 5, 6, 7, 8, 9, 10, 11, 12, 13, 14, 15, 16, 17, 18], [0, 1, 2, 3, 4, 5, 6, 7, 8, 9, 10, 11, 12, 13, 14, 15, 16, 17, 18, 19], [0, 1, 2, 3, 4, 5, 6, 7, 8, 9, 10, 11, 12, 13, 14, 15, 16, 17, 18, 19, 20], [0, 1, 2, 3, 4, 5, 6, 7, 8, 9, 10, 11, 12, 13, 14, 15, 16, 17, 18, 19, 20, 21]] true true) (.cond (.t 27) (.seq (.reg [⟨(some 4), .mv, [(.c (.bool false))], none⟩]) .ret) .skip)) (.seq (.reg [⟨(some 28), .mv, [(.t 0)], none⟩, ⟨(some 29), .nck, [(.t 28)], none⟩, ⟨(some 30), (.fadr 1), [(.t 29)], none⟩, ⟨(some 31), .ld1, [(.t 30)], none⟩, ⟨(some 32), (.bin .add), [(.t 31), (.c (.int .i64 1))], none⟩, ⟨(some 33), .nck, [(.t 28)], none⟩, ⟨(some 34), (.fadr 1), [(.t 33)], none⟩, ⟨none, (.st 1), [(.t 34), (.t 32)], none⟩]) (.seq (.reg [⟨(some 4), .mv, [(.c (.bool true))], none⟩]) .ret))))
theorem b_impl_reader_skip : Body Tryd.prog 39 35 c_impl_reader_skip [(.t 4)] := body_mk Tryd.func39 (by kernel_rfl) (by decide)

def c_impl_reader_fail : ICode := (.block 0 (.seq (.reg [⟨(some 6), .mv, [(.t 0)], none⟩, ⟨(some 7), .nck, [(.t 6)], none⟩, ⟨(some 8), (.fadr 2), [(.t 7)], none⟩, ⟨(some 9), .ld1, [(.t 8)], none⟩, ⟨(some 10), (.bin .neq), [(.t 9), (.c (.int .i64 0))], none⟩, ⟨(some 5), .mv, [(.t 10)], none⟩]) (.cond (.t 5) .skip (.seq (.drw [⟨(some 12), .mv, [(.t 0)], none⟩, ⟨(some 13), .nck, [(.t 12)], none⟩, ⟨(some 14), (.fadr 1), [(.t 13)], none⟩, ⟨(some 15), .ld1, [(.t 14)], none⟩, ⟨(some 16), .mv, [(.t 0)], none⟩, ⟨(some 17), .nck, [(.t 16)], none⟩, ⟨(some 18), (.fadr 0), [(.t 17)], none⟩, ⟨(some 19), .ld1, [(.t 18)], none⟩, ⟨(some 20), .lens, [(.t 19)], none⟩, ⟨(some 21), (.bin .geq), [(.t 15), (.t 20)], none⟩, ⟨(some 11), .mv, [(.t 21)], none⟩] [[], [0], [0, 1], [0, 1, 2], [], [4], [4, 5], [4, 5, 6], [4, 5, 6, 7], [0, 1, 2, 3, 4, 5, 6, 7, 8], [0, 1, 2, 3, 4, 5, 6, 7, 8, 9]] true true) (.cond (.t 11) (.reg [⟨(some 22), .mv, [(.t 0)], none⟩, ⟨(some 23), .nck, [(.t 22)], none⟩, ⟨(some 24), (.fadr 2), [(.t 23)], none⟩, ⟨none, (.st 1), [(.t 24), (.c (.int .i64 2))], none⟩]) (.reg [⟨(some 2), .mv, [(.t 0)], none⟩, ⟨(some 3), .nck, [(.t 2)], none⟩, ⟨(some 4), (.fadr 2), [(.t 3)], none⟩, ⟨none, (.st 1), [(.t 4), (.c (.int .i64 3))], none⟩]))))))
theorem b_impl_reader_fail : Body Tryd.prog 48 25 c_impl_reader_fail [] := body_mk Tryd.func48 (by kernel_rfl) (by decide)

def c_impl_reader_leaf : ICode := (.reg [⟨(some 6), .mv, [(.t 0)], none⟩, ⟨(some 7), .mv, [(.t 0)], none⟩, ⟨(some 8), .nck, [(.t 7)], none⟩, ⟨(some 9), (.fadr 3), [(.t 8)], none⟩, ⟨(some 10), .ld1, [(.t 9)], none⟩, ⟨(some 11), .mv, [(.t 1)], none⟩, ⟨(some 12), .mv, [(.t 2)], none⟩, ⟨(some 13), (.bld [(.int .i64 0), (.int .i64 0), (.int .i64 0)] [(0, 1), (1, 1)]), [(.t 11), (.t 12)], none⟩, ⟨(some 14), (.bslv 3), [(.t 13)], none⟩, ⟨(some 15), (.app 3 24), [(.t 10), (.t 14)], none⟩, ⟨(some 16), .nck, [(.t 6)], none⟩, ⟨(some 17), (.fadr 3), [(.t 16)], none⟩, ⟨none, (.st 1), [(.t 17), (.t 15)], none⟩])
theorem b_impl_reader_leaf : Body Tryd.prog 47 18 c_impl_reader_leaf [] := body_mk Tryd.func47 (by kernel_rfl) (by decide)

def c_impl_reader_one : ICode := (.drw [⟨(some 4), .mv, [(.t 0)], none⟩, ⟨(some 5), .mv, [(.t 0)], none⟩, ⟨(some 6), .nck, [(.t 5)], none⟩, ⟨(some 7), (.fadr 3), [(.t 6)], none⟩, ⟨(some 8), .ld1, [(.t 7)], none⟩, ⟨(some 9), .mv, [(.t 1)], none⟩, ⟨(some 10), .mv, [(.t 0)], none⟩, ⟨(some 11), .nck, [(.t 10)], none⟩, ⟨(some 12), (.fadr 3), [(.t 11)], none⟩, ⟨(some 13), .ld1, [(.t 12)], none⟩, ⟨(some 14), .len, [(.t 13)], none⟩, ⟨(some 15), (.bin .sub), [(.t 14), (.c (.int .i64 1))], none⟩, ⟨(some 16), (.bld [(.int .i64 0), (.int .i64 0), (.int .i64 0)] [(0, 1), (1, 1)]), [(.t 9), (.t 15)], none⟩, ⟨(some 17), (.bslv 3), [(.t 16)], none⟩, ⟨(some 18), (.app 3 24), [(.t 8), (.t 17)], none⟩, ⟨(some 19), .nck, [(.t 4)], none⟩, ⟨(some 20), (.fadr 3), [(.t 19)], none⟩, ⟨none, (.st 1), [(.t 20), (.t 18)], none⟩] [[], [], [1], [1, 2], [1, 2, 3], [], [], [6], [6, 7], [6, 7, 8], [6, 7, 8, 9], [6, 7, 8, 9, 10], [5, 6, 7, 8, 9, 10, 11], [5, 6, 7, 8, 9, 10, 11, 12], [1, 2, 3, 4, 5, 6, 7, 8, 9, 10, 11, 12, 13], [0, 1, 2, 3, 4, 5, 6, 7, 8, 9, 10, 11, 12, 13, 14], [0, 1, 2, 3, 4, 5, 6, 7, 8, 9, 10, 11, 12, 13, 14, 15], [0, 1, 2, 3, 4, 5, 6, 7, 8, 9, 10, 11, 12, 13, 14, 15, 16]] true true)
theorem b_impl_reader_one : Body Tryd.prog 49 21 c_impl_reader_one [] := body_mk Tryd.func49 (by kernel_rfl) (by decide)

def c_impl_reader_two : ICode := (.drw [⟨(some 6), .mv, [(.t 0)], none⟩, ⟨(some 7), .mv, [(.t 0)], none⟩, ⟨(some 8), .nck, [(.t 7)], none⟩, ⟨(some 9), (.fadr 3), [(.t 8)], none⟩, ⟨(some 10), .ld1, [(.t 9)], none⟩, ⟨(some 11), .mv, [(.t 1)], none⟩, ⟨(some 12), .mv, [(.t 2)], none⟩, ⟨(some 13), .mv, [(.t 0)], none⟩, ⟨(some 14), .nck, [(.t 13)], none⟩, ⟨(some 15), (.fadr 3), [(.t 14)], none⟩, ⟨(some 16), .ld1, [(.t 15)], none⟩, ⟨(some 17), .len, [(.t 16)], none⟩, ⟨(some 18), (.bin .sub), [(.t 17), (.c (.int .i64 1))], none⟩, ⟨(some 19), (.bld [(.int .i64 0), (.int .i64 0), (.int .i64 0)] [(0, 1), (1, 1), (2, 1)]), [(.t 11), (.t 12), (.t 18)], none⟩, ⟨(some 20), (.bslv 3), [(.t 19)], none⟩, ⟨(some 21), (.app 3 24), [(.t 10), (.t 20)], none⟩, ⟨(some 22), .nck, [(.t 6)], none⟩, ⟨(some 23), (.fadr 3), [(.t 22)], none⟩, ⟨none, (.st 1), [(.t 23), (.t 21)], none⟩] [[], [], [1], [1, 2], [1, 2, 3], [], [], [], [7], [7, 8], [7, 8, 9], [7, 8, 9, 10], [7, 8, 9, 10, 11], [5, 6, 7, 8, 9, 10, 11, 12], [5, 6, 7, 8, 9, 10, 11, 12, 13], [1, 2, 3, 4, 5, 6, 7, 8, 9, 10, 11, 12, 13, 14], [0, 1, 2, 3, 4, 5, 6, 7, 8, 9, 10, 11, 12, 13, 14, 15], [0, 1, 2, 3, 4, 5, 6, 7, 8, 9, 10, 11, 12, 13, 14, 15, 16], [0, 1, 2, 3, 4, 5, 6, 7, 8, 9, 10, 11, 12, 13, 14, 15, 16, 17]] true true)
theorem b_impl_reader_two : Body Tryd.prog 40 24 c_impl_reader_two [] := body_mk Tryd.func40 (by kernel_rfl) (by decide)


/-- a reader: its text, place, code, and where its nodes are -/
abbrev rdO (s : List UInt8) (p : Nat) (c : Int) (k n : Nat) : AObj := .box [.str s, .int .i64 p, .int .i64 c, .ref k 0 n, .fnil]

theorem str_idx {s : List UInt8} {p : Nat} (h : p < s.length) : s[((p : Nat) : Int).toNat]? = some (s.getD p 0) := by
  simp [List.getElem?_eq_getElem h, List.getD_eq_getElem?_getD]

def RPeek (xs : List AV) (r : AV) (objs : List AObj) : Prop := ∃ s p c v f, xs = [.rptr [.str s, .int .i64 ((p : Nat) : Int), .int .i64 c, v, f] 0] ∧ p ≤ s.length ∧ s.length ≤ 200 ∧
  r = .int .u8 (if c = 0 ∧ p < s.length then ((s.getD p 0).toNat : Int) else 0) ∧ objs = []
theorem RPeek_some {s : List UInt8} {p : Nat} {c : Int} {v f : AV} (h0 : s.length ≤ 200) (h1 : c = 0) (h2 : p < s.length) : RPeek [.rptr [.str s, .int .i64 ((p : Nat) : Int), .int .i64 c, v, f] 0] (.int .u8 ((s.getD p 0).toNat : Int)) [] :=
  ⟨s, p, c, v, f, rfl, by omega, h0, by rw [if_pos ⟨h1, h2⟩], rfl⟩
theorem RPeek_none {s : List UInt8} {p : Nat} {c : Int} {v f : AV} (h0 : s.length ≤ 200) (hp : p ≤ s.length) (h1 : ¬ (c = 0 ∧ p < s.length)) : RPeek [.rptr [.str s, .int .i64 ((p : Nat) : Int), .int .i64 c, v, f] 0] (.int .u8 0) [] :=
  ⟨s, p, c, v, f, rfl, hp, h0, by rw [if_neg h1], rfl⟩

theorem s_impl_peek : PureSound Tryd.prog 45 RPeek := by
  have hR : Rely Tryd.prog (ctxOf []) := rely_nil mixed
  refine pure_of_aw b_impl_reader_peek ?_
  rintro xs r objs ⟨s, p, c, v, f, rfl, hp, hs, rfl, rfl⟩ -
  refine ⟨by simp, vc2_sound hR _ _ _ _ _ ?_⟩
  by_cases h : c = 0 ∧ p < s.length
  · rw [if_pos h]
    obtain ⟨rfl, h⟩ := h
    conv => whnf
    repeat' ((first
      | (refine And.intro (fun hb => ?_) (fun hb => ?_) <;> ((try simp only [SB, reduceCtorEq] at hb); try (exfalso; omega)))
      | refine And.intro rfl ?_
      | refine ⟨_, IntWalk.i64_in _ (by omega), ?_⟩
      | rw [ints_at (by omega)]
      | rw [ints_at0 (by omega)]
      | rw [ints_at' (by omega) (by omega)]
      | refine And.intro (lens_all rfl) ?_
      | refine And.intro (show _ ≤ _ ∧ (_ + 1) * _ ≤ _ ∧ _ + 1 ≤ _ by first | omega | (simp; omega)) ?_
      | refine And.intro (show 1 * _ ≤ _ ∧ 1 ≤ _ by omega) ?_
      | refine And.intro (by first | omega | (simp; omega) | (show _ ∧ _; simp; done)) ?_
      | rw [str_idx (by omega)]
      | fail) <;> conv => whnf)
    refine ⟨.inl rfl, ?_⟩
    conv => whnf
    refine ⟨[], ⟨rfl, trivial⟩, ?_, rfl, rfl⟩
    conv => whnf
    left
    conv => lhs; whnf
  · rw [if_neg h]
    conv => whnf
    repeat' ((first
      | (refine And.intro (fun hb => ?_) (fun hb => ?_) <;> ((try simp only [SB, reduceCtorEq] at hb); try (exfalso; omega)))
      | refine And.intro rfl ?_
      | refine ⟨_, IntWalk.i64_in _ (by omega), ?_⟩
      | rw [ints_at (by omega)]
      | rw [ints_at0 (by omega)]
      | rw [ints_at' (by omega) (by omega)]
      | refine And.intro (lens_all rfl) ?_
      | refine And.intro (show _ ≤ _ ∧ (_ + 1) * _ ≤ _ ∧ _ + 1 ≤ _ by first | omega | (simp; omega)) ?_
      | refine And.intro (show 1 * _ ≤ _ ∧ 1 ≤ _ by omega) ?_
      | refine And.intro (by first | omega | (simp; omega) | (show _ ∧ _; simp; done)) ?_
      | fail) <;> conv => whnf)
    all_goals
      refine ⟨.inl rfl, ?_⟩
      conv => whnf
      refine ⟨[], ⟨rfl, trivial⟩, ?_, rfl, rfl⟩
      conv => whnf
      left
      conv => lhs; whnf

/-- a byte is skipped, if it is there -/
def GSkip : GFun := fun xs objs Q => ∃ (s : List UInt8) (p : Nat) (c : Int) (n : Nat) (rows : List (List AV)) (x : UInt8), xs = [.ptr 0 0 0, .int .u8 (x.toNat : Int)] ∧ objs = [rdO s p c 1 n, .arr 3 rows] ∧ p ≤ s.length ∧ s.length ≤ 200 ∧ n ≤ rows.length ∧
  (c = 0 → isB s p x = true → p < s.length → Q (.bool true) [some (rdO s (p + 1) c 1 n), some (.arr 3 rows)]) ∧
  ((c ≠ 0 ∨ isB s p x = false) → Q (.bool false) [some (rdO s p c 1 n), some (.arr 3 rows)])
theorem GSkip_mk {s : List UInt8} {p : Nat} {c : Int} {n : Nat} {rows : List (List AV)} (x : UInt8) {Q : AV → List (Option AObj) → Prop} (h1 : p ≤ s.length) (h2 : s.length ≤ 200) (h3 : n ≤ rows.length)
    (hq1 : c = 0 → isB s p x = true → p < s.length → Q (.bool true) [some (rdO s (p + 1) c 1 n), some (.arr 3 rows)])
    (hq2 : (c ≠ 0 ∨ isB s p x = false) → Q (.bool false) [some (rdO s p c 1 n), some (.arr 3 rows)]) : GSkip [.ptr 0 0 0, .int .u8 (x.toNat : Int)] [rdO s p c 1 n, .arr 3 rows] Q :=
  ⟨s, p, c, n, rows, x, rfl, rfl, h1, h2, h3, hq1, hq2⟩

set_option maxHeartbeats 1000000 in
theorem s_impl_skip : GenSound Tryd.prog 39 2 GSkip := by
  have hR : Rely Tryd.prog (ctxOf [(45, .pure RPeek)]) := rely_cons b_impl_reader_peek.has s_impl_peek (rely_nil mixed)
  refine gen_of_aw b_impl_reader_skip ?_
  rintro xs objs Q - ⟨s, p, c, n, rows, x, rfl, rfl, hp, hs, hn, hq1, hq2⟩ -
  refine ⟨by simp, vc2_sound hR _ _ _ _ _ ?_⟩
  have hx := byte_le x
  by_cases h : c = 0 ∧ p < s.length
  · obtain ⟨hc, h⟩ := h
    have hy := byte_le (s.getD p 0)
    conv => whnf
    repeat' ((first
      | (refine And.intro (fun hb => ?_) (fun hb => ?_) <;> ((try simp only [SB, reduceCtorEq] at hb); try (exfalso; omega)))
      | refine And.intro rfl ?_
      | refine ⟨_, IntWalk.i64_in _ (by omega), ?_⟩
      | rw [ints_at (by omega)]
      | rw [ints_at0 (by omega)]
      | rw [ints_at' (by omega) (by omega)]
      | refine And.intro (lens_all rfl) ?_
      | refine And.intro (show _ ≤ _ ∧ (_ + 1) * _ ≤ _ ∧ _ + 1 ≤ _ by first | omega | (simp; omega)) ?_
      | refine And.intro (show 1 * _ ≤ _ ∧ 1 ≤ _ by omega) ?_
      | refine And.intro (by first | omega | (simp; omega) | (show _ ∧ _; simp; done)) ?_
      | refine ⟨_, _, RPeek_some hs hc h, ?_⟩
      | fail) <;> conv => whnf)
    · refine ⟨.inl rfl, ?_⟩
      conv => whnf
      refine ⟨[some 0, some 1], .bool false, [some (rdO s p c 1 n), some (.arr 3 rows)], ⟨rfl, And.intro (And.intro (.inl rfl) (And.intro (.inl rfl) (And.intro (.inl rfl) (And.intro rfl (And.intro (.inl rfl) trivial))))) (And.intro (And.intro rfl rfl) trivial)⟩, .inl rfl, rfl, hq2 (.inr (isB_neg (.inr (fun e => ?_))))⟩
      have := congrArg UInt8.toNat e
      omega
    · refine ⟨.inl rfl, ?_⟩
      conv => whnf
      refine ⟨[some 0, some 1], .bool true, [some (rdO s (p + 1) c 1 n), some (.arr 3 rows)], ⟨rfl, And.intro (And.intro (.inl rfl) (And.intro (.inl rfl) (And.intro (.inl rfl) (And.intro rfl (And.intro (.inl rfl) trivial))))) (And.intro (And.intro rfl rfl) trivial)⟩, .inl rfl, rfl, hq1 hc (isB_pos h (UInt8.toNat_inj.1 (by omega))) h⟩
  · have hq := hq2 (by
      by_cases hc : c = 0
      · exact .inr (isB_neg (.inl (fun hp => h ⟨hc, hp⟩)))
      · exact .inl hc)
    conv => whnf
    repeat' ((first
      | (refine And.intro (fun hb => ?_) (fun hb => ?_) <;> ((try simp only [SB, reduceCtorEq] at hb); try (exfalso; omega)))
      | refine And.intro rfl ?_
      | refine ⟨_, IntWalk.i64_in _ (by omega), ?_⟩
      | rw [ints_at (by omega)]
      | rw [ints_at0 (by omega)]
      | rw [ints_at' (by omega) (by omega)]
      | refine And.intro (lens_all rfl) ?_
      | refine And.intro (show _ ≤ _ ∧ (_ + 1) * _ ≤ _ ∧ _ + 1 ≤ _ by first | omega | (simp; omega)) ?_
      | refine And.intro (show 1 * _ ≤ _ ∧ 1 ≤ _ by omega) ?_
      | refine And.intro (by first | omega | (simp; omega) | (show _ ∧ _; simp; done)) ?_
      | refine ⟨_, _, RPeek_none hs hp h, ?_⟩
      | fail) <;> conv => whnf)
    all_goals
      refine ⟨.inl rfl, ?_⟩
      conv => whnf
      refine ⟨[some 0, some 1], .bool false, [some (rdO s p c 1 n), some (.arr 3 rows)], ⟨rfl, And.intro (And.intro (.inl rfl) (And.intro (.inl rfl) (And.intro (.inl rfl) (And.intro rfl (And.intro (.inl rfl) trivial))))) (And.intro (And.intro rfl rfl) trivial)⟩, .inl rfl, rfl, hq⟩

/-- what is wanted is not there -/
def failC (s : List UInt8) (p : Nat) (c : Int) : Int := if c = 0 then (if p < s.length then 3 else 2) else c
def GFail : GFun := fun xs objs Q => ∃ (s : List UInt8) (p : Nat) (c : Int) (n : Nat) (rows : List (List AV)), xs = [.ptr 0 0 0] ∧ objs = [rdO s p c 1 n, .arr 3 rows] ∧ p ≤ s.length ∧ s.length ≤ 200 ∧ n ≤ rows.length ∧
  Q (.tup []) [some (rdO s p (failC s p c) 1 n), some (.arr 3 rows)]
theorem GFail_mk {s : List UInt8} {p : Nat} {c : Int} {n : Nat} {rows : List (List AV)} {Q : AV → List (Option AObj) → Prop} (h1 : p ≤ s.length) (h2 : s.length ≤ 200) (h3 : n ≤ rows.length)
    (hq : Q (.tup []) [some (rdO s p (failC s p c) 1 n), some (.arr 3 rows)]) : GFail [.ptr 0 0 0] [rdO s p c 1 n, .arr 3 rows] Q := ⟨s, p, c, n, rows, rfl, rfl, h1, h2, h3, hq⟩

set_option maxHeartbeats 1000000 in
theorem s_impl_fail : GenSound Tryd.prog 48 2 GFail := by
  have hR : Rely Tryd.prog (ctxOf []) := rely_nil mixed
  refine gen_of_aw b_impl_reader_fail ?_
  rintro xs objs Q - ⟨s, p, c, n, rows, rfl, rfl, hp, hs, hn, hq⟩ -
  refine ⟨by simp, vc2_sound hR _ _ _ _ _ ?_⟩
  unfold failC at hq
  by_cases hc : c = 0
  · rw [if_pos hc] at hq
    by_cases h : p < s.length
    · rw [if_pos h] at hq
      conv => whnf
      repeat' ((first
        | (refine And.intro (fun hb => ?_) (fun hb => ?_) <;> ((try simp only [SB, reduceCtorEq] at hb); try (exfalso; omega)))
        | refine And.intro rfl ?_
        | refine ⟨_, IntWalk.i64_in _ (by omega), ?_⟩
        | rw [ints_at (by omega)]
        | rw [ints_at0 (by omega)]
        | rw [ints_at' (by omega) (by omega)]
        | refine And.intro (lens_all rfl) ?_
        | refine And.intro (show _ ≤ _ ∧ (_ + 1) * _ ≤ _ ∧ _ + 1 ≤ _ by first | omega | (simp; omega)) ?_
        | refine And.intro (show 1 * _ ≤ _ ∧ 1 ≤ _ by omega) ?_
        | refine And.intro (by first | omega | (simp; omega) | (show _ ∧ _; simp; done)) ?_
        | fail) <;> conv => whnf)
      refine ⟨.inr rfl, ?_⟩
      conv => whnf
      refine ⟨[some 0, some 1], .tup [], [some (rdO s p 3 1 n), some (.arr 3 rows)], ⟨rfl, And.intro (And.intro (.inl rfl) (And.intro (.inl rfl) (And.intro (.inl rfl) (And.intro rfl (And.intro (.inl rfl) trivial))))) (And.intro (And.intro rfl rfl) trivial)⟩, trivial, rfl, hq⟩
    · rw [if_neg h] at hq
      conv => whnf
      repeat' ((first
        | (refine And.intro (fun hb => ?_) (fun hb => ?_) <;> ((try simp only [SB, reduceCtorEq] at hb); try (exfalso; omega)))
        | refine And.intro rfl ?_
        | refine ⟨_, IntWalk.i64_in _ (by omega), ?_⟩
        | rw [ints_at (by omega)]
        | rw [ints_at0 (by omega)]
        | rw [ints_at' (by omega) (by omega)]
        | refine And.intro (lens_all rfl) ?_
        | refine And.intro (show _ ≤ _ ∧ (_ + 1) * _ ≤ _ ∧ _ + 1 ≤ _ by first | omega | (simp; omega)) ?_
        | refine And.intro (show 1 * _ ≤ _ ∧ 1 ≤ _ by omega) ?_
        | refine And.intro (by first | omega | (simp; omega) | (show _ ∧ _; simp; done)) ?_
        | fail) <;> conv => whnf)
      refine ⟨.inr rfl, ?_⟩
      conv => whnf
      refine ⟨[some 0, some 1], .tup [], [some (rdO s p 2 1 n), some (.arr 3 rows)], ⟨rfl, And.intro (And.intro (.inl rfl) (And.intro (.inl rfl) (And.intro (.inl rfl) (And.intro rfl (And.intro (.inl rfl) trivial))))) (And.intro (And.intro rfl rfl) trivial)⟩, trivial, rfl, hq⟩
  · rw [if_neg hc] at hq
    conv => whnf
    repeat' ((first
      | (refine And.intro (fun hb => ?_) (fun hb => ?_) <;> ((try simp only [SB, reduceCtorEq] at hb); try (exfalso; omega)))
      | refine And.intro rfl ?_
      | refine ⟨_, IntWalk.i64_in _ (by omega), ?_⟩
      | rw [ints_at (by omega)]
      | rw [ints_at0 (by omega)]
      | rw [ints_at' (by omega) (by omega)]
      | refine And.intro (lens_all rfl) ?_
      | refine And.intro (show _ ≤ _ ∧ (_ + 1) * _ ≤ _ ∧ _ + 1 ≤ _ by first | omega | (simp; omega)) ?_
      | refine And.intro (show 1 * _ ≤ _ ∧ 1 ≤ _ by omega) ?_
      | refine And.intro (by first | omega | (simp; omega) | (show _ ∧ _; simp; done)) ?_
      | fail) <;> conv => whnf)
    refine ⟨.inr rfl, ?_⟩
    conv => whnf
    refine ⟨[some 0, some 1], .tup [], [some (rdO s p c 1 n), some (.arr 3 rows)], ⟨rfl, And.intro (And.intro (.inl rfl) (And.intro (.inl rfl) (And.intro (.inl rfl) (And.intro rfl (And.intro (.inl rfl) trivial))))) (And.intro (And.intro rfl rfl) trivial)⟩, trivial, rfl, hq⟩

theorem node_app {l : List NodeD} {k a b : Int} : List.take l.length (nodeRows l) ++ [[.int .i64 k, .int .i64 a, .int .i64 b]] = nodeRows (l ++ [⟨k, a, b⟩]) := by
  rw [List.take_of_length_le (by rw [length_nodeRows]; exact Nat.le_refl _)]
  simp [nodeRows, nodeRow]

/-- a node behind all -/
def GNode (xs0 : List AV) (f : List NodeD → NodeD) : GFun := fun xs objs Q => ∃ (s : List UInt8) (p : Nat) (c : Int) (l : List NodeD), xs = .ptr 0 0 0 :: xs0 ∧ objs = [rdO s p c 1 l.length, .arr 3 (nodeRows l)] ∧ l.length ≤ 1000 ∧
  Q (.tup []) [some (rdO s p c 2 (l ++ [f l]).length), none, some (.arr 3 (nodeRows (l ++ [f l])))]
theorem GNode_mk {xs0 : List AV} {f : List NodeD → NodeD} {s : List UInt8} {p : Nat} {c : Int} {l : List NodeD} {Q : AV → List (Option AObj) → Prop} (h1 : l.length ≤ 1000)
    (hq : Q (.tup []) [some (rdO s p c 2 (l ++ [f l]).length), none, some (.arr 3 (nodeRows (l ++ [f l])))]) : GNode xs0 f (.ptr 0 0 0 :: xs0) [rdO s p c 1 l.length, .arr 3 (nodeRows l)] Q := ⟨s, p, c, l, rfl, rfl, h1, hq⟩

def GLeaf : GFun := fun xs objs Q => ∃ k a, GNode [.int .i64 k, .int .i64 a] (fun _ => ⟨k, a, 0⟩) xs objs Q
def GOne : GFun := fun xs objs Q => ∃ k, GNode [.int .i64 k] (fun l => ⟨k, (l.length : Int) - 1, 0⟩) xs objs Q
def GTwo : GFun := fun xs objs Q => ∃ k f, GNode [.int .i64 k, .int .i64 f] (fun l => ⟨k, f, (l.length : Int) - 1⟩) xs objs Q

set_option maxHeartbeats 1000000 in
theorem s_impl_read_leaf : GenSound Tryd.prog 47 2 GLeaf := by
  have hR : Rely Tryd.prog (ctxOf []) := rely_nil mixed
  refine gen_of_aw b_impl_reader_leaf ?_
  rintro xs objs Q - ⟨k, a, s, p, c, l, rfl, rfl, hl, hq⟩ -
  have hln := length_nodeRows l
  refine ⟨by simp, vc2_sound hR _ _ _ _ _ ?_⟩
  conv => whnf
  repeat' ((first
    | (refine And.intro (fun hb => ?_) (fun hb => ?_) <;> ((try simp only [SB, reduceCtorEq] at hb); try (exfalso; omega)))
    | refine And.intro rfl ?_
    | refine ⟨_, IntWalk.i64_in _ (by omega), ?_⟩
    | rw [ints_at (by omega)]
    | rw [ints_at0 (by omega)]
    | rw [ints_at' (by omega) (by omega)]
    | refine And.intro (lens_all rfl) ?_
    | refine And.intro (show _ ≤ _ ∧ (_ + 1) * _ ≤ _ ∧ _ + 1 ≤ _ by first | omega | (simp; omega)) ?_
    | refine And.intro (show 1 * _ ≤ _ ∧ 1 ≤ _ by omega) ?_
    | refine And.intro (by first | omega | (simp; omega) | (show _ ∧ _; simp; done)) ?_
    | fail) <;> conv => whnf)
  refine ⟨.inr rfl, ?_⟩
  conv => whnf
  refine ⟨[some 0, none, some 2], .tup [], [some (rdO s p c 2 (l ++ [NodeD.mk k a 0]).length), none, some (.arr 3 (nodeRows (l ++ [NodeD.mk k a 0])))], ⟨rfl, And.intro (And.intro (.inl rfl) (And.intro (.inl rfl) (And.intro (.inl rfl) (And.intro ?_ (And.intro (.inl rfl) trivial))))) (And.intro (And.intro rfl node_app) trivial)⟩, trivial, rfl, hq⟩
  exact congrArg (AV.ref 2 0) (by simp)

set_option maxHeartbeats 1000000 in
theorem s_impl_read_one : GenSound Tryd.prog 49 2 GOne := by
  have hR : Rely Tryd.prog (ctxOf []) := rely_nil mixed
  refine gen_of_aw b_impl_reader_one ?_
  rintro xs objs Q - ⟨k, s, p, c, l, rfl, rfl, hl, hq⟩ -
  have hln := length_nodeRows l
  refine ⟨by simp, vc2_sound hR _ _ _ _ _ ?_⟩
  conv => whnf
  repeat' ((first
    | (refine And.intro (fun hb => ?_) (fun hb => ?_) <;> ((try simp only [SB, reduceCtorEq] at hb); try (exfalso; omega)))
    | refine And.intro rfl ?_
    | refine ⟨_, IntWalk.i64_in _ (by omega), ?_⟩
    | rw [ints_at (by omega)]
    | rw [ints_at0 (by omega)]
    | rw [ints_at' (by omega) (by omega)]
    | refine And.intro (lens_all rfl) ?_
    | refine And.intro (show _ ≤ _ ∧ (_ + 1) * _ ≤ _ ∧ _ + 1 ≤ _ by first | omega | (simp; omega)) ?_
    | refine And.intro (show 1 * _ ≤ _ ∧ 1 ≤ _ by omega) ?_
    | refine And.intro (by first | omega | (simp; omega) | (show _ ∧ _; simp; done)) ?_
    | fail) <;> conv => whnf)
  refine ⟨.inr rfl, ?_⟩
  conv => whnf
  refine ⟨[some 0, none, some 2], .tup [], [some (rdO s p c 2 (l ++ [NodeD.mk k ((l.length : Int) - 1) 0]).length), none, some (.arr 3 (nodeRows (l ++ [NodeD.mk k ((l.length : Int) - 1) 0])))], ⟨rfl, And.intro (And.intro (.inl rfl) (And.intro (.inl rfl) (And.intro (.inl rfl) (And.intro ?_ (And.intro (.inl rfl) trivial))))) (And.intro (And.intro rfl node_app) trivial)⟩, trivial, rfl, hq⟩
  exact congrArg (AV.ref 2 0) (by simp)

set_option maxHeartbeats 1000000 in
theorem s_impl_read_two : GenSound Tryd.prog 40 2 GTwo := by
  have hR : Rely Tryd.prog (ctxOf []) := rely_nil mixed
  refine gen_of_aw b_impl_reader_two ?_
  rintro xs objs Q - ⟨k, f, s, p, c, l, rfl, rfl, hl, hq⟩ -
  have hln := length_nodeRows l
  refine ⟨by simp, vc2_sound hR _ _ _ _ _ ?_⟩
  conv => whnf
  repeat' ((first
    | (refine And.intro (fun hb => ?_) (fun hb => ?_) <;> ((try simp only [SB, reduceCtorEq] at hb); try (exfalso; omega)))
    | refine And.intro rfl ?_
    | refine ⟨_, IntWalk.i64_in _ (by omega), ?_⟩
    | rw [ints_at (by omega)]
    | rw [ints_at0 (by omega)]
    | rw [ints_at' (by omega) (by omega)]
    | refine And.intro (lens_all rfl) ?_
    | refine And.intro (show _ ≤ _ ∧ (_ + 1) * _ ≤ _ ∧ _ + 1 ≤ _ by first | omega | (simp; omega)) ?_
    | refine And.intro (show 1 * _ ≤ _ ∧ 1 ≤ _ by omega) ?_
    | refine And.intro (by first | omega | (simp; omega) | (show _ ∧ _; simp; done)) ?_
    | fail) <;> conv => whnf)
  refine ⟨.inr rfl, ?_⟩
  conv => whnf
  refine ⟨[some 0, none, some 2], .tup [], [some (rdO s p c 2 (l ++ [NodeD.mk k f ((l.length : Int) - 1)]).length), none, some (.arr 3 (nodeRows (l ++ [NodeD.mk k f ((l.length : Int) - 1)])))], ⟨rfl, And.intro (And.intro (.inl rfl) (And.intro (.inl rfl) (And.intro (.inl rfl) (And.intro ?_ (And.intro (.inl rfl) trivial))))) (And.intro (And.intro rfl node_app) trivial)⟩, trivial, rfl, hq⟩
  exact congrArg (AV.ref 2 0) (by simp)

def PR.sim (q R : PR) : Prop := q.p = R.p ∧ q.c = R.c ∧ (q.c = 0 → q.l = R.l)
theorem PR.sim_refl (r : PR) : r.sim r := ⟨rfl, rfl, fun _ => rfl⟩
theorem PR.sim_eq {q R : PR} (h : q.sim R) (hc : q.c = 0) : q = R := by
  obtain ⟨p, c, l⟩ := q
  obtain ⟨p', c', l'⟩ := R
  obtain ⟨h1, h2, h3⟩ := h
  simp only at h1 h2 h3 hc
  rw [h1, h2, h3 hc]
theorem PR.sim_one {q R : PR} {k : Int} (h : q.sim R) : (PR.mk q.p q.c (q.l ++ [⟨k, (q.l.length : Int) - 1, 0⟩])).sim (R.one k) := by
  by_cases hc : q.c = 0
  · have := PR.sim_eq h hc
    subst this
    refine ⟨?_, ?_, fun _ => ?_⟩ <;> simp [PR.one, hc]
  · have : R.one k = R := by unfold PR.one; rw [if_neg (by rw [← h.2.1]; exact hc)]
    rw [this]
    exact ⟨h.1, h.2.1, fun h0 => absurd h0 hc⟩
theorem PR.sim_two {q R : PR} {k f : Int} (h : q.sim R) : (PR.mk q.p q.c (q.l ++ [⟨k, f, (q.l.length : Int) - 1⟩])).sim (R.two k f) := by
  by_cases hc : q.c = 0
  · have := PR.sim_eq h hc
    subst this
    refine ⟨?_, ?_, fun _ => ?_⟩ <;> simp [PR.two, hc]
  · have : R.two k f = R := by unfold PR.two; rw [if_neg (by rw [← h.2.1]; exact hc)]
    rw [this]
    exact ⟨h.1, h.2.1, fun h0 => absurd h0 hc⟩
theorem PR.sim_close {s : List UInt8} {q R : PR} (h : q.sim R) (hc : q.c = 0) (hx : isB s q.p 41 = true) : (PR.mk (q.p + 1) q.c q.l).sim (R.close s) := by
  have := PR.sim_eq h hc
  subst this
  refine ⟨?_, ?_, fun _ => ?_⟩ <;> simp [PR.close, hc, hx, PR.adv]
theorem PR.sim_open {s : List UInt8} {q R : PR} (h : q.sim R) (hx : q.c ≠ 0 ∨ isB s q.p 41 = false) : (PR.mk q.p (failC s q.p q.c) q.l).sim (R.close s) := by
  by_cases hc : q.c = 0
  · have := PR.sim_eq h hc
    subst this
    have hx : isB s q.p 41 = false := by rcases hx with h | h; exact absurd hc h; exact h
    refine ⟨?_, ?_, fun _ => ?_⟩ <;> simp [PR.close, hc, hx, PR.bad, failC]
  · have : R.close s = R := by unfold PR.close; rw [if_neg (by rw [← h.2.1]; exact hc)]
    rw [this]
    unfold failC
    rw [if_neg hc]
    exact ⟨h.1, h.2.1, fun h0 => absurd h0 hc⟩

theorem isB_ne {s : List UInt8} {p : Nat} {x y : UInt8} (h : isB s p x = true) (hxy : x ≠ y) : isB s p y = false := by
  simp [isB] at h
  exact isB_neg (.inr (by rw [List.getD_eq_getElem?_getD, h.2]; exact hxy))

/-- a reading: what it is given, what it gives -/
def GRdOf (xs0 : List AV) (pre : List UInt8 → PR → Prop) (res : List UInt8 → PR → PR) : GFun := fun xs objs Q => ∃ (s : List UInt8) (r : PR), xs = .ptr 0 0 0 :: xs0 ∧ objs = [rdO s r.p r.c 1 r.l.length, .arr 3 (nodeRows r.l)] ∧
  s.length ≤ 200 ∧ r.p ≤ s.length ∧ r.l.length ≤ r.p ∧ pre s r ∧
  ∀ q : PR, q.sim (res s r) → r.p ≤ q.p → q.p ≤ s.length → q.l.length + r.p ≤ r.l.length + q.p → Q (.tup []) [some (rdO s q.p q.c 2 q.l.length), none, some (.arr 3 (nodeRows q.l))]
theorem GRdOf_mk {xs0 : List AV} {pre : List UInt8 → PR → Prop} {res : List UInt8 → PR → PR} {s : List UInt8} (r : PR) {Q : AV → List (Option AObj) → Prop} (h1 : s.length ≤ 200) (h2 : r.p ≤ s.length) (h3 : r.l.length ≤ r.p) (h4 : pre s r)
    (hq : ∀ q : PR, q.sim (res s r) → r.p ≤ q.p → q.p ≤ s.length → q.l.length + r.p ≤ r.l.length + q.p → Q (.tup []) [some (rdO s q.p q.c 2 q.l.length), none, some (.arr 3 (nodeRows q.l))]) :
    GRdOf xs0 pre res (.ptr 0 0 0 :: xs0) [rdO s r.p r.c 1 r.l.length, .arr 3 (nodeRows r.l)] Q := ⟨s, r, rfl, rfl, h1, h2, h3, h4, hq⟩

theorem GOne_mk {s : List UInt8} {p : Nat} {c k : Int} {l : List NodeD} {Q : AV → List (Option AObj) → Prop} (h1 : l.length ≤ 1000)
    (hq : Q (.tup []) [some (rdO s p c 2 (l ++ [NodeD.mk k ((l.length : Int) - 1) 0]).length), none, some (.arr 3 (nodeRows (l ++ [NodeD.mk k ((l.length : Int) - 1) 0])))]) : GOne [.ptr 0 0 0, .int .i64 k] [rdO s p c 1 l.length, .arr 3 (nodeRows l)] Q := ⟨k, GNode_mk (f := fun l => ⟨k, (l.length : Int) - 1, 0⟩) h1 hq⟩
theorem GTwo_mk {s : List UInt8} {p : Nat} {c k f : Int} {l : List NodeD} {Q : AV → List (Option AObj) → Prop} (h1 : l.length ≤ 1000)
    (hq : Q (.tup []) [some (rdO s p c 2 (l ++ [NodeD.mk k f ((l.length : Int) - 1)]).length), none, some (.arr 3 (nodeRows (l ++ [NodeD.mk k f ((l.length : Int) - 1)])))]) : GTwo [.ptr 0 0 0, .int .i64 k, .int .i64 f] [rdO s p c 1 l.length, .arr 3 (nodeRows l)] Q := ⟨k, f, GNode_mk (f := fun l => ⟨k, f, (l.length : Int) - 1⟩) h1 hq⟩
theorem GLeaf_mk {s : List UInt8} {p : Nat} {c k a : Int} {l : List NodeD} {Q : AV → List (Option AObj) → Prop} (h1 : l.length ≤ 1000)
    (hq : Q (.tup []) [some (rdO s p c 2 (l ++ [NodeD.mk k a 0]).length), none, some (.arr 3 (nodeRows (l ++ [NodeD.mk k a 0])))]) : GLeaf [.ptr 0 0 0, .int .i64 k, .int .i64 a] [rdO s p c 1 l.length, .arr 3 (nodeRows l)] Q := ⟨k, a, GNode_mk (f := fun _ => ⟨k, a, 0⟩) h1 hq⟩

/-- the end of a reading -/
theorem rd_fin {Q : AV → List (Option AObj) → Prop} {h : Heap} {s : List UInt8} (q : PR) {k : Nat} (h0 : h 0 = some (.box [.str s, .int .i64 q.p, .int .i64 q.c, .ref k 0 q.l.length, .fnil])) (hk : h k = some (.arr 3 (nodeRows q.l))) (hne : (k == 0) = false)
    (hQ : Q (.tup []) [some (rdO s q.p q.c 2 q.l.length), none, some (.arr 3 (nodeRows q.l))]) : ∃ σ r out, CovS σ h out ∧ covV σ h (.tup []) r ∧ ancB σ out 2 = true ∧ Q r out := by
  refine ⟨[some 0, none, some k], .tup [], _, ⟨?_, ?_⟩, trivial, rfl, hQ⟩
  · have hk0 : k ≠ 0 := by simpa using hne
    simp [nodupB]; omega
  · refine And.intro ?_ (And.intro ?_ trivial)
    · rw [h0]
      exact And.intro (.inl rfl) (And.intro (.inl rfl) (And.intro (.inl rfl) (And.intro rfl (And.intro (.inl rfl) trivial))))
    · rw [hk]
      exact And.intro rfl rfl

/-- .. of a part of one -/
theorem rd_cov {e : Env} {h : Heap} {s : List UInt8} (q : PR) {k : Nat} (h0 : h 0 = some (.box [.str s, .int .i64 q.p, .int .i64 q.c, .ref k 0 q.l.length, .fnil])) (hk : h k = some (.arr 3 (nodeRows q.l))) (hne : (k == 0) = false) {l : List (Nat × AV)}
    (he : covAll [some 0, none, some k] h e l) : CovN [some 0, none, some k] e h l [some (rdO s q.p q.c 2 q.l.length), none, some (.arr 3 (nodeRows q.l))] 2 := by
  refine ⟨?_, rfl, ?_, he⟩
  · have hk0 : k ≠ 0 := by simpa using hne
    simp [nodupB]; omega
  · refine And.intro ?_ (And.intro ?_ trivial)
    · rw [h0]
      exact And.intro (.inl rfl) (And.intro (.inl rfl) (And.intro (.inl rfl) (And.intro rfl (And.intro (.inl rfl) trivial))))
    · rw [hk]
      exact And.intro rfl rfl

end Go.Proofs.YtpfbkblgefddlaaDoor.Ct
