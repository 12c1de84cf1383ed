/- Formulas read from text: what the program's reader does, step by step. -/
import Derived.Test.YtpfbkblgefddlaaCtParse1
import Derived.Test.YtpfbkblgefddlaaCtDraw1
namespace Go.Proofs.Ytpfbkblgefddlaa.Ct
set_option linter.unusedSimpArgs false
set_option linter.unusedVariables false
open Go Go.Proofs Go.Proofs.Ytpfbkblgefddlaa.Av

def c_impl_reader_peek : ICode := (.seq (.reg [⟨(some 2), .mv, [(.c (.int .u8 0))], none⟩]) (.seq (.seq (.drw [⟨(some 3), .mv, [(.t 0)], none⟩, ⟨(some 4), .nck, [(.t 3)], none⟩, ⟨(some 5), (.fadr 2), [(.t 4)], none⟩, ⟨(some 6), .ld1, [(.t 5)], none⟩, ⟨(some 7), (.bin .neq), [(.t 6), (.c (.int .i64 0))], none⟩, ⟨(some 8), .mv, [(.t 7)], none⟩, ⟨(some 9), .mv, [(.t 0)], (some (8, false))⟩, ⟨(some 10), .nck, [(.t 9)], (some (8, false))⟩, ⟨(some 11), (.fadr 1), [(.t 10)], (some (8, false))⟩, ⟨(some 12), .ld1, [(.t 11)], (some (8, false))⟩, ⟨(some 13), .mv, [(.t 0)], (some (8, false))⟩, ⟨(some 14), .nck, [(.t 13)], (some (8, false))⟩, ⟨(some 15), (.fadr 0), [(.t 14)], (some (8, false))⟩, ⟨(some 16), .ld1, [(.t 15)], (some (8, false))⟩, ⟨(some 17), .lens, [(.t 16)], (some (8, false))⟩, ⟨(some 18), (.bin .geq), [(.t 12), (.t 17)], (some (8, false))⟩, ⟨(some 19), .pick, [(.t 8), (.c (.bool true)), (.t 18)], none⟩] [[], [0], [0, 1], [0, 1, 2], [0, 1, 2, 3], [0, 1, 2, 3, 4], [0, 1, 2, 3, 4, 5], [0, 1, 2, 3, 4, 5, 6], [0, 1, 2, 3, 4, 5, 6, 7], [0, 1, 2, 3, 4, 5, 6, 7, 8], [0, 1, 2, 3, 4, 5], [0, 1, 2, 3, 4, 5, 10], [0, 1, 2, 3, 4, 5, 10, 11], [0, 1, 2, 3, 4, 5, 10, 11, 12], [0, 1, 2, 3, 4, 5, 10, 11, 12, 13], [0, 1, 2, 3, 4, 5, 6, 7, 8, 9, 10, 11, 12, 13, 14], [0, 1, 2, 3, 4, 5, 6, 7, 8, 9, 10, 11, 12, 13, 14, 15]] true true) (.cond (.t 19) (.seq (.reg [⟨(some 2), .mv, [(.c (.int .u8 0))], none⟩]) .ret) .skip)) (.seq (.drw [⟨(some 20), .mv, [(.t 0)], none⟩, ⟨(some 21), .nck, [(.t 20)], none⟩, ⟨(some 22), (.fadr 0), [(.t 21)], none⟩, ⟨(some 23), .ld1, [(.t 22)], none⟩, ⟨(some 24), .mv, [(.t 0)], none⟩, ⟨(some 25), .nck, [(.t 24)], none⟩, ⟨(some 26), (.fadr 1), [(.t 25)], none⟩, ⟨(some 27), .ld1, [(.t 26)], none⟩, ⟨(some 28), .idx, [(.t 23), (.t 27)], none⟩, ⟨(some 2), .mv, [(.t 28)], none⟩] [[], [0], [0, 1], [0, 1, 2], [], [4], [4, 5], [4, 5, 6], [0, 1, 2, 3, 4, 5, 6, 7], [0, 1, 2, 3, 4, 5, 6, 7, 8]] true true) .ret)))
theorem b_impl_reader_peek : Body Try.prog 198 29 c_impl_reader_peek [(.t 2)] := by
  have h1 : comp Try.prog 29 (Try.f198.body.getD .skip) = some c_impl_reader_peek := by kernel_rfl
  have h2 : Try.f198.body = some (Try.f198.body.getD .skip) := by kernel_rfl
  have h3 : Try.f198.results.toList.map (cRes Try.prog) = [(some (.t 2))] := by kernel_rfl
  exact ⟨_, _, Try.func198, h2, Try.ntmps198, h1, h3, by decide⟩

def c_impl_reader_skip : ICode := (.seq (.reg [⟨(some 4), .mv, [(.c (.bool false))], none⟩]) (.seq (.seq (.drw [⟨(some 5), .mv, [(.t 0)], none⟩, ⟨(some 6), (.call 198), [(.t 5)], none⟩, ⟨(some 7), .mv, [(.t 1)], none⟩, ⟨(some 8), (.bin .neq), [(.t 6), (.t 7)], none⟩, ⟨(some 9), .mv, [(.t 8)], none⟩, ⟨(some 10), .mv, [(.t 0)], (some (9, false))⟩, ⟨(some 11), .nck, [(.t 10)], (some (9, false))⟩, ⟨(some 12), (.fadr 1), [(.t 11)], (some (9, false))⟩, ⟨(some 13), .ld1, [(.t 12)], (some (9, false))⟩, ⟨(some 14), .mv, [(.t 0)], (some (9, false))⟩, ⟨(some 15), .nck, [(.t 14)], (some (9, false))⟩, ⟨(some 16), (.fadr 0), [(.t 15)], (some (9, false))⟩, ⟨(some 17), .ld1, [(.t 16)], (some (9, false))⟩, ⟨(some 18), .lens, [(.t 17)], (some (9, false))⟩, ⟨(some 19), (.bin .geq), [(.t 13), (.t 18)], (some (9, false))⟩, ⟨(some 20), .pick, [(.t 9), (.c (.bool true)), (.t 19)], none⟩, ⟨(some 21), .mv, [(.t 20)], none⟩, ⟨(some 22), .mv, [(.t 0)], (some (21, false))⟩, ⟨(some 23), .nck, [(.t 22)], (some (21, false))⟩, ⟨(some 24), (.fadr 2), [(.t 23)], (some (21, false))⟩, ⟨(some 25), .ld1, [(.t 24)], (some (21, false))⟩, ⟨(some 26), (.bin .neq), [(.t 25), (.c (.int .i64 0))], (some (21, false))⟩, ⟨(some 27), .pick, [(.t 21), (.c (.bool true)), (.t 26)], none⟩] [[], [0], [], [0, 1, 2], [0, 1, 2, 3], [0, 1, 2, 3, 4], [0, 1, 2, 3, 4, 5], [0, 1, 2, 3, 4, 5, 6], [0, 1, 2, 3, 4, 5, 6, 7], [0, 1, 2, 3, 4], [0, 1, 2, 3, 4, 9], [0, 1, 2, 3, 4, 9, 10], [0, 1, 2, 3, 4, 9, 10, 11], [0, 1, 2, 3, 4, 9, 10, 11, 12], [0, 1, 2, 3, 4, 5, 6, 7, 8, 9, 10, 11, 12, 13], [0, 1, 2, 3, 4, 5, 6, 7, 8, 9, 10, 11, 12, 13, 14], [0, 1, 2, 3, 4, 5, 6, 7, 8, 9, 10, 11, 12, 13, 14, 15], [0, 1, 2, 3, 4, 5, 6, 7, 8, 9, 10, 11, 12, 13, 14, 15, 16], [0, 1, 2, 3, 4, 5, 6, 7, 8, 9, 10, 11, 12, 13, 14, 15, 16, 17], [0, 1, 2, 3, 4, 5, 6, 7, 8, 9, 10, 11, 12, 13, 14, 15, 16, 17, 18], [0, 1, 2, 3, 4, 5, 6, 7, 8, 9, 10, 11, 12, 13, 14, 15, 16, 17, 18, 19], [0, 1, 2, 3, 4, 5, 6, 7, 8, 9, 10, 11, 12, 13, 14, 15, 16, 17, 18, 19, 20], [0, 1, 2, 3, 4, 5, 6, 7, 8, 9, 10, 11, 12, 13, 14, 15, 16, 17, 18, 19, 20, 21]] true true) (.cond (.t 27) (.seq (.reg [⟨(some 4), .mv, [(.c (.bool false))], none⟩]) .ret) .skip)) (.seq (.reg [⟨(some 28), .mv, [(.t 0)], none⟩, ⟨(some 29), .nck, [(.t 28)], none⟩, ⟨(some 30), (.fadr 1), [(.t 29)], none⟩, ⟨(some 31), .ld1, [(.t 30)], none⟩, ⟨(some 32), (.bin .add), [(.t 31), (.c (.int .i64 1))], none⟩, ⟨(some 33), .nck, [(.t 28)], none⟩, ⟨(some 34), (.fadr 1), [(.t 33)], none⟩, ⟨none, (.st 1), [(.t 34), (.t 32)], none⟩]) (.seq (.reg [⟨(some 4), .mv, [(.c (.bool true))], none⟩]) .ret))))
theorem b_impl_reader_skip : Body Try.prog 185 35 c_impl_reader_skip [(.t 4)] := by
  have h1 : comp Try.prog 35 (Try.f185.body.getD .skip) = some c_impl_reader_skip := by kernel_rfl
  have h2 : Try.f185.body = some (Try.f185.body.getD .skip) := by kernel_rfl
  have h3 : Try.f185.results.toList.map (cRes Try.prog) = [(some (.t 4))] := by kernel_rfl
  exact ⟨_, _, Try.func185, h2, Try.ntmps185, h1, h3, by decide⟩

def c_impl_reader_fail : ICode := (.block 0 (.seq (.reg [⟨(some 6), .mv, [(.t 0)], none⟩, ⟨(some 7), .nck, [(.t 6)], none⟩, ⟨(some 8), (.fadr 2), [(.t 7)], none⟩, ⟨(some 9), .ld1, [(.t 8)], none⟩, ⟨(some 10), (.bin .neq), [(.t 9), (.c (.int .i64 0))], none⟩, ⟨(some 5), .mv, [(.t 10)], none⟩]) (.cond (.t 5) .skip (.seq (.drw [⟨(some 12), .mv, [(.t 0)], none⟩, ⟨(some 13), .nck, [(.t 12)], none⟩, ⟨(some 14), (.fadr 1), [(.t 13)], none⟩, ⟨(some 15), .ld1, [(.t 14)], none⟩, ⟨(some 16), .mv, [(.t 0)], none⟩, ⟨(some 17), .nck, [(.t 16)], none⟩, ⟨(some 18), (.fadr 0), [(.t 17)], none⟩, ⟨(some 19), .ld1, [(.t 18)], none⟩, ⟨(some 20), .lens, [(.t 19)], none⟩, ⟨(some 21), (.bin .geq), [(.t 15), (.t 20)], none⟩, ⟨(some 11), .mv, [(.t 21)], none⟩] [[], [0], [0, 1], [0, 1, 2], [], [4], [4, 5], [4, 5, 6], [4, 5, 6, 7], [0, 1, 2, 3, 4, 5, 6, 7, 8], [0, 1, 2, 3, 4, 5, 6, 7, 8, 9]] true true) (.cond (.t 11) (.reg [⟨(some 22), .mv, [(.t 0)], none⟩, ⟨(some 23), .nck, [(.t 22)], none⟩, ⟨(some 24), (.fadr 2), [(.t 23)], none⟩, ⟨none, (.st 1), [(.t 24), (.c (.int .i64 2))], none⟩]) (.reg [⟨(some 2), .mv, [(.t 0)], none⟩, ⟨(some 3), .nck, [(.t 2)], none⟩, ⟨(some 4), (.fadr 2), [(.t 3)], none⟩, ⟨none, (.st 1), [(.t 4), (.c (.int .i64 3))], none⟩]))))))
theorem b_impl_reader_fail : Body Try.prog 207 25 c_impl_reader_fail [] := by
  have h1 : comp Try.prog 25 (Try.f207.body.getD .skip) = some c_impl_reader_fail := by kernel_rfl
  have h2 : Try.f207.body = some (Try.f207.body.getD .skip) := by kernel_rfl
  have h3 : Try.f207.results.toList.map (cRes Try.prog) = [] := by kernel_rfl
  exact ⟨_, _, Try.func207, h2, Try.ntmps207, h1, h3, by decide⟩

def c_impl_reader_leaf : ICode := (.reg [⟨(some 6), .mv, [(.t 0)], none⟩, ⟨(some 7), .mv, [(.t 0)], none⟩, ⟨(some 8), .nck, [(.t 7)], none⟩, ⟨(some 9), (.fadr 3), [(.t 8)], none⟩, ⟨(some 10), .ld1, [(.t 9)], none⟩, ⟨(some 11), .mv, [(.t 1)], none⟩, ⟨(some 12), .mv, [(.t 2)], none⟩, ⟨(some 13), (.bld [(.int .i64 0), (.int .i64 0), (.int .i64 0)] [(0, 1), (1, 1)]), [(.t 11), (.t 12)], none⟩, ⟨(some 14), (.bslv 3), [(.t 13)], none⟩, ⟨(some 15), (.app 3 24), [(.t 10), (.t 14)], none⟩, ⟨(some 16), .nck, [(.t 6)], none⟩, ⟨(some 17), (.fadr 3), [(.t 16)], none⟩, ⟨none, (.st 1), [(.t 17), (.t 15)], none⟩])
theorem b_impl_reader_leaf : Body Try.prog 206 18 c_impl_reader_leaf [] := by
  have h1 : comp Try.prog 18 (Try.f206.body.getD .skip) = some c_impl_reader_leaf := by kernel_rfl
  have h2 : Try.f206.body = some (Try.f206.body.getD .skip) := by kernel_rfl
  have h3 : Try.f206.results.toList.map (cRes Try.prog) = [] := by kernel_rfl
  exact ⟨_, _, Try.func206, h2, Try.ntmps206, h1, h3, by decide⟩

def c_impl_reader_one : ICode := (.drw [⟨(some 4), .mv, [(.t 0)], none⟩, ⟨(some 5), .mv, [(.t 0)], none⟩, ⟨(some 6), .nck, [(.t 5)], none⟩, ⟨(some 7), (.fadr 3), [(.t 6)], none⟩, ⟨(some 8), .ld1, [(.t 7)], none⟩, ⟨(some 9), .mv, [(.t 1)], none⟩, ⟨(some 10), .mv, [(.t 0)], none⟩, ⟨(some 11), .nck, [(.t 10)], none⟩, ⟨(some 12), (.fadr 3), [(.t 11)], none⟩, ⟨(some 13), .ld1, [(.t 12)], none⟩, ⟨(some 14), .len, [(.t 13)], none⟩, ⟨(some 15), (.bin .sub), [(.t 14), (.c (.int .i64 1))], none⟩, ⟨(some 16), (.bld [(.int .i64 0), (.int .i64 0), (.int .i64 0)] [(0, 1), (1, 1)]), [(.t 9), (.t 15)], none⟩, ⟨(some 17), (.bslv 3), [(.t 16)], none⟩, ⟨(some 18), (.app 3 24), [(.t 8), (.t 17)], none⟩, ⟨(some 19), .nck, [(.t 4)], none⟩, ⟨(some 20), (.fadr 3), [(.t 19)], none⟩, ⟨none, (.st 1), [(.t 20), (.t 18)], none⟩] [[], [], [1], [1, 2], [1, 2, 3], [], [], [6], [6, 7], [6, 7, 8], [6, 7, 8, 9], [6, 7, 8, 9, 10], [5, 6, 7, 8, 9, 10, 11], [5, 6, 7, 8, 9, 10, 11, 12], [1, 2, 3, 4, 5, 6, 7, 8, 9, 10, 11, 12, 13], [0, 1, 2, 3, 4, 5, 6, 7, 8, 9, 10, 11, 12, 13, 14], [0, 1, 2, 3, 4, 5, 6, 7, 8, 9, 10, 11, 12, 13, 14, 15], [0, 1, 2, 3, 4, 5, 6, 7, 8, 9, 10, 11, 12, 13, 14, 15, 16]] true true)
theorem b_impl_reader_one : Body Try.prog 204 21 c_impl_reader_one [] := by
  have h1 : comp Try.prog 21 (Try.f204.body.getD .skip) = some c_impl_reader_one := by kernel_rfl
  have h2 : Try.f204.body = some (Try.f204.body.getD .skip) := by kernel_rfl
  have h3 : Try.f204.results.toList.map (cRes Try.prog) = [] := by kernel_rfl
  exact ⟨_, _, Try.func204, h2, Try.ntmps204, h1, h3, by decide⟩

def c_impl_reader_two : ICode := (.drw [⟨(some 6), .mv, [(.t 0)], none⟩, ⟨(some 7), .mv, [(.t 0)], none⟩, ⟨(some 8), .nck, [(.t 7)], none⟩, ⟨(some 9), (.fadr 3), [(.t 8)], none⟩, ⟨(some 10), .ld1, [(.t 9)], none⟩, ⟨(some 11), .mv, [(.t 1)], none⟩, ⟨(some 12), .mv, [(.t 2)], none⟩, ⟨(some 13), .mv, [(.t 0)], none⟩, ⟨(some 14), .nck, [(.t 13)], none⟩, ⟨(some 15), (.fadr 3), [(.t 14)], none⟩, ⟨(some 16), .ld1, [(.t 15)], none⟩, ⟨(some 17), .len, [(.t 16)], none⟩, ⟨(some 18), (.bin .sub), [(.t 17), (.c (.int .i64 1))], none⟩, ⟨(some 19), (.bld [(.int .i64 0), (.int .i64 0), (.int .i64 0)] [(0, 1), (1, 1), (2, 1)]), [(.t 11), (.t 12), (.t 18)], none⟩, ⟨(some 20), (.bslv 3), [(.t 19)], none⟩, ⟨(some 21), (.app 3 24), [(.t 10), (.t 20)], none⟩, ⟨(some 22), .nck, [(.t 6)], none⟩, ⟨(some 23), (.fadr 3), [(.t 22)], none⟩, ⟨none, (.st 1), [(.t 23), (.t 21)], none⟩] [[], [], [1], [1, 2], [1, 2, 3], [], [], [], [7], [7, 8], [7, 8, 9], [7, 8, 9, 10], [7, 8, 9, 10, 11], [5, 6, 7, 8, 9, 10, 11, 12], [5, 6, 7, 8, 9, 10, 11, 12, 13], [1, 2, 3, 4, 5, 6, 7, 8, 9, 10, 11, 12, 13, 14], [0, 1, 2, 3, 4, 5, 6, 7, 8, 9, 10, 11, 12, 13, 14, 15], [0, 1, 2, 3, 4, 5, 6, 7, 8, 9, 10, 11, 12, 13, 14, 15, 16], [0, 1, 2, 3, 4, 5, 6, 7, 8, 9, 10, 11, 12, 13, 14, 15, 16, 17]] true true)
theorem b_impl_reader_two : Body Try.prog 186 24 c_impl_reader_two [] := by
  have h1 : comp Try.prog 24 (Try.f186.body.getD .skip) = some c_impl_reader_two := by kernel_rfl
  have h2 : Try.f186.body = some (Try.f186.body.getD .skip) := by kernel_rfl
  have h3 : Try.f186.results.toList.map (cRes Try.prog) = [] := by kernel_rfl
  exact ⟨_, _, Try.func186, h2, Try.ntmps186, h1, h3, by decide⟩


/-- a reader: its text, place, code, and where its nodes are -/
abbrev rdO (s : List UInt8) (p : Nat) (c : Int) (k n : Nat) : AObj := .box [.str s, .int .i64 p, .int .i64 c, .ref k 0 n, .fnil]

theorem str_idx {s : List UInt8} {p : Nat} (h : p < s.length) : s[((p : Nat) : Int).toNat]? = some (s.getD p 0) := by
  simp [List.getElem?_eq_getElem h, List.getD_eq_getElem?_getD]

def RPeek (xs : List AV) (r : AV) (objs : List AObj) : Prop := ∃ s p c v f, xs = [.rptr [.str s, .int .i64 ((p : Nat) : Int), .int .i64 c, v, f] 0] ∧ p ≤ s.length ∧ s.length ≤ 200 ∧
  r = .int .u8 (if c = 0 ∧ p < s.length then ((s.getD p 0).toNat : Int) else 0) ∧ objs = []
theorem RPeek_some {s : List UInt8} {p : Nat} {c : Int} {v f : AV} (h0 : s.length ≤ 200) (h1 : c = 0) (h2 : p < s.length) : RPeek [.rptr [.str s, .int .i64 ((p : Nat) : Int), .int .i64 c, v, f] 0] (.int .u8 ((s.getD p 0).toNat : Int)) [] :=
  ⟨s, p, c, v, f, rfl, by omega, h0, by rw [if_pos ⟨h1, h2⟩], rfl⟩
theorem RPeek_none {s : List UInt8} {p : Nat} {c : Int} {v f : AV} (h0 : s.length ≤ 200) (hp : p ≤ s.length) (h1 : ¬ (c = 0 ∧ p < s.length)) : RPeek [.rptr [.str s, .int .i64 ((p : Nat) : Int), .int .i64 c, v, f] 0] (.int .u8 0) [] :=
  ⟨s, p, c, v, f, rfl, hp, h0, by rw [if_neg h1], rfl⟩

theorem s_impl_peek : PureSound Try.prog 198 RPeek := by
  have hR : Rely Try.prog (ctxOf []) := rely_nil mixed
  refine pure_of_aw b_impl_reader_peek ?_
  rintro xs r objs ⟨s, p, c, v, f, rfl, hp, hs, rfl, rfl⟩ -
  refine ⟨by simp, vc2_sound hR _ _ _ _ _ ?_⟩
  by_cases h : c = 0 ∧ p < s.length
  · rw [if_pos h]
    obtain ⟨rfl, h⟩ := h
    conv => whnf
    repeat' (first
      | (refine And.intro (fun hb => ?_) (fun hb => ?_)
         all_goals (try simp only [decide_eq_true_eq, decide_eq_false_iff_not, Bool.not_eq_true', Bool.not_eq_false', Bool.not_not, ne_eq, length_ints, List.length_map, beq_iff_eq, bne_iff_ne, beq_eq_false_iff_ne, bne_eq_false_iff_eq, Int.not_le, Int.not_lt, ge_iff_le, gt_iff_lt, reduceCtorEq, not_false_eq_true, not_true_eq_false, Bool.false_eq_true, Bool.true_eq_false] at hb)
         all_goals (try (exfalso; omega))
         all_goals conv => whnf)
      | (refine And.intro (live_all rfl) ?_; conv => whnf)
      | (refine And.intro rfl ?_; conv => whnf)
      | (refine ⟨_, IntWalk.i64_in _ (by omega), ?_⟩; conv => whnf)
      | (refine And.intro (okcs_all rfl) ?_; conv => whnf)
      | (refine And.intro (okvs_all rfl) ?_; conv => whnf)
      | (refine And.intro (frees_all rfl) ?_; conv => whnf)
      | (refine And.intro (bsl_all rfl) ?_; conv => whnf)
      | (refine And.intro (lens_all rfl) ?_; conv => whnf)
      | (refine And.intro (Nat.le_of_ble_eq_true rfl) ?_; conv => whnf)
      | (rw [ints_at (by omega)]; conv => whnf)
      | (rw [ints_at0 (by omega)]; conv => whnf)
      | (rw [ints_at' (by omega) (by omega)]; conv => whnf)
      | (refine And.intro (show (_ + 1) * _ ≤ _ by omega) ?_; conv => whnf)
      | (refine And.intro (show _ + 1 ≤ _ by omega) ?_; conv => whnf)
      | (refine And.intro (by first | omega | (simp only [length_ints]; omega)) ?_; conv => whnf)
      | (rw [str_idx (by omega)]; conv => whnf)
      | fail)
    refine ⟨.inl rfl, ?_⟩
    conv => whnf
    refine ⟨[], ⟨rfl, trivial⟩, ?_, rfl, rfl⟩
    conv => whnf
    left
    conv => lhs; whnf
  · rw [if_neg h]
    conv => whnf
    repeat' (first
      | (refine And.intro (fun hb => ?_) (fun hb => ?_)
         all_goals (try simp only [decide_eq_true_eq, decide_eq_false_iff_not, Bool.not_eq_true', Bool.not_eq_false', Bool.not_not, ne_eq, length_ints, List.length_map, beq_iff_eq, bne_iff_ne, beq_eq_false_iff_ne, bne_eq_false_iff_eq, Int.not_le, Int.not_lt, ge_iff_le, gt_iff_lt, reduceCtorEq, not_false_eq_true, not_true_eq_false, Bool.false_eq_true, Bool.true_eq_false] at hb)
         all_goals (try (exfalso; omega))
         all_goals conv => whnf)
      | (refine And.intro (live_all rfl) ?_; conv => whnf)
      | (refine And.intro rfl ?_; conv => whnf)
      | (refine ⟨_, IntWalk.i64_in _ (by omega), ?_⟩; conv => whnf)
      | (refine And.intro (okcs_all rfl) ?_; conv => whnf)
      | (refine And.intro (okvs_all rfl) ?_; conv => whnf)
      | (refine And.intro (frees_all rfl) ?_; conv => whnf)
      | (refine And.intro (bsl_all rfl) ?_; conv => whnf)
      | (refine And.intro (lens_all rfl) ?_; conv => whnf)
      | (refine And.intro (Nat.le_of_ble_eq_true rfl) ?_; conv => whnf)
      | (rw [ints_at (by omega)]; conv => whnf)
      | (rw [ints_at0 (by omega)]; conv => whnf)
      | (rw [ints_at' (by omega) (by omega)]; conv => whnf)
      | (refine And.intro (show (_ + 1) * _ ≤ _ by omega) ?_; conv => whnf)
      | (refine And.intro (show _ + 1 ≤ _ by omega) ?_; conv => whnf)
      | (refine And.intro (by first | omega | (simp only [length_ints]; omega)) ?_; conv => whnf)
      | fail)
    all_goals
      refine ⟨.inl rfl, ?_⟩
      conv => whnf
      refine ⟨[], ⟨rfl, trivial⟩, ?_, rfl, rfl⟩
      conv => whnf
      left
      conv => lhs; whnf

/-- a byte is skipped, if it is there -/
def GSkip : GFun := fun xs objs Q => ∃ (s : List UInt8) (p : Nat) (c : Int) (n : Nat) (rows : List (List AV)) (x : UInt8), xs = [.ptr 0 0 0, .int .u8 (x.toNat : Int)] ∧ objs = [rdO s p c 1 n, .arr 3 rows] ∧ p ≤ s.length ∧ s.length ≤ 200 ∧ n ≤ rows.length ∧
  (c = 0 → isB s p x = true → p < s.length → Q (.bool true) [some (rdO s (p + 1) c 1 n), some (.arr 3 rows)]) ∧
  ((c ≠ 0 ∨ isB s p x = false) → Q (.bool false) [some (rdO s p c 1 n), some (.arr 3 rows)])
theorem GSkip_mk {s : List UInt8} {p : Nat} {c : Int} {n : Nat} {rows : List (List AV)} (x : UInt8) {Q : AV → List (Option AObj) → Prop} (h1 : p ≤ s.length) (h2 : s.length ≤ 200) (h3 : n ≤ rows.length)
    (hq1 : c = 0 → isB s p x = true → p < s.length → Q (.bool true) [some (rdO s (p + 1) c 1 n), some (.arr 3 rows)])
    (hq2 : (c ≠ 0 ∨ isB s p x = false) → Q (.bool false) [some (rdO s p c 1 n), some (.arr 3 rows)]) : GSkip [.ptr 0 0 0, .int .u8 (x.toNat : Int)] [rdO s p c 1 n, .arr 3 rows] Q :=
  ⟨s, p, c, n, rows, x, rfl, rfl, h1, h2, h3, hq1, hq2⟩

set_option maxHeartbeats 1000000 in
theorem s_impl_skip : GenSound Try.prog 185 2 GSkip := by
  have hR : Rely Try.prog (ctxOf [(198, .pure RPeek)]) := rely_cons b_impl_reader_peek.has s_impl_peek (rely_nil mixed)
  refine gen_of_aw b_impl_reader_skip ?_
  rintro xs objs Q - ⟨s, p, c, n, rows, x, rfl, rfl, hp, hs, hn, hq1, hq2⟩ -
  refine ⟨by simp, vc2_sound hR _ _ _ _ _ ?_⟩
  have hx := byte_le x
  by_cases h : c = 0 ∧ p < s.length
  · obtain ⟨hc, h⟩ := h
    have hy := byte_le (s.getD p 0)
    conv => whnf
    repeat' (first
      | (refine And.intro (fun hb => ?_) (fun hb => ?_)
         all_goals (try simp only [decide_eq_true_eq, decide_eq_false_iff_not, Bool.not_eq_true', Bool.not_eq_false', Bool.not_not, ne_eq, length_ints, List.length_map, beq_iff_eq, bne_iff_ne, beq_eq_false_iff_ne, bne_eq_false_iff_eq, Int.not_le, Int.not_lt, ge_iff_le, gt_iff_lt, reduceCtorEq, not_false_eq_true, not_true_eq_false, Bool.false_eq_true, Bool.true_eq_false] at hb)
         all_goals (try (exfalso; omega))
         all_goals conv => whnf)
      | (refine And.intro (live_all rfl) ?_; conv => whnf)
      | (refine And.intro rfl ?_; conv => whnf)
      | (refine ⟨_, IntWalk.i64_in _ (by omega), ?_⟩; conv => whnf)
      | (refine And.intro (okcs_all rfl) ?_; conv => whnf)
      | (refine And.intro (okvs_all rfl) ?_; conv => whnf)
      | (refine And.intro (frees_all rfl) ?_; conv => whnf)
      | (refine And.intro (bsl_all rfl) ?_; conv => whnf)
      | (refine And.intro (lens_all rfl) ?_; conv => whnf)
      | (refine And.intro (Nat.le_of_ble_eq_true rfl) ?_; conv => whnf)
      | (rw [ints_at (by omega)]; conv => whnf)
      | (rw [ints_at0 (by omega)]; conv => whnf)
      | (rw [ints_at' (by omega) (by omega)]; conv => whnf)
      | (refine And.intro (show (_ + 1) * _ ≤ _ by omega) ?_; conv => whnf)
      | (refine And.intro (show _ + 1 ≤ _ by omega) ?_; conv => whnf)
      | (refine And.intro (by first | omega | (simp only [length_ints]; omega)) ?_; conv => whnf)
      | (refine ⟨_, _, RPeek_some hs hc h, ?_⟩; conv => whnf)
      | fail)
    · refine ⟨.inl rfl, ?_⟩
      conv => whnf
      refine ⟨[some 0, some 1], .bool false, [some (rdO s p c 1 n), some (.arr 3 rows)], ⟨rfl, And.intro (And.intro (.inl rfl) (And.intro (.inl rfl) (And.intro (.inl rfl) (And.intro rfl (And.intro (.inl rfl) trivial))))) (And.intro (And.intro rfl rfl) trivial)⟩, .inl rfl, rfl, hq2 (.inr (isB_neg (.inr (fun e => ?_))))⟩
      have := congrArg UInt8.toNat e
      omega
    · refine ⟨.inl rfl, ?_⟩
      conv => whnf
      refine ⟨[some 0, some 1], .bool true, [some (rdO s (p + 1) c 1 n), some (.arr 3 rows)], ⟨rfl, And.intro (And.intro (.inl rfl) (And.intro (.inl rfl) (And.intro (.inl rfl) (And.intro rfl (And.intro (.inl rfl) trivial))))) (And.intro (And.intro rfl rfl) trivial)⟩, .inl rfl, rfl, hq1 hc (isB_pos h (UInt8.toNat_inj.1 (by omega))) h⟩
  · have hq := hq2 (by
      by_cases hc : c = 0
      · exact .inr (isB_neg (.inl (fun hp => h ⟨hc, hp⟩)))
      · exact .inl hc)
    conv => whnf
    repeat' (first
      | (refine And.intro (fun hb => ?_) (fun hb => ?_)
         all_goals (try simp only [decide_eq_true_eq, decide_eq_false_iff_not, Bool.not_eq_true', Bool.not_eq_false', Bool.not_not, ne_eq, length_ints, List.length_map, beq_iff_eq, bne_iff_ne, beq_eq_false_iff_ne, bne_eq_false_iff_eq, Int.not_le, Int.not_lt, ge_iff_le, gt_iff_lt, reduceCtorEq, not_false_eq_true, not_true_eq_false, Bool.false_eq_true, Bool.true_eq_false] at hb)
         all_goals (try (exfalso; omega))
         all_goals conv => whnf)
      | (refine And.intro (live_all rfl) ?_; conv => whnf)
      | (refine And.intro rfl ?_; conv => whnf)
      | (refine ⟨_, IntWalk.i64_in _ (by omega), ?_⟩; conv => whnf)
      | (refine And.intro (okcs_all rfl) ?_; conv => whnf)
      | (refine And.intro (okvs_all rfl) ?_; conv => whnf)
      | (refine And.intro (frees_all rfl) ?_; conv => whnf)
      | (refine And.intro (bsl_all rfl) ?_; conv => whnf)
      | (refine And.intro (lens_all rfl) ?_; conv => whnf)
      | (refine And.intro (Nat.le_of_ble_eq_true rfl) ?_; conv => whnf)
      | (rw [ints_at (by omega)]; conv => whnf)
      | (rw [ints_at0 (by omega)]; conv => whnf)
      | (rw [ints_at' (by omega) (by omega)]; conv => whnf)
      | (refine And.intro (show (_ + 1) * _ ≤ _ by omega) ?_; conv => whnf)
      | (refine And.intro (show _ + 1 ≤ _ by omega) ?_; conv => whnf)
      | (refine And.intro (by first | omega | (simp only [length_ints]; omega)) ?_; conv => whnf)
      | (refine ⟨_, _, RPeek_none hs hp h, ?_⟩; conv => whnf)
      | fail)
    all_goals
      refine ⟨.inl rfl, ?_⟩
      conv => whnf
      refine ⟨[some 0, some 1], .bool false, [some (rdO s p c 1 n), some (.arr 3 rows)], ⟨rfl, And.intro (And.intro (.inl rfl) (And.intro (.inl rfl) (And.intro (.inl rfl) (And.intro rfl (And.intro (.inl rfl) trivial))))) (And.intro (And.intro rfl rfl) trivial)⟩, .inl rfl, rfl, hq⟩

/-- what is wanted is not there -/
def failC (s : List UInt8) (p : Nat) (c : Int) : Int := if c = 0 then (if p < s.length then 3 else 2) else c
def GFail : GFun := fun xs objs Q => ∃ (s : List UInt8) (p : Nat) (c : Int) (n : Nat) (rows : List (List AV)), xs = [.ptr 0 0 0] ∧ objs = [rdO s p c 1 n, .arr 3 rows] ∧ p ≤ s.length ∧ s.length ≤ 200 ∧ n ≤ rows.length ∧
  Q (.tup []) [some (rdO s p (failC s p c) 1 n), some (.arr 3 rows)]
theorem GFail_mk {s : List UInt8} {p : Nat} {c : Int} {n : Nat} {rows : List (List AV)} {Q : AV → List (Option AObj) → Prop} (h1 : p ≤ s.length) (h2 : s.length ≤ 200) (h3 : n ≤ rows.length)
    (hq : Q (.tup []) [some (rdO s p (failC s p c) 1 n), some (.arr 3 rows)]) : GFail [.ptr 0 0 0] [rdO s p c 1 n, .arr 3 rows] Q := ⟨s, p, c, n, rows, rfl, rfl, h1, h2, h3, hq⟩

set_option maxHeartbeats 1000000 in
theorem s_impl_fail : GenSound Try.prog 207 2 GFail := by
  have hR : Rely Try.prog (ctxOf []) := rely_nil mixed
  refine gen_of_aw b_impl_reader_fail ?_
  rintro xs objs Q - ⟨s, p, c, n, rows, rfl, rfl, hp, hs, hn, hq⟩ -
  refine ⟨by simp, vc2_sound hR _ _ _ _ _ ?_⟩
  unfold failC at hq
  by_cases hc : c = 0
  · rw [if_pos hc] at hq
    by_cases h : p < s.length
    · rw [if_pos h] at hq
      conv => whnf
      repeat' (first
        | (refine And.intro (fun hb => ?_) (fun hb => ?_)
           all_goals (try simp only [decide_eq_true_eq, decide_eq_false_iff_not, Bool.not_eq_true', Bool.not_eq_false', Bool.not_not, ne_eq, length_ints, List.length_map, beq_iff_eq, bne_iff_ne, beq_eq_false_iff_ne, bne_eq_false_iff_eq, Int.not_le, Int.not_lt, ge_iff_le, gt_iff_lt, reduceCtorEq, not_false_eq_true, not_true_eq_false, Bool.false_eq_true, Bool.true_eq_false] at hb)
           all_goals (try (exfalso; omega))
           all_goals conv => whnf)
        | (refine And.intro (live_all rfl) ?_; conv => whnf)
        | (refine And.intro rfl ?_; conv => whnf)
        | (refine ⟨_, IntWalk.i64_in _ (by omega), ?_⟩; conv => whnf)
        | (refine And.intro (okcs_all rfl) ?_; conv => whnf)
        | (refine And.intro (okvs_all rfl) ?_; conv => whnf)
        | (refine And.intro (frees_all rfl) ?_; conv => whnf)
        | (refine And.intro (bsl_all rfl) ?_; conv => whnf)
        | (refine And.intro (lens_all rfl) ?_; conv => whnf)
        | (refine And.intro (Nat.le_of_ble_eq_true rfl) ?_; conv => whnf)
        | (rw [ints_at (by omega)]; conv => whnf)
        | (rw [ints_at0 (by omega)]; conv => whnf)
        | (rw [ints_at' (by omega) (by omega)]; conv => whnf)
        | (refine And.intro (show (_ + 1) * _ ≤ _ by omega) ?_; conv => whnf)
        | (refine And.intro (show _ + 1 ≤ _ by omega) ?_; conv => whnf)
        | (refine And.intro (by first | omega | (simp only [length_ints]; omega)) ?_; conv => whnf)
        | fail)
      refine ⟨.inr rfl, ?_⟩
      conv => whnf
      refine ⟨[some 0, some 1], .tup [], [some (rdO s p 3 1 n), some (.arr 3 rows)], ⟨rfl, And.intro (And.intro (.inl rfl) (And.intro (.inl rfl) (And.intro (.inl rfl) (And.intro rfl (And.intro (.inl rfl) trivial))))) (And.intro (And.intro rfl rfl) trivial)⟩, trivial, rfl, hq⟩
    · rw [if_neg h] at hq
      conv => whnf
      repeat' (first
        | (refine And.intro (fun hb => ?_) (fun hb => ?_)
           all_goals (try simp only [decide_eq_true_eq, decide_eq_false_iff_not, Bool.not_eq_true', Bool.not_eq_false', Bool.not_not, ne_eq, length_ints, List.length_map, beq_iff_eq, bne_iff_ne, beq_eq_false_iff_ne, bne_eq_false_iff_eq, Int.not_le, Int.not_lt, ge_iff_le, gt_iff_lt, reduceCtorEq, not_false_eq_true, not_true_eq_false, Bool.false_eq_true, Bool.true_eq_false] at hb)
           all_goals (try (exfalso; omega))
           all_goals conv => whnf)
        | (refine And.intro (live_all rfl) ?_; conv => whnf)
        | (refine And.intro rfl ?_; conv => whnf)
        | (refine ⟨_, IntWalk.i64_in _ (by omega), ?_⟩; conv => whnf)
        | (refine And.intro (okcs_all rfl) ?_; conv => whnf)
        | (refine And.intro (okvs_all rfl) ?_; conv => whnf)
        | (refine And.intro (frees_all rfl) ?_; conv => whnf)
        | (refine And.intro (bsl_all rfl) ?_; conv => whnf)
        | (refine And.intro (lens_all rfl) ?_; conv => whnf)
        | (refine And.intro (Nat.le_of_ble_eq_true rfl) ?_; conv => whnf)
        | (rw [ints_at (by omega)]; conv => whnf)
        | (rw [ints_at0 (by omega)]; conv => whnf)
        | (rw [ints_at' (by omega) (by omega)]; conv => whnf)
        | (refine And.intro (show (_ + 1) * _ ≤ _ by omega) ?_; conv => whnf)
        | (refine And.intro (show _ + 1 ≤ _ by omega) ?_; conv => whnf)
        | (refine And.intro (by first | omega | (simp only [length_ints]; omega)) ?_; conv => whnf)
        | fail)
      refine ⟨.inr rfl, ?_⟩
      conv => whnf
      refine ⟨[some 0, some 1], .tup [], [some (rdO s p 2 1 n), some (.arr 3 rows)], ⟨rfl, And.intro (And.intro (.inl rfl) (And.intro (.inl rfl) (And.intro (.inl rfl) (And.intro rfl (And.intro (.inl rfl) trivial))))) (And.intro (And.intro rfl rfl) trivial)⟩, trivial, rfl, hq⟩
  · rw [if_neg hc] at hq
    conv => whnf
    repeat' (first
      | (refine And.intro (fun hb => ?_) (fun hb => ?_)
         all_goals (try simp only [decide_eq_true_eq, decide_eq_false_iff_not, Bool.not_eq_true', Bool.not_eq_false', Bool.not_not, ne_eq, length_ints, List.length_map, beq_iff_eq, bne_iff_ne, beq_eq_false_iff_ne, bne_eq_false_iff_eq, Int.not_le, Int.not_lt, ge_iff_le, gt_iff_lt, reduceCtorEq, not_false_eq_true, not_true_eq_false, Bool.false_eq_true, Bool.true_eq_false] at hb)
         all_goals (try (exfalso; omega))
         all_goals conv => whnf)
      | (refine And.intro (live_all rfl) ?_; conv => whnf)
      | (refine And.intro rfl ?_; conv => whnf)
      | (refine ⟨_, IntWalk.i64_in _ (by omega), ?_⟩; conv => whnf)
      | (refine And.intro (okcs_all rfl) ?_; conv => whnf)
      | (refine And.intro (okvs_all rfl) ?_; conv => whnf)
      | (refine And.intro (frees_all rfl) ?_; conv => whnf)
      | (refine And.intro (bsl_all rfl) ?_; conv => whnf)
      | (refine And.intro (lens_all rfl) ?_; conv => whnf)
      | (refine And.intro (Nat.le_of_ble_eq_true rfl) ?_; conv => whnf)
      | (rw [ints_at (by omega)]; conv => whnf)
      | (rw [ints_at0 (by omega)]; conv => whnf)
      | (rw [ints_at' (by omega) (by omega)]; conv => whnf)
      | (refine And.intro (show (_ + 1) * _ ≤ _ by omega) ?_; conv => whnf)
      | (refine And.intro (show _ + 1 ≤ _ by omega) ?_; conv => whnf)
      | (refine And.intro (by first | omega | (simp only [length_ints]; omega)) ?_; conv => whnf)
      | fail)
    refine ⟨.inr rfl, ?_⟩
    conv => whnf
    refine ⟨[some 0, some 1], .tup [], [some (rdO s p c 1 n), some (.arr 3 rows)], ⟨rfl, And.intro (And.intro (.inl rfl) (And.intro (.inl rfl) (And.intro (.inl rfl) (And.intro rfl (And.intro (.inl rfl) trivial))))) (And.intro (And.intro rfl rfl) trivial)⟩, trivial, rfl, hq⟩

theorem node_app {l : List NodeD} {k a b : Int} : List.take l.length (nodeRows l) ++ [[.int .i64 k, .int .i64 a, .int .i64 b]] = nodeRows (l ++ [⟨k, a, b⟩]) := by
  rw [List.take_of_length_le (by rw [length_nodeRows]; exact Nat.le_refl _)]
  simp [nodeRows, nodeRow]

/-- a node behind all -/
def GNode (xs0 : List AV) (f : List NodeD → NodeD) : GFun := fun xs objs Q => ∃ (s : List UInt8) (p : Nat) (c : Int) (l : List NodeD), xs = .ptr 0 0 0 :: xs0 ∧ objs = [rdO s p c 1 l.length, .arr 3 (nodeRows l)] ∧ l.length ≤ 1000 ∧
  Q (.tup []) [some (rdO s p c 2 (l ++ [f l]).length), none, some (.arr 3 (nodeRows (l ++ [f l])))]
theorem GNode_mk {xs0 : List AV} {f : List NodeD → NodeD} {s : List UInt8} {p : Nat} {c : Int} {l : List NodeD} {Q : AV → List (Option AObj) → Prop} (h1 : l.length ≤ 1000)
    (hq : Q (.tup []) [some (rdO s p c 2 (l ++ [f l]).length), none, some (.arr 3 (nodeRows (l ++ [f l])))]) : GNode xs0 f (.ptr 0 0 0 :: xs0) [rdO s p c 1 l.length, .arr 3 (nodeRows l)] Q := ⟨s, p, c, l, rfl, rfl, h1, hq⟩

def GLeaf : GFun := fun xs objs Q => ∃ k a, GNode [.int .i64 k, .int .i64 a] (fun _ => ⟨k, a, 0⟩) xs objs Q
def GOne : GFun := fun xs objs Q => ∃ k, GNode [.int .i64 k] (fun l => ⟨k, (l.length : Int) - 1, 0⟩) xs objs Q
def GTwo : GFun := fun xs objs Q => ∃ k f, GNode [.int .i64 k, .int .i64 f] (fun l => ⟨k, f, (l.length : Int) - 1⟩) xs objs Q

set_option maxHeartbeats 1000000 in
theorem s_impl_read_leaf : GenSound Try.prog 206 2 GLeaf := by
  have hR : Rely Try.prog (ctxOf []) := rely_nil mixed
  refine gen_of_aw b_impl_reader_leaf ?_
  rintro xs objs Q - ⟨k, a, s, p, c, l, rfl, rfl, hl, hq⟩ -
  have hln := length_nodeRows l
  refine ⟨by simp, vc2_sound hR _ _ _ _ _ ?_⟩
  conv => whnf
  repeat' (first
    | (refine And.intro (fun hb => ?_) (fun hb => ?_)
       all_goals (try simp only [decide_eq_true_eq, decide_eq_false_iff_not, Bool.not_eq_true', Bool.not_eq_false', Bool.not_not, ne_eq, length_ints, List.length_map, beq_iff_eq, bne_iff_ne, beq_eq_false_iff_ne, bne_eq_false_iff_eq, Int.not_le, Int.not_lt, ge_iff_le, gt_iff_lt, reduceCtorEq, not_false_eq_true, not_true_eq_false, Bool.false_eq_true, Bool.true_eq_false] at hb)
       all_goals (try (exfalso; omega))
       all_goals conv => whnf)
    | (refine And.intro (live_all rfl) ?_; conv => whnf)
    | (refine And.intro rfl ?_; conv => whnf)
    | (refine ⟨_, IntWalk.i64_in _ (by omega), ?_⟩; conv => whnf)
    | (refine And.intro (okcs_all rfl) ?_; conv => whnf)
    | (refine And.intro (okvs_all rfl) ?_; conv => whnf)
    | (refine And.intro (frees_all rfl) ?_; conv => whnf)
    | (refine And.intro (bsl_all rfl) ?_; conv => whnf)
    | (refine And.intro (lens_all rfl) ?_; conv => whnf)
    | (refine And.intro (Nat.le_of_ble_eq_true rfl) ?_; conv => whnf)
    | (rw [ints_at (by omega)]; conv => whnf)
    | (rw [ints_at0 (by omega)]; conv => whnf)
    | (rw [ints_at' (by omega) (by omega)]; conv => whnf)
    | (refine And.intro (show (_ + 1) * _ ≤ _ by omega) ?_; conv => whnf)
    | (refine And.intro (show _ + 1 ≤ _ by omega) ?_; conv => whnf)
    | (refine And.intro (by first | omega | (simp only [length_ints]; omega)) ?_; conv => whnf)
    | fail)
  refine ⟨.inr rfl, ?_⟩
  conv => whnf
  refine ⟨[some 0, none, some 2], .tup [], [some (rdO s p c 2 (l ++ [NodeD.mk k a 0]).length), none, some (.arr 3 (nodeRows (l ++ [NodeD.mk k a 0])))], ⟨rfl, And.intro (And.intro (.inl rfl) (And.intro (.inl rfl) (And.intro (.inl rfl) (And.intro ?_ (And.intro (.inl rfl) trivial))))) (And.intro (And.intro rfl node_app) trivial)⟩, trivial, rfl, hq⟩
  exact congrArg (AV.ref 2 0) (by simp)

set_option maxHeartbeats 1000000 in
theorem s_impl_read_one : GenSound Try.prog 204 2 GOne := by
  have hR : Rely Try.prog (ctxOf []) := rely_nil mixed
  refine gen_of_aw b_impl_reader_one ?_
  rintro xs objs Q - ⟨k, s, p, c, l, rfl, rfl, hl, hq⟩ -
  have hln := length_nodeRows l
  refine ⟨by simp, vc2_sound hR _ _ _ _ _ ?_⟩
  conv => whnf
  repeat' (first
    | (refine And.intro (fun hb => ?_) (fun hb => ?_)
       all_goals (try simp only [decide_eq_true_eq, decide_eq_false_iff_not, Bool.not_eq_true', Bool.not_eq_false', Bool.not_not, ne_eq, length_ints, List.length_map, beq_iff_eq, bne_iff_ne, beq_eq_false_iff_ne, bne_eq_false_iff_eq, Int.not_le, Int.not_lt, ge_iff_le, gt_iff_lt, reduceCtorEq, not_false_eq_true, not_true_eq_false, Bool.false_eq_true, Bool.true_eq_false] at hb)
       all_goals (try (exfalso; omega))
       all_goals conv => whnf)
    | (refine And.intro (live_all rfl) ?_; conv => whnf)
    | (refine And.intro rfl ?_; conv => whnf)
    | (refine ⟨_, IntWalk.i64_in _ (by omega), ?_⟩; conv => whnf)
    | (refine And.intro (okcs_all rfl) ?_; conv => whnf)
    | (refine And.intro (okvs_all rfl) ?_; conv => whnf)
    | (refine And.intro (frees_all rfl) ?_; conv => whnf)
    | (refine And.intro (bsl_all rfl) ?_; conv => whnf)
    | (refine And.intro (lens_all rfl) ?_; conv => whnf)
    | (refine And.intro (Nat.le_of_ble_eq_true rfl) ?_; conv => whnf)
    | (rw [ints_at (by omega)]; conv => whnf)
    | (rw [ints_at0 (by omega)]; conv => whnf)
    | (rw [ints_at' (by omega) (by omega)]; conv => whnf)
    | (refine And.intro (show (_ + 1) * _ ≤ _ by omega) ?_; conv => whnf)
    | (refine And.intro (show _ + 1 ≤ _ by omega) ?_; conv => whnf)
    | (refine And.intro (by first | omega | (simp only [length_ints]; omega)) ?_; conv => whnf)
    | fail)
  refine ⟨.inr rfl, ?_⟩
  conv => whnf
  refine ⟨[some 0, none, some 2], .tup [], [some (rdO s p c 2 (l ++ [NodeD.mk k ((l.length : Int) - 1) 0]).length), none, some (.arr 3 (nodeRows (l ++ [NodeD.mk k ((l.length : Int) - 1) 0])))], ⟨rfl, And.intro (And.intro (.inl rfl) (And.intro (.inl rfl) (And.intro (.inl rfl) (And.intro ?_ (And.intro (.inl rfl) trivial))))) (And.intro (And.intro rfl node_app) trivial)⟩, trivial, rfl, hq⟩
  exact congrArg (AV.ref 2 0) (by simp)

set_option maxHeartbeats 1000000 in
theorem s_impl_read_two : GenSound Try.prog 186 2 GTwo := by
  have hR : Rely Try.prog (ctxOf []) := rely_nil mixed
  refine gen_of_aw b_impl_reader_two ?_
  rintro xs objs Q - ⟨k, f, s, p, c, l, rfl, rfl, hl, hq⟩ -
  have hln := length_nodeRows l
  refine ⟨by simp, vc2_sound hR _ _ _ _ _ ?_⟩
  conv => whnf
  repeat' (first
    | (refine And.intro (fun hb => ?_) (fun hb => ?_)
       all_goals (try simp only [decide_eq_true_eq, decide_eq_false_iff_not, Bool.not_eq_true', Bool.not_eq_false', Bool.not_not, ne_eq, length_ints, List.length_map, beq_iff_eq, bne_iff_ne, beq_eq_false_iff_ne, bne_eq_false_iff_eq, Int.not_le, Int.not_lt, ge_iff_le, gt_iff_lt, reduceCtorEq, not_false_eq_true, not_true_eq_false, Bool.false_eq_true, Bool.true_eq_false] at hb)
       all_goals (try (exfalso; omega))
       all_goals conv => whnf)
    | (refine And.intro (live_all rfl) ?_; conv => whnf)
    | (refine And.intro rfl ?_; conv => whnf)
    | (refine ⟨_, IntWalk.i64_in _ (by omega), ?_⟩; conv => whnf)
    | (refine And.intro (okcs_all rfl) ?_; conv => whnf)
    | (refine And.intro (okvs_all rfl) ?_; conv => whnf)
    | (refine And.intro (frees_all rfl) ?_; conv => whnf)
    | (refine And.intro (bsl_all rfl) ?_; conv => whnf)
    | (refine And.intro (lens_all rfl) ?_; conv => whnf)
    | (refine And.intro (Nat.le_of_ble_eq_true rfl) ?_; conv => whnf)
    | (rw [ints_at (by omega)]; conv => whnf)
    | (rw [ints_at0 (by omega)]; conv => whnf)
    | (rw [ints_at' (by omega) (by omega)]; conv => whnf)
    | (refine And.intro (show (_ + 1) * _ ≤ _ by omega) ?_; conv => whnf)
    | (refine And.intro (show _ + 1 ≤ _ by omega) ?_; conv => whnf)
    | (refine And.intro (by first | omega | (simp only [length_ints]; omega)) ?_; conv => whnf)
    | fail)
  refine ⟨.inr rfl, ?_⟩
  conv => whnf
  refine ⟨[some 0, none, some 2], .tup [], [some (rdO s p c 2 (l ++ [NodeD.mk k f ((l.length : Int) - 1)]).length), none, some (.arr 3 (nodeRows (l ++ [NodeD.mk k f ((l.length : Int) - 1)])))], ⟨rfl, And.intro (And.intro (.inl rfl) (And.intro (.inl rfl) (And.intro (.inl rfl) (And.intro ?_ (And.intro (.inl rfl) trivial))))) (And.intro (And.intro rfl node_app) trivial)⟩, trivial, rfl, hq⟩
  exact congrArg (AV.ref 2 0) (by simp)

end Go.Proofs.Ytpfbkblgefddlaa.Ct

namespace Go.Proofs.Ytpfbkblgefddlaa.Ct
set_option linter.unusedSimpArgs false
set_option linter.unusedVariables false
open Go Go.Proofs Go.Proofs.Ytpfbkblgefddlaa.Av

def c_impl_reader_row : ICode := (.seq (.reg [⟨(some 9), .mv, [(.t 3)], none⟩, ⟨(some 10), .mv, [(.t 0)], none⟩, ⟨(some 11), .dyn, [(.t 9), (.t 10)], none⟩]) (.block 0 (.loop (.seq (.seq (.reg [⟨(some 12), .mv, [(.t 0)], none⟩, ⟨(some 13), .mv, [(.t 1)], none⟩, ⟨(some 14), (.call 185), [(.t 12), (.t 13)], none⟩]) (.cond (.t 14) .skip (.exit 0))) (.block 1 (.seq (.reg [⟨(some 15), .mv, [(.t 0)], none⟩, ⟨(some 16), .nck, [(.t 15)], none⟩, ⟨(some 17), (.fadr 3), [(.t 16)], none⟩, ⟨(some 18), .ld1, [(.t 17)], none⟩, ⟨(some 19), .len, [(.t 18)], none⟩, ⟨(some 20), (.bin .sub), [(.t 19), (.c (.int .i64 1))], none⟩, ⟨(some 8), .mv, [(.t 20)], none⟩]) (.seq (.reg [⟨(some 21), .mv, [(.t 3)], none⟩, ⟨(some 22), .mv, [(.t 0)], none⟩, ⟨(some 23), .dyn, [(.t 21), (.t 22)], none⟩]) (.reg [⟨(some 24), .mv, [(.t 0)], none⟩, ⟨(some 25), .mv, [(.t 2)], none⟩, ⟨(some 26), .mv, [(.t 8)], none⟩, ⟨(some 27), (.call 186), [(.t 24), (.t 25), (.t 26)], none⟩]))))))))
theorem b_impl_reader_row : Body Try.prog 149 28 c_impl_reader_row [] := by
  have h1 : comp Try.prog 28 (Try.f149.body.getD .skip) = some c_impl_reader_row := by kernel_rfl
  have h2 : Try.f149.body = some (Try.f149.body.getD .skip) := by kernel_rfl
  have h3 : Try.f149.results.toList.map (cRes Try.prog) = [] := by kernel_rfl
  exact ⟨_, _, Try.func149, h2, Try.ntmps149, h1, h3, by decide⟩

def c_impl_reader_bracket : ICode := (.seq (.reg [⟨(some 4), .mv, [(.t 1)], none⟩, ⟨(some 5), .mv, [(.t 0)], none⟩, ⟨(some 6), .dyn, [(.t 4), (.t 5)], none⟩]) (.seq (.reg [⟨(some 7), .mv, [(.t 0)], none⟩, ⟨(some 8), (.call 185), [(.t 7), (.c (.int .u8 41))], none⟩, ⟨(some 9), .not, [(.t 8)], none⟩]) (.cond (.t 9) (.reg [⟨(some 10), .mv, [(.t 0)], none⟩, ⟨(some 11), (.call 207), [(.t 10)], none⟩]) .skip)))
theorem b_impl_reader_bracket : Body Try.prog 205 12 c_impl_reader_bracket [] := by
  have h1 : comp Try.prog 12 (Try.f205.body.getD .skip) = some c_impl_reader_bracket := by kernel_rfl
  have h2 : Try.f205.body = some (Try.f205.body.getD .skip) := by kernel_rfl
  have h3 : Try.f205.results.toList.map (cRes Try.prog) = [] := by kernel_rfl
  exact ⟨_, _, Try.func205, h2, Try.ntmps205, h1, h3, by decide⟩

def c_impl_plainAtom : ICode := (.seq (.reg [⟨(some 5), .mv, [(.t 0)], none⟩, ⟨(some 6), (.call 198), [(.t 5)], none⟩, ⟨(some 4), .mv, [(.t 6)], none⟩]) (.block 0 (.seq (.reg [⟨(some 10), .mv, [(.t 0)], none⟩, ⟨(some 11), (.call 185), [(.t 10), (.c (.int .u8 40))], none⟩, ⟨(some 9), .mv, [(.t 11)], none⟩]) (.cond (.t 9) (.reg [⟨(some 12), .mv, [(.t 0)], none⟩, ⟨(some 13), .mv, [(.t 1)], none⟩, ⟨(some 14), (.call 205), [(.t 12), (.t 13)], none⟩]) (.seq (.reg [⟨(some 16), .mv, [(.t 0)], none⟩, ⟨(some 17), (.call 185), [(.t 16), (.c (.int .u8 116))], none⟩, ⟨(some 15), .mv, [(.t 17)], none⟩]) (.cond (.t 15) (.reg [⟨(some 18), .mv, [(.t 0)], none⟩, ⟨(some 19), (.call 206), [(.t 18), (.c (.int .i64 1)), (.c (.int .i64 0))], none⟩]) (.seq (.reg [⟨(some 21), .mv, [(.t 0)], none⟩, ⟨(some 22), (.call 185), [(.t 21), (.c (.int .u8 102))], none⟩, ⟨(some 20), .mv, [(.t 22)], none⟩]) (.cond (.t 20) (.reg [⟨(some 23), .mv, [(.t 0)], none⟩, ⟨(some 24), (.call 206), [(.t 23), (.c (.int .i64 2)), (.c (.int .i64 0))], none⟩]) (.seq (.reg [⟨(some 26), .mv, [(.t 4)], none⟩, ⟨(some 27), (.bin .geq), [(.t 26), (.c (.int .u8 48))], none⟩, ⟨(some 28), .mv, [(.t 27)], none⟩, ⟨(some 29), .mv, [(.t 4)], (some (28, true))⟩, ⟨(some 30), (.bin .lss), [(.t 29), (.c (.int .u8 51))], (some (28, true))⟩, ⟨(some 31), .pick, [(.t 28), (.t 30), (.c (.bool false))], none⟩, ⟨(some 25), .mv, [(.t 31)], none⟩]) (.cond (.t 25) (.seq (.reg [⟨(some 32), .mv, [(.t 0)], none⟩, ⟨(some 33), .nck, [(.t 32)], none⟩, ⟨(some 34), (.fadr 1), [(.t 33)], none⟩, ⟨(some 35), .ld1, [(.t 34)], none⟩, ⟨(some 36), (.bin .add), [(.t 35), (.c (.int .i64 1))], none⟩, ⟨(some 37), .nck, [(.t 32)], none⟩, ⟨(some 38), (.fadr 1), [(.t 37)], none⟩, ⟨none, (.st 1), [(.t 38), (.t 36)], none⟩]) (.reg [⟨(some 39), .mv, [(.t 0)], none⟩, ⟨(some 40), .mv, [(.t 4)], none⟩, ⟨(some 41), (.bin .sub), [(.t 40), (.c (.int .u8 48))], none⟩, ⟨(some 42), (.cvt .i64), [(.t 41)], none⟩, ⟨(some 43), (.call 206), [(.t 39), (.c (.int .i64 3)), (.t 42)], none⟩])) (.reg [⟨(some 7), .mv, [(.t 0)], none⟩, ⟨(some 8), (.call 207), [(.t 7)], none⟩])))))))))))
theorem b_impl_plainAtom : Body Try.prog 203 44 c_impl_plainAtom [] := by
  have h1 : comp Try.prog 44 (Try.f203.body.getD .skip) = some c_impl_plainAtom := by kernel_rfl
  have h2 : Try.f203.body = some (Try.f203.body.getD .skip) := by kernel_rfl
  have h3 : Try.f203.results.toList.map (cRes Try.prog) = [] := by kernel_rfl
  exact ⟨_, _, Try.func203, h2, Try.ntmps203, h1, h3, by decide⟩

def c_impl_ltlSum : ICode := (.reg [⟨(some 2), .mv, [(.t 0)], none⟩, ⟨(some 3), (.call 149), [(.t 2), (.c (.int .u8 124)), (.c (.int .i64 6)), (.c (.fn 150 []))], none⟩])
theorem b_impl_ltlSum : Body Try.prog 103 4 c_impl_ltlSum [] := by
  have h1 : comp Try.prog 4 (Try.f103.body.getD .skip) = some c_impl_ltlSum := by kernel_rfl
  have h2 : Try.f103.body = some (Try.f103.body.getD .skip) := by kernel_rfl
  have h3 : Try.f103.results.toList.map (cRes Try.prog) = [] := by kernel_rfl
  exact ⟨_, _, Try.func103, h2, Try.ntmps103, h1, h3, by decide⟩

def c_impl_ltlProduct : ICode := (.reg [⟨(some 2), .mv, [(.t 0)], none⟩, ⟨(some 3), (.call 149), [(.t 2), (.c (.int .u8 38)), (.c (.int .i64 5)), (.c (.fn 187 []))], none⟩])
theorem b_impl_ltlProduct : Body Try.prog 150 4 c_impl_ltlProduct [] := by
  have h1 : comp Try.prog 4 (Try.f150.body.getD .skip) = some c_impl_ltlProduct := by kernel_rfl
  have h2 : Try.f150.body = some (Try.f150.body.getD .skip) := by kernel_rfl
  have h3 : Try.f150.results.toList.map (cRes Try.prog) = [] := by kernel_rfl
  exact ⟨_, _, Try.func150, h2, Try.ntmps150, h1, h3, by decide⟩

def c_impl_ltlTerm : ICode := (.seq (.reg [⟨(some 4), .mv, [(.t 0)], none⟩, ⟨(some 5), (.call 199), [(.t 4)], none⟩]) (.seq (.reg [⟨(some 6), .mv, [(.t 0)], none⟩, ⟨(some 7), .nck, [(.t 6)], none⟩, ⟨(some 8), (.fadr 3), [(.t 7)], none⟩, ⟨(some 9), .ld1, [(.t 8)], none⟩, ⟨(some 10), .len, [(.t 9)], none⟩, ⟨(some 11), (.bin .sub), [(.t 10), (.c (.int .i64 1))], none⟩, ⟨(some 2), .mv, [(.t 11)], none⟩]) (.seq (.reg [⟨(some 3), .mv, [(.c (.int .i64 0))], none⟩]) (.seq (.block 0 (.seq (.reg [⟨(some 13), .mv, [(.t 0)], none⟩, ⟨(some 14), (.call 185), [(.t 13), (.c (.int .u8 85))], none⟩, ⟨(some 12), .mv, [(.t 14)], none⟩]) (.cond (.t 12) (.reg [⟨(some 3), .mv, [(.c (.int .i64 8))], none⟩]) (.seq (.reg [⟨(some 16), .mv, [(.t 0)], none⟩, ⟨(some 17), (.call 185), [(.t 16), (.c (.int .u8 82))], none⟩, ⟨(some 15), .mv, [(.t 17)], none⟩]) (.cond (.t 15) (.reg [⟨(some 3), .mv, [(.c (.int .i64 9))], none⟩]) .ret))))) (.seq (.reg [⟨(some 18), .mv, [(.t 0)], none⟩, ⟨(some 19), (.call 187), [(.t 18)], none⟩]) (.reg [⟨(some 20), .mv, [(.t 0)], none⟩, ⟨(some 21), .mv, [(.t 3)], none⟩, ⟨(some 22), .mv, [(.t 2)], none⟩, ⟨(some 23), (.call 186), [(.t 20), (.t 21), (.t 22)], none⟩]))))))
theorem b_impl_ltlTerm : Body Try.prog 187 24 c_impl_ltlTerm [] := by
  have h1 : comp Try.prog 24 (Try.f187.body.getD .skip) = some c_impl_ltlTerm := by kernel_rfl
  have h2 : Try.f187.body = some (Try.f187.body.getD .skip) := by kernel_rfl
  have h3 : Try.f187.results.toList.map (cRes Try.prog) = [] := by kernel_rfl
  exact ⟨_, _, Try.func187, h2, Try.ntmps187, h1, h3, by decide⟩

def c_impl_ltlAtom : ICode := (.seq (.reg [⟨(some 2), .mv, [(.c (.int .i64 0))], none⟩]) (.seq (.block 0 (.seq (.reg [⟨(some 6), .mv, [(.t 0)], none⟩, ⟨(some 7), (.call 185), [(.t 6), (.c (.int .u8 33))], none⟩, ⟨(some 5), .mv, [(.t 7)], none⟩]) (.cond (.t 5) (.reg [⟨(some 2), .mv, [(.c (.int .i64 4))], none⟩]) (.seq (.reg [⟨(some 9), .mv, [(.t 0)], none⟩, ⟨(some 10), (.call 185), [(.t 9), (.c (.int .u8 88))], none⟩, ⟨(some 8), .mv, [(.t 10)], none⟩]) (.cond (.t 8) (.reg [⟨(some 2), .mv, [(.c (.int .i64 7))], none⟩]) (.seq (.reg [⟨(some 12), .mv, [(.t 0)], none⟩, ⟨(some 13), (.call 185), [(.t 12), (.c (.int .u8 70))], none⟩, ⟨(some 11), .mv, [(.t 13)], none⟩]) (.cond (.t 11) (.reg [⟨(some 2), .mv, [(.c (.int .i64 10))], none⟩]) (.seq (.reg [⟨(some 15), .mv, [(.t 0)], none⟩, ⟨(some 16), (.call 185), [(.t 15), (.c (.int .u8 71))], none⟩, ⟨(some 14), .mv, [(.t 16)], none⟩]) (.cond (.t 14) (.reg [⟨(some 2), .mv, [(.c (.int .i64 11))], none⟩]) (.seq (.reg [⟨(some 3), .mv, [(.t 0)], none⟩, ⟨(some 4), (.call 203), [(.t 3), (.c (.fn 103 []))], none⟩]) .ret)))))))))) (.seq (.reg [⟨(some 17), .mv, [(.t 0)], none⟩, ⟨(some 18), (.call 199), [(.t 17)], none⟩]) (.reg [⟨(some 19), .mv, [(.t 0)], none⟩, ⟨(some 20), .mv, [(.t 2)], none⟩, ⟨(some 21), (.call 204), [(.t 19), (.t 20)], none⟩]))))
theorem b_impl_ltlAtom : Body Try.prog 199 22 c_impl_ltlAtom [] := by
  have h1 : comp Try.prog 22 (Try.f199.body.getD .skip) = some c_impl_ltlAtom := by kernel_rfl
  have h2 : Try.f199.body = some (Try.f199.body.getD .skip) := by kernel_rfl
  have h3 : Try.f199.results.toList.map (cRes Try.prog) = [] := by kernel_rfl
  exact ⟨_, _, Try.func199, h2, Try.ntmps199, h1, h3, by decide⟩


/-- the same, but for the nodes where something is wrong -/
def PR.sim (q R : PR) : Prop := q.p = R.p ∧ q.c = R.c ∧ (q.c = 0 → q.l = R.l)
theorem PR.sim_refl (r : PR) : r.sim r := ⟨rfl, rfl, fun _ => rfl⟩
theorem PR.sim_eq {q R : PR} (h : q.sim R) (hc : q.c = 0) : q = R := by
  obtain ⟨p, c, l⟩ := q
  obtain ⟨p', c', l'⟩ := R
  obtain ⟨h1, h2, h3⟩ := h
  simp only at h1 h2 h3 hc
  rw [h1, h2, h3 hc]
theorem PR.sim_one {q R : PR} {k : Int} (h : q.sim R) : (PR.mk q.p q.c (q.l ++ [⟨k, (q.l.length : Int) - 1, 0⟩])).sim (R.one k) := by
  by_cases hc : q.c = 0
  · have := PR.sim_eq h hc
    subst this
    refine ⟨?_, ?_, fun _ => ?_⟩ <;> simp [PR.one, hc]
  · have : R.one k = R := by unfold PR.one; rw [if_neg (by rw [← h.2.1]; exact hc)]
    rw [this]
    exact ⟨h.1, h.2.1, fun h0 => absurd h0 hc⟩
theorem PR.sim_two {q R : PR} {k f : Int} (h : q.sim R) : (PR.mk q.p q.c (q.l ++ [⟨k, f, (q.l.length : Int) - 1⟩])).sim (R.two k f) := by
  by_cases hc : q.c = 0
  · have := PR.sim_eq h hc
    subst this
    refine ⟨?_, ?_, fun _ => ?_⟩ <;> simp [PR.two, hc]
  · have : R.two k f = R := by unfold PR.two; rw [if_neg (by rw [← h.2.1]; exact hc)]
    rw [this]
    exact ⟨h.1, h.2.1, fun h0 => absurd h0 hc⟩
theorem PR.sim_close {s : List UInt8} {q R : PR} (h : q.sim R) (hc : q.c = 0) (hx : isB s q.p 41 = true) : (PR.mk (q.p + 1) q.c q.l).sim (R.close s) := by
  have := PR.sim_eq h hc
  subst this
  refine ⟨?_, ?_, fun _ => ?_⟩ <;> simp [PR.close, hc, hx, PR.adv]
theorem PR.sim_open {s : List UInt8} {q R : PR} (h : q.sim R) (hx : q.c ≠ 0 ∨ isB s q.p 41 = false) : (PR.mk q.p (failC s q.p q.c) q.l).sim (R.close s) := by
  by_cases hc : q.c = 0
  · have := PR.sim_eq h hc
    subst this
    have hx : isB s q.p 41 = false := by rcases hx with h | h; exact absurd hc h; exact h
    refine ⟨?_, ?_, fun _ => ?_⟩ <;> simp [PR.close, hc, hx, PR.bad, failC]
  · have : R.close s = R := by unfold PR.close; rw [if_neg (by rw [← h.2.1]; exact hc)]
    rw [this]
    unfold failC
    rw [if_neg hc]
    exact ⟨h.1, h.2.1, fun h0 => absurd h0 hc⟩

theorem isB_ne {s : List UInt8} {p : Nat} {x y : UInt8} (h : isB s p x = true) (hxy : x ≠ y) : isB s p y = false := by
  simp [isB] at h
  exact isB_neg (.inr (by rw [List.getD_eq_getElem?_getD, h.2]; exact hxy))

theorem rd_0 {s : List UInt8} {b : Nat} {r : PR} : rd s (b + 1) 0 r = rd s b 4 (rd s b 1 r) := by
  by_cases h : r.c = 0
  · simp only [rd]; rw [if_neg (by simp [h])]
  · rw [rd_err h, rd_err h, rd_err h]
theorem rd_1 {s : List UInt8} {b : Nat} {r : PR} : rd s (b + 1) 1 r = rd s b 5 (rd s b 2 r) := by
  by_cases h : r.c = 0
  · simp only [rd]; rw [if_neg (by simp [h])]
  · rw [rd_err h, rd_err h, rd_err h]
theorem rd_4 {s : List UInt8} {b : Nat} {r : PR} (hc : r.c = 0) (h : isB s r.p 124 = true) : rd s (b + 1) 4 r = rd s b 4 ((rd s b 1 r.adv).two 6 ((r.l.length : Int) - 1)) := by
  simp only [rd]; rw [if_neg (by simp [hc]), if_pos h]
theorem rd_5 {s : List UInt8} {b : Nat} {r : PR} (hc : r.c = 0) (h : isB s r.p 38 = true) : rd s (b + 1) 5 r = rd s b 5 ((rd s b 2 r.adv).two 5 ((r.l.length : Int) - 1)) := by
  simp only [rd]; rw [if_neg (by simp [hc]), if_pos h]
theorem rd_4n {s : List UInt8} {b : Nat} {r : PR} (h : r.c ≠ 0 ∨ isB s r.p 124 = false) : rd s b 4 r = r := by
  rcases h with h | h
  · exact rd_err h
  · exact rest_none (.inl ⟨rfl, h⟩)
theorem rd_5n {s : List UInt8} {b : Nat} {r : PR} (h : r.c ≠ 0 ∨ isB s r.p 38 = false) : rd s b 5 r = r := by
  rcases h with h | h
  · exact rd_err h
  · exact rest_none (.inr ⟨rfl, h⟩)
theorem rd_2u {s : List UInt8} {b : Nat} {r : PR} (hc : (rd s b 3 r).c = 0) (h : isB s (rd s b 3 r).p 85 = true) : rd s (b + 1) 2 r = (rd s b 2 (rd s b 3 r).adv).two 8 (((rd s b 3 r).l.length : Int) - 1) := by
  have h0 : r.c = 0 := by
    by_cases h0 : r.c = 0
    · exact h0
    · rw [rd_err h0] at hc; exact hc
  simp only [rd]; rw [if_neg (by simp [h0]), if_neg (by simp [hc]), if_pos h]
theorem rd_2r {s : List UInt8} {b : Nat} {r : PR} (hc : (rd s b 3 r).c = 0) (h : isB s (rd s b 3 r).p 82 = true) : rd s (b + 1) 2 r = (rd s b 2 (rd s b 3 r).adv).two 9 (((rd s b 3 r).l.length : Int) - 1) := by
  have h0 : r.c = 0 := by
    by_cases h0 : r.c = 0
    · exact h0
    · rw [rd_err h0] at hc; exact hc
  simp only [rd]; rw [if_neg (by simp [h0]), if_neg (by simp [hc]), if_neg (by rw [isB_ne h (by decide)]; simp), if_pos h]
theorem rd_2n {s : List UInt8} {b : Nat} {r q : PR} (hq : q.sim (rd s b 3 r)) (h : q.c ≠ 0 ∨ isB s q.p 85 = false) (h2 : q.c ≠ 0 ∨ isB s q.p 82 = false) : q.sim (rd s (b + 1) 2 r) := by
  by_cases h0 : r.c = 0
  · by_cases hc : q.c = 0
    · have := PR.sim_eq hq hc
      subst this
      have h : isB s (rd s b 3 r).p 85 = false := by rcases h with h | h; exact absurd hc h; exact h
      have h2 : isB s (rd s b 3 r).p 82 = false := by rcases h2 with h | h; exact absurd hc h; exact h
      have : rd s (b + 1) 2 r = rd s b 3 r := by
        simp only [rd]; rw [if_neg (by simp [h0]), if_neg (by simp [hc]), if_neg (by simp [h]), if_neg (by simp [h2])]
      rw [this]
      exact PR.sim_refl _
    · have : rd s (b + 1) 2 r = rd s b 3 r := by
        simp only [rd]; rw [if_neg (by simp [h0]), if_pos (by rw [← hq.2.1]; exact hc)]
      rw [this]
      exact hq
  · rw [rd_err h0] at hq ⊢
    exact hq

theorem rd_3_1 {s : List UInt8} {b : Nat} {r : PR} {x : UInt8} {k : Int} (hk : (x = 33 ∧ k = 4) ∨ (x = 88 ∧ k = 7) ∨ (x = 70 ∧ k = 10) ∨ (x = 71 ∧ k = 11)) (hc : r.c = 0) (h : isB s r.p x = true) : rd s (b + 1) 3 r = (rd s b 3 r.adv).one k := by
  have hn : ∀ y, x ≠ y → isB s r.p y = false := fun y => isB_ne h
  simp only [rd]
  rw [if_neg (by simp [hc])]
  rcases hk with ⟨rfl, rfl⟩ | ⟨rfl, rfl⟩ | ⟨rfl, rfl⟩ | ⟨rfl, rfl⟩
  · rw [if_pos h]
  · rw [if_neg (by rw [hn 33 (by decide)]; simp), if_pos h]
  · rw [if_neg (by rw [hn 33 (by decide)]; simp), if_neg (by rw [hn 88 (by decide)]; simp), if_pos h]
  · rw [if_neg (by rw [hn 33 (by decide)]; simp), if_neg (by rw [hn 88 (by decide)]; simp), if_neg (by rw [hn 70 (by decide)]; simp), if_pos h]

/-- none of the signs of one part is next -/
def noOne (s : List UInt8) (r : PR) : Prop := r.c = 0 → isB s r.p 33 = false ∧ isB s r.p 88 = false ∧ isB s r.p 70 = false ∧ isB s r.p 71 = false
theorem rd_c0 {s : List UInt8} {b m : Nat} {r q : PR} (h : q.sim (rd s b m r)) (hc : q.c = 0) : r.c = 0 := by
  by_cases h0 : r.c = 0
  · exact h0
  · rw [rd_err h0] at h
    rw [← h.2.1]; exact hc
theorem noOne_of {s : List UInt8} {r : PR} (h1 : r.c ≠ 0 ∨ isB s r.p 33 = false) (h2 : r.c ≠ 0 ∨ isB s r.p 88 = false) (h3 : r.c ≠ 0 ∨ isB s r.p 70 = false) (h4 : r.c ≠ 0 ∨ isB s r.p 71 = false) : noOne s r := by
  intro hc
  exact ⟨h1.resolve_left (fun h => h hc), h2.resolve_left (fun h => h hc), h3.resolve_left (fun h => h hc), h4.resolve_left (fun h => h hc)⟩
theorem rd_3_b {s : List UInt8} {b : Nat} {r : PR} (hn : noOne s r) (hc : r.c = 0) (h : isB s r.p 40 = true) : rd s (b + 1) 3 r = (rd s b 0 r.adv).close s := by
  obtain ⟨h1, h2, h3, h4⟩ := hn hc
  simp only [rd, h1, h2, h3, h4, h]
  rw [if_neg (by simp [hc])]
  simp
theorem rd_3_t {s : List UInt8} {b : Nat} {r : PR} (hn : noOne s r) (hc : r.c = 0) (h : isB s r.p 116 = true) : rd s (b + 1) 3 r = r.leaf 1 0 := by
  obtain ⟨h1, h2, h3, h4⟩ := hn hc
  simp only [rd, h1, h2, h3, h4, h, isB_ne (y := 40) h (by decide)]
  rw [if_neg (by simp [hc])]
  simp
theorem rd_3_f {s : List UInt8} {b : Nat} {r : PR} (hn : noOne s r) (hc : r.c = 0) (h : isB s r.p 102 = true) : rd s (b + 1) 3 r = r.leaf 2 0 := by
  obtain ⟨h1, h2, h3, h4⟩ := hn hc
  simp only [rd, h1, h2, h3, h4, h, isB_ne (y := 40) h (by decide), isB_ne (y := 116) h (by decide)]
  rw [if_neg (by simp [hc])]
  simp
theorem rd_3_p {s : List UInt8} {b : Nat} {r : PR} (hn : noOne s r) (hc : r.c = 0) (h0 : r.p < s.length) (h5 : 48 ≤ (s.getD r.p 0).toNat) (h6 : (s.getD r.p 0).toNat < 51) : rd s (b + 1) 3 r = r.leaf 3 (((s.getD r.p 0).toNat : Int) - 48) := by
  obtain ⟨h1, h2, h3, h4⟩ := hn hc
  have hy : ∀ y : UInt8, y.toNat < 48 ∨ 51 ≤ y.toNat → isB s r.p y = false := fun y hy => isB_neg (.inr (fun e => by rw [e] at h5 h6; omega))
  simp only [rd, h1, h2, h3, h4, hy 40 (by decide), hy 116 (by decide), hy 102 (by decide)]
  rw [if_neg (by simp [hc])]
  simp only [Bool.false_eq_true, ↓reduceIte]
  rw [if_pos ⟨h0, h5, h6⟩]
theorem rd_3_n {s : List UInt8} {b : Nat} {r : PR} (hn : noOne s r) (h5 : r.c ≠ 0 ∨ isB s r.p 40 = false) (h6 : r.c ≠ 0 ∨ isB s r.p 116 = false) (h7 : r.c ≠ 0 ∨ isB s r.p 102 = false)
    (h8 : r.c = 0 → ¬ (r.p < s.length ∧ 48 ≤ (s.getD r.p 0).toNat ∧ (s.getD r.p 0).toNat < 51)) : (PR.mk r.p (failC s r.p r.c) r.l).sim (rd s (b + 1) 3 r) := by
  by_cases hc : r.c = 0
  · obtain ⟨h1, h2, h3, h4⟩ := hn hc
    have h5 : isB s r.p 40 = false := by rcases h5 with h | h; exact absurd hc h; exact h
    have h6 : isB s r.p 116 = false := by rcases h6 with h | h; exact absurd hc h; exact h
    have h7 : isB s r.p 102 = false := by rcases h7 with h | h; exact absurd hc h; exact h
    have : rd s (b + 1) 3 r = r.bad s := by
      simp only [rd, h1, h2, h3, h4, h5, h6, h7]
      rw [if_neg (by simp [hc])]
      simp only [Bool.false_eq_true, ↓reduceIte]
      rw [if_neg (h8 hc)]
    rw [this]
    unfold failC PR.bad
    rw [if_pos hc]
    exact PR.sim_refl _
  · rw [rd_err hc]
    unfold failC
    rw [if_neg hc]
    exact PR.sim_refl _

/-- a reading: what it is given, what it gives -/
def GRdOf (xs0 : List AV) (pre : List UInt8 → PR → Prop) (res : List UInt8 → PR → PR) : GFun := fun xs objs Q => ∃ (s : List UInt8) (r : PR), xs = .ptr 0 0 0 :: xs0 ∧ objs = [rdO s r.p r.c 1 r.l.length, .arr 3 (nodeRows r.l)] ∧
  s.length ≤ 200 ∧ r.p ≤ s.length ∧ r.l.length ≤ r.p ∧ pre s r ∧
  ∀ q : PR, q.sim (res s r) → r.p ≤ q.p → q.p ≤ s.length → q.l.length + r.p ≤ r.l.length + q.p → Q (.tup []) [some (rdO s q.p q.c 2 q.l.length), none, some (.arr 3 (nodeRows q.l))]
theorem GRdOf_mk {xs0 : List AV} {pre : List UInt8 → PR → Prop} {res : List UInt8 → PR → PR} {s : List UInt8} (r : PR) {Q : AV → List (Option AObj) → Prop} (h1 : s.length ≤ 200) (h2 : r.p ≤ s.length) (h3 : r.l.length ≤ r.p) (h4 : pre s r)
    (hq : ∀ q : PR, q.sim (res s r) → r.p ≤ q.p → q.p ≤ s.length → q.l.length + r.p ≤ r.l.length + q.p → Q (.tup []) [some (rdO s q.p q.c 2 q.l.length), none, some (.arr 3 (nodeRows q.l))]) :
    GRdOf xs0 pre res (.ptr 0 0 0 :: xs0) [rdO s r.p r.c 1 r.l.length, .arr 3 (nodeRows r.l)] Q := ⟨s, r, rfl, rfl, h1, h2, h3, h4, hq⟩

def fits (m b : Nat) (s : List UInt8) (r : PR) : Prop := rank m ≤ b ∧ (r.c = 0 → need s m r.p ≤ b)
def GRd (b m : Nat) : GFun := GRdOf [] (fits m b) (fun s r => rd s b m r)
/-- .. with less fuel than b -/
def GLt (b m : Nat) : GFun := fun xs objs Q => ∃ b', b' < b ∧ GRd b' m xs objs Q
theorem GLt_mk {b m : Nat} (b' : Nat) {s : List UInt8} (r : PR) {Q : AV → List (Option AObj) → Prop} (hb : b' < b) (h1 : s.length ≤ 200) (h2 : r.p ≤ s.length) (h3 : r.l.length ≤ r.p) (h4 : fits m b' s r)
    (hq : ∀ q : PR, q.sim (rd s b' m r) → r.p ≤ q.p → q.p ≤ s.length → q.l.length + r.p ≤ r.l.length + q.p → Q (.tup []) [some (rdO s q.p q.c 2 q.l.length), none, some (.arr 3 (nodeRows q.l))]) :
    GLt b m [.ptr 0 0 0] [rdO s r.p r.c 1 r.l.length, .arr 3 (nodeRows r.l)] Q := ⟨b', hb, GRdOf_mk r h1 h2 h3 h4 hq⟩
theorem lt_sound {f b m : Nat} (h : ∀ b', b' < b → GenSound Try.prog f 2 (GRd b' m)) : GenSound Try.prog f 2 (GLt b m) := fun w own0 π objs xs vs Q hl hs hr ⟨b', hb, hg⟩ => h b' hb w own0 π objs xs vs Q hl hs hr hg

theorem GOne_mk {s : List UInt8} {p : Nat} {c k : Int} {l : List NodeD} {Q : AV → List (Option AObj) → Prop} (h1 : l.length ≤ 1000)
    (hq : Q (.tup []) [some (rdO s p c 2 (l ++ [NodeD.mk k ((l.length : Int) - 1) 0]).length), none, some (.arr 3 (nodeRows (l ++ [NodeD.mk k ((l.length : Int) - 1) 0])))]) : GOne [.ptr 0 0 0, .int .i64 k] [rdO s p c 1 l.length, .arr 3 (nodeRows l)] Q := ⟨k, GNode_mk (f := fun l => ⟨k, (l.length : Int) - 1, 0⟩) h1 hq⟩
theorem GTwo_mk {s : List UInt8} {p : Nat} {c k f : Int} {l : List NodeD} {Q : AV → List (Option AObj) → Prop} (h1 : l.length ≤ 1000)
    (hq : Q (.tup []) [some (rdO s p c 2 (l ++ [NodeD.mk k f ((l.length : Int) - 1)]).length), none, some (.arr 3 (nodeRows (l ++ [NodeD.mk k f ((l.length : Int) - 1)])))]) : GTwo [.ptr 0 0 0, .int .i64 k, .int .i64 f] [rdO s p c 1 l.length, .arr 3 (nodeRows l)] Q := ⟨k, f, GNode_mk (f := fun l => ⟨k, f, (l.length : Int) - 1⟩) h1 hq⟩
theorem GLeaf_mk {s : List UInt8} {p : Nat} {c k a : Int} {l : List NodeD} {Q : AV → List (Option AObj) → Prop} (h1 : l.length ≤ 1000)
    (hq : Q (.tup []) [some (rdO s p c 2 (l ++ [NodeD.mk k a 0]).length), none, some (.arr 3 (nodeRows (l ++ [NodeD.mk k a 0])))]) : GLeaf [.ptr 0 0 0, .int .i64 k, .int .i64 a] [rdO s p c 1 l.length, .arr 3 (nodeRows l)] Q := ⟨k, a, GNode_mk (f := fun _ => ⟨k, a, 0⟩) h1 hq⟩

end Go.Proofs.Ytpfbkblgefddlaa.Ct

