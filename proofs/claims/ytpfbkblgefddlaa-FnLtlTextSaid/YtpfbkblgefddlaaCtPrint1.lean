/- Formulas as text: signs, the reference's printer. -/
import Derived.Test.YtpfbkblgefddlaaCtTree
import Derived.Test.YtpfbkblgefddlaaCtWord2
namespace Go.Proofs.Ytpfbkblgefddlaa.Ct
set_option linter.unusedSimpArgs false
set_option linter.unusedVariables false
open Go Go.Proofs Go.Proofs.Ytpfbkblgefddlaa.Av

def c_impl_digit : ICode := (.seq (.reg [⟨(some 2), .mv, [(.c (.str []))], none⟩]) (.seq (.reg [⟨(some 3), .mv, [(.t 0)], none⟩, ⟨(some 4), (.bin .add), [(.c (.int .i64 48)), (.t 3)], none⟩, ⟨(some 5), (.cvt .u8), [(.t 4)], none⟩, ⟨(some 6), (.bsl 1), [(.t 5)], none⟩, ⟨(some 7), .b2s, [(.t 6)], none⟩, ⟨(some 2), .mv, [(.t 7)], none⟩]) .ret))
theorem b_impl_digit : Body Try.prog 145 8 c_impl_digit [(.t 2)] := by
  have h1 : comp Try.prog 8 (Try.f145.body.getD .skip) = some c_impl_digit := by kernel_rfl
  have h2 : Try.f145.body = some (Try.f145.body.getD .skip) := by kernel_rfl
  have h3 : Try.f145.results.toList.map (cRes Try.prog) = [(some (.t 2))] := by kernel_rfl
  exact ⟨_, _, Try.func145, h2, Try.ntmps145, h1, h3, by decide⟩

def c_impl_signOf : ICode := (.seq (.reg [⟨(some 2), .mv, [(.c (.str []))], none⟩]) (.seq (.seq (.reg [⟨(some 3), .mv, [(.t 0)], none⟩, ⟨(some 4), (.call 72), [(.t 3), (.c (.int .i64 1)), (.c (.int .i64 11))], none⟩, ⟨(some 5), .not, [(.t 4)], none⟩]) (.cond (.t 5) (.seq (.reg [⟨(some 2), .mv, [(.c (.str []))], none⟩]) .ret) .skip)) (.seq (.reg [⟨(some 6), (.bld [(.str []), (.str []), (.str []), (.str []), (.str []), (.str []), (.str []), (.str []), (.str []), (.str []), (.str [])] [(0, 1), (1, 1), (2, 1), (3, 1), (4, 1), (5, 1), (6, 1), (7, 1), (8, 1), (9, 1), (10, 1)]), [(.c (.str [116])), (.c (.str [102])), (.c (.str [])), (.c (.str [33])), (.c (.str [38])), (.c (.str [124])), (.c (.str [88])), (.c (.str [85])), (.c (.str [82])), (.c (.str [70])), (.c (.str [71]))], none⟩, ⟨(some 7), .mv, [(.t 0)], none⟩, ⟨(some 8), (.bin .sub), [(.t 7), (.c (.int .i64 1))], none⟩, ⟨(some 9), (.aidx 11), [(.t 6), (.t 8)], none⟩, ⟨(some 2), .mv, [(.t 9)], none⟩]) .ret)))
theorem b_impl_signOf : Body Try.prog 144 10 c_impl_signOf [(.t 2)] := by
  have h1 : comp Try.prog 10 (Try.f144.body.getD .skip) = some c_impl_signOf := by kernel_rfl
  have h2 : Try.f144.body = some (Try.f144.body.getD .skip) := by kernel_rfl
  have h3 : Try.f144.results.toList.map (cRes Try.prog) = [(some (.t 2))] := by kernel_rfl
  exact ⟨_, _, Try.func144, h2, Try.ntmps144, h1, h3, by decide⟩

def c_spec_l8Sign : ICode := (.seq (.reg [⟨(some 2), .mv, [(.c (.str []))], none⟩]) (.seq (.seq (.reg [⟨(some 3), .mv, [(.t 0)], none⟩]) (.block 0 (.seq (.reg [⟨(some 5), (.bin .eql), [(.t 3), (.c (.int .i64 4))], none⟩, ⟨(some 4), .mv, [(.t 5)], none⟩]) (.cond (.t 4) (.seq (.reg [⟨(some 2), .mv, [(.c (.str [33]))], none⟩]) .ret) (.seq (.reg [⟨(some 7), (.bin .eql), [(.t 3), (.c (.int .i64 5))], none⟩, ⟨(some 6), .mv, [(.t 7)], none⟩]) (.cond (.t 6) (.seq (.reg [⟨(some 2), .mv, [(.c (.str [38]))], none⟩]) .ret) (.seq (.reg [⟨(some 9), (.bin .eql), [(.t 3), (.c (.int .i64 6))], none⟩, ⟨(some 8), .mv, [(.t 9)], none⟩]) (.cond (.t 8) (.seq (.reg [⟨(some 2), .mv, [(.c (.str [124]))], none⟩]) .ret) (.seq (.reg [⟨(some 11), (.bin .eql), [(.t 3), (.c (.int .i64 7))], none⟩, ⟨(some 10), .mv, [(.t 11)], none⟩]) (.cond (.t 10) (.seq (.reg [⟨(some 2), .mv, [(.c (.str [88]))], none⟩]) .ret) (.seq (.reg [⟨(some 13), (.bin .eql), [(.t 3), (.c (.int .i64 8))], none⟩, ⟨(some 12), .mv, [(.t 13)], none⟩]) (.cond (.t 12) (.seq (.reg [⟨(some 2), .mv, [(.c (.str [85]))], none⟩]) .ret) (.seq (.reg [⟨(some 15), (.bin .eql), [(.t 3), (.c (.int .i64 9))], none⟩, ⟨(some 14), .mv, [(.t 15)], none⟩]) (.cond (.t 14) (.seq (.reg [⟨(some 2), .mv, [(.c (.str [82]))], none⟩]) .ret) (.seq (.reg [⟨(some 17), (.bin .eql), [(.t 3), (.c (.int .i64 10))], none⟩, ⟨(some 16), .mv, [(.t 17)], none⟩]) (.cond (.t 16) (.seq (.reg [⟨(some 2), .mv, [(.c (.str [70]))], none⟩]) .ret) (.seq (.reg [⟨(some 19), (.bin .eql), [(.t 3), (.c (.int .i64 11))], none⟩, ⟨(some 18), .mv, [(.t 19)], none⟩]) (.cond (.t 18) (.seq (.reg [⟨(some 2), .mv, [(.c (.str [71]))], none⟩]) .ret) .skip)))))))))))))))))) (.seq (.reg [⟨(some 2), .mv, [(.c (.str []))], none⟩]) .ret)))
theorem b_spec_l8Sign : Body Try.prog 152 20 c_spec_l8Sign [(.t 2)] := by
  have h1 : comp Try.prog 20 (Try.f152.body.getD .skip) = some c_spec_l8Sign := by kernel_rfl
  have h2 : Try.f152.body = some (Try.f152.body.getD .skip) := by kernel_rfl
  have h3 : Try.f152.results.toList.map (cRes Try.prog) = [(some (.t 2))] := by kernel_rfl
  exact ⟨_, _, Try.func152, h2, Try.ntmps152, h1, h3, by decide⟩

def c_spec_l8Print : ICode := (.seq (.reg [⟨(some 4), .mv, [(.c (.str []))], none⟩]) (.seq (.reg [⟨(some 6), .mv, [(.t 0)], none⟩, ⟨(some 7), .mv, [(.t 1)], none⟩, ⟨(some 8), (.iadr 3), [(.t 6), (.t 7)], none⟩, ⟨(some 9), (.ldn 3), [(.t 8)], none⟩, ⟨(some 5), (.alc [(.int .i64 0), (.int .i64 0), (.int .i64 0)]), [], none⟩, ⟨none, (.st 3), [(.t 5), (.t 9)], none⟩]) (.seq (.seq (.reg [⟨(some 10), (.fadr 0), [(.t 5)], none⟩, ⟨(some 11), .ld1, [(.t 10)], none⟩]) (.block 0 (.seq (.reg [⟨(some 13), (.bin .eql), [(.t 11), (.c (.int .i64 1))], none⟩, ⟨(some 12), .mv, [(.t 13)], none⟩]) (.cond (.t 12) (.seq (.reg [⟨(some 4), .mv, [(.c (.str [116]))], none⟩]) .ret) (.seq (.reg [⟨(some 15), (.bin .eql), [(.t 11), (.c (.int .i64 2))], none⟩, ⟨(some 14), .mv, [(.t 15)], none⟩]) (.cond (.t 14) (.seq (.reg [⟨(some 4), .mv, [(.c (.str [102]))], none⟩]) .ret) (.seq (.reg [⟨(some 17), (.bin .eql), [(.t 11), (.c (.int .i64 3))], none⟩, ⟨(some 16), .mv, [(.t 17)], none⟩]) (.cond (.t 16) (.seq (.reg [⟨(some 18), (.fadr 1), [(.t 5)], none⟩, ⟨(some 19), .ld1, [(.t 18)], none⟩, ⟨(some 20), (.call 129), [(.t 19)], none⟩, ⟨(some 4), .mv, [(.t 20)], none⟩]) .ret) .skip)))))))) (.seq (.seq (.reg [⟨(some 21), (.fadr 0), [(.t 5)], none⟩, ⟨(some 22), .ld1, [(.t 21)], none⟩, ⟨(some 23), (.call 98), [(.t 22)], none⟩, ⟨(some 24), (.bin .eql), [(.t 23), (.c (.int .i64 1))], none⟩]) (.cond (.t 24) (.seq (.drw [⟨(some 25), (.fadr 0), [(.t 5)], none⟩, ⟨(some 26), .ld1, [(.t 25)], none⟩, ⟨(some 27), (.call 152), [(.t 26)], none⟩, ⟨(some 28), .mv, [(.t 0)], none⟩, ⟨(some 29), (.fadr 1), [(.t 5)], none⟩, ⟨(some 30), .ld1, [(.t 29)], none⟩, ⟨(some 31), (.call 105), [(.t 28), (.t 30)], none⟩, ⟨(some 32), (.bin .add), [(.t 27), (.t 31)], none⟩, ⟨(some 4), .mv, [(.t 32)], none⟩] [[], [0], [0, 1], [], [], [4], [0, 1, 2, 3, 4, 5], [0, 1, 2, 3, 4, 5, 6], [0, 1, 2, 3, 4, 5, 6, 7]] true true) .ret) .skip)) (.seq (.drw [⟨(some 33), .mv, [(.t 0)], none⟩, ⟨(some 34), (.fadr 1), [(.t 5)], none⟩, ⟨(some 35), .ld1, [(.t 34)], none⟩, ⟨(some 36), (.call 105), [(.t 33), (.t 35)], none⟩, ⟨(some 37), (.bin .add), [(.c (.str [40])), (.t 36)], none⟩, ⟨(some 38), (.fadr 0), [(.t 5)], none⟩, ⟨(some 39), .ld1, [(.t 38)], none⟩, ⟨(some 40), (.call 152), [(.t 39)], none⟩, ⟨(some 41), (.bin .add), [(.t 37), (.t 40)], none⟩, ⟨(some 42), .mv, [(.t 0)], none⟩, ⟨(some 43), (.fadr 2), [(.t 5)], none⟩, ⟨(some 44), .ld1, [(.t 43)], none⟩, ⟨(some 45), (.call 105), [(.t 42), (.t 44)], none⟩, ⟨(some 46), (.bin .add), [(.t 41), (.t 45)], none⟩, ⟨(some 47), (.bin .add), [(.t 46), (.c (.str [41]))], none⟩, ⟨(some 4), .mv, [(.t 47)], none⟩] [[], [], [1], [0, 1, 2], [0, 1, 2, 3], [], [5], [0, 1, 2, 3, 5, 6], [0, 1, 2, 3, 4, 5, 6, 7], [], [], [10], [0, 1, 2, 3, 5, 6, 7, 9, 10, 11], [0, 1, 2, 3, 4, 5, 6, 7, 8, 9, 10, 11, 12], [0, 1, 2, 3, 4, 5, 6, 7, 8, 9, 10, 11, 12, 13], [0, 1, 2, 3, 4, 5, 6, 7, 8, 9, 10, 11, 12, 13, 14]] true true) .ret)))))
theorem b_spec_l8Print : Body Try.prog 105 48 c_spec_l8Print [(.t 4)] := by
  have h1 : comp Try.prog 48 (Try.f105.body.getD .skip) = some c_spec_l8Print := by kernel_rfl
  have h2 : Try.f105.body = some (Try.f105.body.getD .skip) := by kernel_rfl
  have h3 : Try.f105.results.toList.map (cRes Try.prog) = [(some (.t 4))] := by kernel_rfl
  exact ⟨_, _, Try.func105, h2, Try.ntmps105, h1, h3, by decide⟩


def sgn (k : Int) : List UInt8 :=
  if k = 1 then [116] else if k = 2 then [102] else if k = 4 then [33] else if k = 5 then [38] else if k = 6 then [124] else if k = 7 then [88]
  else if k = 8 then [85] else if k = 9 then [82] else if k = 10 then [70] else if k = 11 then [71] else []

/-- a tree's text -/
def txt : Tr → List UInt8
  | .leaf k a => if k = 3 then [digitB a] else sgn k
  | .one k t => sgn k ++ txt t
  | .two k s t => [40] ++ txt s ++ sgn k ++ txt t ++ [41]

theorem length_sgn (k : Int) : (sgn k).length ≤ 1 := by
  unfold sgn
  (repeat' split) <;> simp

theorem length_txt : ∀ t : Tr, (txt t).length + 3 ≤ 4 * t.size
  | .leaf k a => by
    have := length_sgn k
    simp only [txt, Tr.size]
    split
    · simp
    · omega
  | .one k t => by
    have := length_sgn k
    have := length_txt t
    simp only [txt, Tr.size, List.length_append]
    omega
  | .two k s t => by
    have := length_sgn k
    have := length_txt s
    have := length_txt t
    simp only [txt, Tr.size, List.length_append, List.length_cons, List.length_nil]
    omega

theorem s_impl_digit : PureSound Try.prog 145 RDigit := by
  have hR : Rely Try.prog (ctxOf []) := rely_nil mixed
  refine pure_of_aw b_impl_digit ?_
  rintro xs r objs ⟨n, rfl, h0, h1, rfl, rfl⟩ -
  refine ⟨by simp, vc2_sound hR _ _ _ _ _ ?_⟩
  conv => whnf
  repeat' (first
    | (refine And.intro (fun hb => ?_) (fun hb => ?_)
       all_goals (try simp only [decide_eq_true_eq, decide_eq_false_iff_not, Bool.not_eq_true', Bool.not_eq_false', Bool.not_not, ne_eq, length_ints, List.length_map, beq_iff_eq, bne_iff_ne, beq_eq_false_iff_ne, bne_eq_false_iff_eq, Int.not_le, Int.not_lt, ge_iff_le, gt_iff_lt, reduceCtorEq, not_false_eq_true, not_true_eq_false, Bool.false_eq_true, Bool.true_eq_false] at hb)
       all_goals (try (exfalso; omega))
       all_goals conv => whnf)
    | (refine And.intro (live_all rfl) ?_; conv => whnf)
    | (refine And.intro rfl ?_; conv => whnf)
    | (refine ⟨_, IntWalk.i64_in _ (by omega), ?_⟩; conv => whnf)
    | (refine And.intro (okcs_all rfl) ?_; conv => whnf)
    | (refine And.intro (okvs_all rfl) ?_; conv => whnf)
    | (refine And.intro (frees_all rfl) ?_; conv => whnf)
    | (refine And.intro (bsl_all rfl) ?_; conv => whnf)
    | (refine And.intro (lens_all rfl) ?_; conv => whnf)
    | (refine And.intro (Nat.le_of_ble_eq_true rfl) ?_; conv => whnf)
    | (rw [ints_at (by omega)]; conv => whnf)
    | (rw [ints_at0 (by omega)]; conv => whnf)
    | (rw [ints_at' (by omega) (by omega)]; conv => whnf)
    | (refine And.intro (show (_ + 1) * _ ≤ _ by omega) ?_; conv => whnf)
    | (refine And.intro (show _ + 1 ≤ _ by omega) ?_; conv => whnf)
    | (refine And.intro (by first | omega | (simp only [length_ints]; omega)) ?_; conv => whnf)
    | fail)
  refine ⟨48 + n, IntWalk.u8_in _ (by omega), ?_⟩
  conv => whnf
  repeat' (first
    | (refine And.intro (fun hb => ?_) (fun hb => ?_)
       all_goals (try simp only [decide_eq_true_eq, decide_eq_false_iff_not, Bool.not_eq_true', Bool.not_eq_false', Bool.not_not, ne_eq, length_ints, List.length_map, beq_iff_eq, bne_iff_ne, beq_eq_false_iff_ne, bne_eq_false_iff_eq, Int.not_le, Int.not_lt, ge_iff_le, gt_iff_lt, reduceCtorEq, not_false_eq_true, not_true_eq_false, Bool.false_eq_true, Bool.true_eq_false] at hb)
       all_goals (try (exfalso; omega))
       all_goals conv => whnf)
    | (refine And.intro (live_all rfl) ?_; conv => whnf)
    | (refine And.intro rfl ?_; conv => whnf)
    | (refine ⟨_, IntWalk.i64_in _ (by omega), ?_⟩; conv => whnf)
    | (refine And.intro (okcs_all rfl) ?_; conv => whnf)
    | (refine And.intro (okvs_all rfl) ?_; conv => whnf)
    | (refine And.intro (frees_all rfl) ?_; conv => whnf)
    | (refine And.intro (bsl_all rfl) ?_; conv => whnf)
    | (refine And.intro (lens_all rfl) ?_; conv => whnf)
    | (refine And.intro (Nat.le_of_ble_eq_true rfl) ?_; conv => whnf)
    | (rw [ints_at (by omega)]; conv => whnf)
    | (rw [ints_at0 (by omega)]; conv => whnf)
    | (rw [ints_at' (by omega) (by omega)]; conv => whnf)
    | (refine And.intro (show (_ + 1) * _ ≤ _ by omega) ?_; conv => whnf)
    | (refine And.intro (show _ + 1 ≤ _ by omega) ?_; conv => whnf)
    | (refine And.intro (by first | omega | (simp only [length_ints]; omega)) ?_; conv => whnf)
    | fail)
  refine ⟨[digitB n], ?_, ?_⟩
  · conv => lhs; whnf
    simp only [List.map, byteRow, digitB_cell h0 h1]
    rfl
  · conv => whnf
    repeat' (first
      | (refine And.intro (fun hb => ?_) (fun hb => ?_)
         all_goals (try simp only [decide_eq_true_eq, decide_eq_false_iff_not, Bool.not_eq_true', Bool.not_eq_false', Bool.not_not, ne_eq, length_ints, List.length_map, beq_iff_eq, bne_iff_ne, beq_eq_false_iff_ne, bne_eq_false_iff_eq, Int.not_le, Int.not_lt, ge_iff_le, gt_iff_lt, reduceCtorEq, not_false_eq_true, not_true_eq_false, Bool.false_eq_true, Bool.true_eq_false] at hb)
         all_goals (try (exfalso; omega))
         all_goals conv => whnf)
      | (refine And.intro (live_all rfl) ?_; conv => whnf)
      | (refine And.intro rfl ?_; conv => whnf)
      | (refine ⟨_, IntWalk.i64_in _ (by omega), ?_⟩; conv => whnf)
      | (refine And.intro (okcs_all rfl) ?_; conv => whnf)
      | (refine And.intro (okvs_all rfl) ?_; conv => whnf)
      | (refine And.intro (frees_all rfl) ?_; conv => whnf)
      | (refine And.intro (bsl_all rfl) ?_; conv => whnf)
      | (refine And.intro (lens_all rfl) ?_; conv => whnf)
      | (refine And.intro (Nat.le_of_ble_eq_true rfl) ?_; conv => whnf)
      | (rw [ints_at (by omega)]; conv => whnf)
      | (rw [ints_at0 (by omega)]; conv => whnf)
      | (rw [ints_at' (by omega) (by omega)]; conv => whnf)
      | (refine And.intro (show (_ + 1) * _ ≤ _ by omega) ?_; conv => whnf)
      | (refine And.intro (show _ + 1 ≤ _ by omega) ?_; conv => whnf)
      | (refine And.intro (by first | omega | (simp only [length_ints]; omega)) ?_; conv => whnf)
      | fail)
    refine ⟨.inl rfl, ?_⟩
    conv => whnf
    refine ⟨[], ⟨rfl, trivial⟩, ?_, rfl, rfl⟩
    conv => whnf
    left
    conv => lhs; whnf

def RSign (xs : List AV) (r : AV) (objs : List AObj) : Prop := ∃ k, xs = [.int .i64 k] ∧ r = .str (sgn k) ∧ objs = []
theorem RSign_mk {k : Int} : RSign [.int .i64 k] (.str (sgn k)) [] := ⟨k, rfl, rfl, rfl⟩
theorem RSign_of {k : Int} {s : List UInt8} (h : sgn k = s) : RSign [.int .i64 k] (.str s) [] := ⟨k, rfl, by rw [h], rfl⟩

theorem sgn_out {k : Int} (h : ¬ (1 ≤ k ∧ k ≤ 11)) : sgn k = [] := by
  unfold sgn
  rw [if_neg (by omega), if_neg (by omega), if_neg (by omega), if_neg (by omega), if_neg (by omega), if_neg (by omega), if_neg (by omega), if_neg (by omega), if_neg (by omega), if_neg (by omega)]

set_option maxHeartbeats 1000000 in
theorem s_impl_signOf : PureSound Try.prog 144 RSign := by
  have hR : Rely Try.prog (ctxOf [(72, .pure RIn)]) := rely_cons b_impl_inRange.has s_impl_inRange (rely_nil mixed)
  refine pure_of_aw b_impl_signOf ?_
  rintro xs r objs ⟨k, rfl, rfl, rfl⟩ -
  refine ⟨by simp, vc2_sound hR _ _ _ _ _ ?_⟩
  by_cases hk : 1 ≤ k ∧ k ≤ 11
  · have : k = 1 ∨ k = 2 ∨ k = 3 ∨ k = 4 ∨ k = 5 ∨ k = 6 ∨ k = 7 ∨ k = 8 ∨ k = 9 ∨ k = 10 ∨ k = 11 := by omega
    rcases this with rfl | rfl | rfl | rfl | rfl | rfl | rfl | rfl | rfl | rfl | rfl
    all_goals
      conv => whnf
      repeat' (first
        | (refine And.intro (fun hb => ?_) (fun hb => ?_)
           all_goals (try simp only [decide_eq_true_eq, decide_eq_false_iff_not, Bool.not_eq_true', Bool.not_eq_false', Bool.not_not, ne_eq, length_ints, List.length_map, beq_iff_eq, bne_iff_ne, beq_eq_false_iff_ne, bne_eq_false_iff_eq, Int.not_le, Int.not_lt, ge_iff_le, gt_iff_lt, reduceCtorEq, not_false_eq_true, not_true_eq_false, Bool.false_eq_true, Bool.true_eq_false] at hb)
           all_goals (try (exfalso; omega))
           all_goals conv => whnf)
        | (refine And.intro (live_all rfl) ?_; conv => whnf)
        | (refine And.intro rfl ?_; conv => whnf)
        | (refine ⟨_, IntWalk.i64_in _ (by omega), ?_⟩; conv => whnf)
        | (refine And.intro (okcs_all rfl) ?_; conv => whnf)
        | (refine And.intro (okvs_all rfl) ?_; conv => whnf)
        | (refine And.intro (frees_all rfl) ?_; conv => whnf)
        | (refine And.intro (bsl_all rfl) ?_; conv => whnf)
        | (refine And.intro (lens_all rfl) ?_; conv => whnf)
        | (refine And.intro (Nat.le_of_ble_eq_true rfl) ?_; conv => whnf)
        | (rw [ints_at (by omega)]; conv => whnf)
        | (rw [ints_at0 (by omega)]; conv => whnf)
        | (rw [ints_at' (by omega) (by omega)]; conv => whnf)
        | (refine And.intro (show (_ + 1) * _ ≤ _ by omega) ?_; conv => whnf)
        | (refine And.intro (show _ + 1 ≤ _ by omega) ?_; conv => whnf)
        | (refine And.intro (by first | omega | (simp only [length_ints]; omega)) ?_; conv => whnf)
        | (refine ⟨_, _, RIn_mk, ?_⟩; conv => whnf)
        | fail)
      refine ⟨.inl rfl, ?_⟩
      conv => whnf
      refine ⟨[], ⟨rfl, trivial⟩, ?_, rfl, rfl⟩
      conv => whnf
      left
      conv => lhs; whnf
      rfl
  · conv => whnf
    repeat' (first
      | (refine And.intro (fun hb => ?_) (fun hb => ?_)
         all_goals (try simp only [decide_eq_true_eq, decide_eq_false_iff_not, Bool.not_eq_true', Bool.not_eq_false', Bool.not_not, ne_eq, length_ints, List.length_map, beq_iff_eq, bne_iff_ne, beq_eq_false_iff_ne, bne_eq_false_iff_eq, Int.not_le, Int.not_lt, ge_iff_le, gt_iff_lt, reduceCtorEq, not_false_eq_true, not_true_eq_false, Bool.false_eq_true, Bool.true_eq_false] at hb)
         all_goals (try (exfalso; omega))
         all_goals conv => whnf)
      | (refine And.intro (live_all rfl) ?_; conv => whnf)
      | (refine And.intro rfl ?_; conv => whnf)
      | (refine ⟨_, IntWalk.i64_in _ (by omega), ?_⟩; conv => whnf)
      | (refine And.intro (okcs_all rfl) ?_; conv => whnf)
      | (refine And.intro (okvs_all rfl) ?_; conv => whnf)
      | (refine And.intro (frees_all rfl) ?_; conv => whnf)
      | (refine And.intro (bsl_all rfl) ?_; conv => whnf)
      | (refine And.intro (lens_all rfl) ?_; conv => whnf)
      | (refine And.intro (Nat.le_of_ble_eq_true rfl) ?_; conv => whnf)
      | (rw [ints_at (by omega)]; conv => whnf)
      | (rw [ints_at0 (by omega)]; conv => whnf)
      | (rw [ints_at' (by omega) (by omega)]; conv => whnf)
      | (refine And.intro (show (_ + 1) * _ ≤ _ by omega) ?_; conv => whnf)
      | (refine And.intro (show _ + 1 ≤ _ by omega) ?_; conv => whnf)
      | (refine And.intro (by first | omega | (simp only [length_ints]; omega)) ?_; conv => whnf)
      | (refine ⟨_, _, RIn_mk, ?_⟩; conv => whnf)
      | fail)
    rw [sgn_out hk]
    refine ⟨.inl rfl, ?_⟩
    conv => whnf
    refine ⟨[], ⟨rfl, trivial⟩, ?_, rfl, rfl⟩
    conv => whnf
    left
    conv => lhs; whnf

theorem s_spec_l8Sign : PureSound Try.prog 152 (fun xs r objs => ∃ k, xs = [.int .i64 k] ∧ 4 ≤ k ∧ r = .str (sgn k) ∧ objs = []) := by
  have hR : Rely Try.prog (ctxOf []) := rely_nil mixed
  refine pure_of_aw b_spec_l8Sign ?_
  rintro xs r objs ⟨k, rfl, hk4, rfl, rfl⟩ -
  refine ⟨by simp, vc2_sound hR _ _ _ _ _ ?_⟩
  conv => whnf
  repeat' (first
    | (refine And.intro (fun hb => ?_) (fun hb => ?_)
       all_goals (try simp only [decide_eq_true_eq, decide_eq_false_iff_not, Bool.not_eq_true', Bool.not_eq_false', Bool.not_not, ne_eq, length_ints, List.length_map, beq_iff_eq, bne_iff_ne, beq_eq_false_iff_ne, bne_eq_false_iff_eq, Int.not_le, Int.not_lt, ge_iff_le, gt_iff_lt, reduceCtorEq, not_false_eq_true, not_true_eq_false, Bool.false_eq_true, Bool.true_eq_false] at hb)
       all_goals (try (exfalso; omega))
       all_goals conv => whnf)
    | (refine And.intro (live_all rfl) ?_; conv => whnf)
    | (refine And.intro rfl ?_; conv => whnf)
    | (refine ⟨_, IntWalk.i64_in _ (by omega), ?_⟩; conv => whnf)
    | (refine And.intro (okcs_all rfl) ?_; conv => whnf)
    | (refine And.intro (okvs_all rfl) ?_; conv => whnf)
    | (refine And.intro (frees_all rfl) ?_; conv => whnf)
    | (refine And.intro (bsl_all rfl) ?_; conv => whnf)
    | (refine And.intro (lens_all rfl) ?_; conv => whnf)
    | (refine And.intro (Nat.le_of_ble_eq_true rfl) ?_; conv => whnf)
    | (rw [ints_at (by omega)]; conv => whnf)
    | (rw [ints_at0 (by omega)]; conv => whnf)
    | (rw [ints_at' (by omega) (by omega)]; conv => whnf)
    | (refine And.intro (show (_ + 1) * _ ≤ _ by omega) ?_; conv => whnf)
    | (refine And.intro (show _ + 1 ≤ _ by omega) ?_; conv => whnf)
    | (refine And.intro (by first | omega | (simp only [length_ints]; omega)) ?_; conv => whnf)
    | fail)
  all_goals
    refine ⟨.inl rfl, ?_⟩
    conv => whnf
    refine ⟨[], ⟨rfl, trivial⟩, ?_, rfl, rfl⟩
    conv => whnf
    left
    conv => lhs; whnf
    refine congrArg AV.str ?_
    first
    | (subst hb; rfl)
    | (rw [sgn_out (by omega)])

end Go.Proofs.Ytpfbkblgefddlaa.Ct

