/- Words: their texts. -/
import Derived.Test.YtpfbkblgefddlaaCtWord1
namespace Go.Proofs.Ytpfbkblgefddlaa.Ct
set_option linter.unusedSimpArgs false
set_option linter.unusedVariables false
open Go Go.Proofs Go.Proofs.Ytpfbkblgefddlaa.Av

def c_spec_l2Digit : ICode := (.seq (.reg [⟨(some 2), .mv, [(.c (.str []))], none⟩]) (.seq (.reg [⟨(some 3), .mv, [(.t 0)], none⟩, ⟨(some 4), (.bin .add), [(.c (.int .i64 48)), (.t 3)], none⟩, ⟨(some 5), (.cvt .u8), [(.t 4)], none⟩, ⟨(some 6), (.bsl 1), [(.t 5)], none⟩, ⟨(some 7), .b2s, [(.t 6)], none⟩, ⟨(some 2), .mv, [(.t 7)], none⟩]) .ret))
theorem b_spec_l2Digit : Body Try.prog 129 8 c_spec_l2Digit [(.t 2)] := by
  have h1 : comp Try.prog 8 (Try.f129.body.getD .skip) = some c_spec_l2Digit := by kernel_rfl
  have h2 : Try.f129.body = some (Try.f129.body.getD .skip) := by kernel_rfl
  have h3 : Try.f129.results.toList.map (cRes Try.prog) = [(some (.t 2))] := by kernel_rfl
  exact ⟨_, _, Try.func129, h2, Try.ntmps129, h1, h3, by decide⟩

def c_spec_l17Digits : ICode := (.seq (.reg [⟨(some 2), .mv, [(.c (.str []))], none⟩]) (.seq (.reg [⟨(some 3), .mv, [(.c (.str []))], none⟩]) (.seq (.seq (.reg [⟨(some 4), .mv, [(.c (.int .i64 0))], none⟩]) (.block 0 (.loop (.seq (.seq (.reg [⟨(some 5), .mv, [(.t 4)], none⟩, ⟨(some 6), .mv, [(.t 0)], none⟩, ⟨(some 7), .len, [(.t 6)], none⟩, ⟨(some 8), (.bin .lss), [(.t 5), (.t 7)], none⟩]) (.cond (.t 8) .skip (.exit 0))) (.seq (.block 1 (.reg [⟨(some 11), .mv, [(.t 3)], none⟩, ⟨(some 12), .mv, [(.t 0)], none⟩, ⟨(some 13), .mv, [(.t 4)], none⟩, ⟨(some 14), (.iadr 1), [(.t 12), (.t 13)], none⟩, ⟨(some 15), .ld1, [(.t 14)], none⟩, ⟨(some 16), (.call 129), [(.t 15)], none⟩, ⟨(some 17), (.bin .add), [(.t 11), (.t 16)], none⟩, ⟨(some 3), .mv, [(.t 17)], none⟩])) (.reg [⟨(some 9), .mv, [(.t 4)], none⟩, ⟨(some 10), (.bin .add), [(.t 9), (.c (.int .i64 1))], none⟩, ⟨(some 4), .mv, [(.t 10)], none⟩])))))) (.seq (.reg [⟨(some 18), .mv, [(.t 3)], none⟩, ⟨(some 2), .mv, [(.t 18)], none⟩]) .ret))))
theorem b_spec_l17Digits : Body Try.prog 63 19 c_spec_l17Digits [(.t 2)] := by
  have h1 : comp Try.prog 19 (Try.f63.body.getD .skip) = some c_spec_l17Digits := by kernel_rfl
  have h2 : Try.f63.body = some (Try.f63.body.getD .skip) := by kernel_rfl
  have h3 : Try.f63.results.toList.map (cRes Try.prog) = [(some (.t 2))] := by kernel_rfl
  exact ⟨_, _, Try.func63, h2, Try.ntmps63, h1, h3, by decide⟩

def c_impl_digitsOf : ICode := (.seq (.reg [⟨(some 2), .mv, [(.c (.str []))], none⟩]) (.seq (.reg [⟨(some 3), .mv, [(.c .snil)], none⟩]) (.seq (.seq (.reg [⟨(some 6), .mv, [(.t 0)], none⟩, ⟨(some 7), .len, [(.t 6)], none⟩, ⟨(some 8), .mv, [(.c (.int .i64 0))], none⟩]) (.block 0 (.loop (.seq (.reg [⟨(some 9), (.bin .lss), [(.t 8), (.t 7)], none⟩]) (.seq (.cond (.t 9) .skip (.exit 0)) (.seq (.block 1 (.seq (.reg [⟨(some 10), (.iadr 1), [(.t 6), (.t 8)], none⟩, ⟨(some 11), .ld1, [(.t 10)], none⟩, ⟨(some 5), .mv, [(.t 11)], none⟩]) (.reg [⟨(some 12), .mv, [(.t 3)], none⟩, ⟨(some 13), .mv, [(.t 5)], none⟩, ⟨(some 14), (.bin .add), [(.c (.int .i64 48)), (.t 13)], none⟩, ⟨(some 15), (.cvt .u8), [(.t 14)], none⟩, ⟨(some 16), (.bslv 1), [(.t 15)], none⟩, ⟨(some 17), (.app 1 1), [(.t 12), (.t 16)], none⟩, ⟨(some 3), .mv, [(.t 17)], none⟩]))) (.reg [⟨(some 18), (.bin .add), [(.t 8), (.c (.int .i64 1))], none⟩, ⟨(some 8), .mv, [(.t 18)], none⟩]))))))) (.seq (.reg [⟨(some 19), .mv, [(.t 3)], none⟩, ⟨(some 20), .b2s, [(.t 19)], none⟩, ⟨(some 2), .mv, [(.t 20)], none⟩]) .ret))))
theorem b_impl_digitsOf : Body Try.prog 66 21 c_impl_digitsOf [(.t 2)] := by
  have h1 : comp Try.prog 21 (Try.f66.body.getD .skip) = some c_impl_digitsOf := by kernel_rfl
  have h2 : Try.f66.body = some (Try.f66.body.getD .skip) := by kernel_rfl
  have h3 : Try.f66.results.toList.map (cRes Try.prog) = [(some (.t 2))] := by kernel_rfl
  exact ⟨_, _, Try.func66, h2, Try.ntmps66, h1, h3, by decide⟩

def c_spec_WordText : ICode := (.seq (.reg [⟨(some 1), (.box 2), [(.t 0)], none⟩, ⟨(some 2), .mv, [(.c (.str []))], none⟩]) (.seq (.seq (.reg [⟨(some 3), (.ldn 2), [(.t 1)], none⟩, ⟨(some 4), (.call 62), [(.t 3)], none⟩, ⟨(some 5), .not, [(.t 4)], none⟩]) (.cond (.t 5) (.seq (.reg [⟨(some 2), .mv, [(.c (.str []))], none⟩]) .ret) .skip)) (.seq (.drw [⟨(some 6), (.fadr 0), [(.t 1)], none⟩, ⟨(some 7), .ld1, [(.t 6)], none⟩, ⟨(some 8), (.call 63), [(.t 7)], none⟩, ⟨(some 9), (.bin .add), [(.t 8), (.c (.str [59]))], none⟩, ⟨(some 10), (.fadr 1), [(.t 1)], none⟩, ⟨(some 11), .ld1, [(.t 10)], none⟩, ⟨(some 12), (.call 63), [(.t 11)], none⟩, ⟨(some 13), (.bin .add), [(.t 9), (.t 12)], none⟩, ⟨(some 2), .mv, [(.t 13)], none⟩] [[], [0], [0, 1], [0, 1, 2], [], [4], [0, 1, 2, 4, 5], [0, 1, 2, 3, 4, 5, 6], [0, 1, 2, 3, 4, 5, 6, 7]] true true) .ret)))
theorem b_spec_WordText : Body Try.prog 14 14 c_spec_WordText [(.t 2)] := by
  have h1 : comp Try.prog 14 (Try.f14.body.getD .skip) = some c_spec_WordText := by kernel_rfl
  have h2 : Try.f14.body = some (Try.f14.body.getD .skip) := by kernel_rfl
  have h3 : Try.f14.results.toList.map (cRes Try.prog) = [(some (.t 2))] := by kernel_rfl
  exact ⟨_, _, Try.func14, h2, Try.ntmps14, h1, h3, by decide⟩

def c_impl_WordText : ICode := (.seq (.reg [⟨(some 1), (.box 2), [(.t 0)], none⟩, ⟨(some 2), .mv, [(.c (.str []))], none⟩]) (.seq (.seq (.reg [⟨(some 3), (.ldn 2), [(.t 1)], none⟩, ⟨(some 4), (.call 65), [(.t 3)], none⟩, ⟨(some 5), .not, [(.t 4)], none⟩]) (.cond (.t 5) (.seq (.reg [⟨(some 2), .mv, [(.c (.str []))], none⟩]) .ret) .skip)) (.seq (.drw [⟨(some 6), (.fadr 0), [(.t 1)], none⟩, ⟨(some 7), .ld1, [(.t 6)], none⟩, ⟨(some 8), (.call 66), [(.t 7)], none⟩, ⟨(some 9), (.bin .add), [(.t 8), (.c (.str [59]))], none⟩, ⟨(some 10), (.fadr 1), [(.t 1)], none⟩, ⟨(some 11), .ld1, [(.t 10)], none⟩, ⟨(some 12), (.call 66), [(.t 11)], none⟩, ⟨(some 13), (.bin .add), [(.t 9), (.t 12)], none⟩, ⟨(some 2), .mv, [(.t 13)], none⟩] [[], [0], [0, 1], [0, 1, 2], [], [4], [0, 1, 2, 4, 5], [0, 1, 2, 3, 4, 5, 6], [0, 1, 2, 3, 4, 5, 6, 7]] true true) .ret)))
theorem b_impl_WordText : Body Try.prog 16 14 c_impl_WordText [(.t 2)] := by
  have h1 : comp Try.prog 14 (Try.f16.body.getD .skip) = some c_impl_WordText := by kernel_rfl
  have h2 : Try.f16.body = some (Try.f16.body.getD .skip) := by kernel_rfl
  have h3 : Try.f16.results.toList.map (cRes Try.prog) = [(some (.t 2))] := by kernel_rfl
  exact ⟨_, _, Try.func16, h2, Try.ntmps16, h1, h3, by decide⟩


/-- the byte of a digit -/
def digitB (n : Int) : UInt8 := UInt8.ofNat (48 + n).toNat

theorem digitB_cell {n : Int} (h0 : 0 ≤ n) (h1 : n ≤ 100) : ((digitB n).toNat : Int) = 48 + n := by
  simp only [digitB, UInt8.toNat_ofNat']
  omega

def RDigit (xs : List AV) (r : AV) (objs : List AObj) : Prop := ∃ n, xs = [.int .i64 n] ∧ 0 ≤ n ∧ n ≤ 100 ∧ r = .str [digitB n] ∧ objs = []
theorem RDigit_mk {n : Int} (h0 : 0 ≤ n) (h1 : n ≤ 100) : RDigit [.int .i64 n] (.str [digitB n]) [] := ⟨n, rfl, h0, h1, rfl, rfl⟩

theorem s_spec_l2Digit : PureSound Try.prog 129 RDigit := by
  have hR : Rely Try.prog (ctxOf []) := rely_nil mixed
  refine pure_of_aw b_spec_l2Digit ?_
  rintro xs r objs ⟨n, rfl, h0, h1, rfl, rfl⟩ -
  refine ⟨by simp, vc_sound hR _ _ _ _ _ ?_⟩
  conv => whnf
  repeat' (first
    | contradiction
    | (refine And.intro (fun hb => ?_) (fun hb => ?_) <;> (try simp only [decide_eq_true_eq, decide_eq_false_iff_not, Bool.not_eq_true', Bool.not_eq_false', Bool.not_not, ne_eq, length_ints, List.length_map, beq_iff_eq, bne_iff_ne, beq_eq_false_iff_ne, bne_eq_false_iff_eq, Int.not_le, Int.not_lt, ge_iff_le, gt_iff_lt, reduceCtorEq, not_false_eq_true, not_true_eq_false, Bool.false_eq_true, Bool.true_eq_false] at hb) <;> (try (exfalso; first | contradiction | omega)) <;> conv => whnf)
    | (refine And.intro rfl ?_; conv => whnf)
    | (refine ⟨_, IntWalk.i64_in _ (by omega), ?_⟩; conv => whnf)
    | (refine And.intro (okcs_all rfl) ?_; conv => whnf)
    | (refine And.intro (frees_all rfl) ?_; conv => whnf)
    | (refine And.intro (bsl_all rfl) ?_; conv => whnf)
    | (refine And.intro (clen_all rfl) ?_; conv => whnf)
    | (refine And.intro (lens_all rfl) ?_; conv => whnf)
    | (refine And.intro (Nat.le_of_ble_eq_true rfl) ?_; conv => whnf)
    | (rw [ints_at (by omega)]; conv => whnf)
    | (rw [ints_at0 (by omega)]; conv => whnf)
    | (rw [ints_at' (by omega) (by omega)]; conv => whnf)
    | (refine And.intro (by first | omega | (simp only [length_ints]; omega)) ?_; conv => whnf)
    | fail)
  refine ⟨48 + n, IntWalk.u8_in _ (by omega), ?_⟩
  conv => whnf
  repeat' (first
    | contradiction
    | (refine And.intro (fun hb => ?_) (fun hb => ?_) <;> (try simp only [decide_eq_true_eq, decide_eq_false_iff_not, Bool.not_eq_true', Bool.not_eq_false', Bool.not_not, ne_eq, length_ints, List.length_map, beq_iff_eq, bne_iff_ne, beq_eq_false_iff_ne, bne_eq_false_iff_eq, Int.not_le, Int.not_lt, ge_iff_le, gt_iff_lt, reduceCtorEq, not_false_eq_true, not_true_eq_false, Bool.false_eq_true, Bool.true_eq_false] at hb) <;> (try (exfalso; first | contradiction | omega)) <;> conv => whnf)
    | (refine And.intro rfl ?_; conv => whnf)
    | (refine ⟨_, IntWalk.i64_in _ (by omega), ?_⟩; conv => whnf)
    | (refine And.intro (okcs_all rfl) ?_; conv => whnf)
    | (refine And.intro (frees_all rfl) ?_; conv => whnf)
    | (refine And.intro (bsl_all rfl) ?_; conv => whnf)
    | (refine And.intro (clen_all rfl) ?_; conv => whnf)
    | (refine And.intro (lens_all rfl) ?_; conv => whnf)
    | (refine And.intro (Nat.le_of_ble_eq_true rfl) ?_; conv => whnf)
    | (rw [ints_at (by omega)]; conv => whnf)
    | (rw [ints_at0 (by omega)]; conv => whnf)
    | (rw [ints_at' (by omega) (by omega)]; conv => whnf)
    | (refine And.intro (by first | omega | (simp only [length_ints]; omega)) ?_; conv => whnf)
    | fail)
  refine ⟨[digitB n], ?_, ?_⟩
  · conv => lhs; whnf
    simp only [List.map, byteRow, digitB_cell h0 h1]
    rfl
  · conv => whnf
    repeat' (first
      | contradiction
      | (refine And.intro (fun hb => ?_) (fun hb => ?_) <;> (try simp only [decide_eq_true_eq, decide_eq_false_iff_not, Bool.not_eq_true', Bool.not_eq_false', Bool.not_not, ne_eq, length_ints, List.length_map, beq_iff_eq, bne_iff_ne, beq_eq_false_iff_ne, bne_eq_false_iff_eq, Int.not_le, Int.not_lt, ge_iff_le, gt_iff_lt, reduceCtorEq, not_false_eq_true, not_true_eq_false, Bool.false_eq_true, Bool.true_eq_false] at hb) <;> (try (exfalso; first | contradiction | omega)) <;> conv => whnf)
      | (refine And.intro rfl ?_; conv => whnf)
      | (refine ⟨_, IntWalk.i64_in _ (by omega), ?_⟩; conv => whnf)
      | (refine And.intro (okcs_all rfl) ?_; conv => whnf)
      | (refine And.intro (frees_all rfl) ?_; conv => whnf)
      | (refine And.intro (bsl_all rfl) ?_; conv => whnf)
      | (refine And.intro (clen_all rfl) ?_; conv => whnf)
      | (refine And.intro (lens_all rfl) ?_; conv => whnf)
      | (refine And.intro (Nat.le_of_ble_eq_true rfl) ?_; conv => whnf)
      | (rw [ints_at (by omega)]; conv => whnf)
      | (rw [ints_at0 (by omega)]; conv => whnf)
      | (rw [ints_at' (by omega) (by omega)]; conv => whnf)
      | (refine And.intro (by first | omega | (simp only [length_ints]; omega)) ?_; conv => whnf)
      | fail)
    refine ⟨.inl rfl, ?_⟩
    conv => whnf
    refine ⟨[], ⟨rfl, trivial⟩, ?_, rfl, rfl⟩
    conv => whnf
    left
    conv => lhs; whnf

def digitsB (l : List Int) : List UInt8 := l.map digitB

def RDigits (xs : List AV) (r : AV) (objs : List AObj) : Prop := ∃ l, xs = [.val (ints l)] ∧ l.length ≤ 40 ∧ lettersB l 8 = true ∧ r = .str (digitsB l) ∧ objs = []
theorem RDigits_mk {l : List Int} (h : l.length ≤ 40) (h2 : lettersB l 8 = true) : RDigits [.val (ints l)] (.str (digitsB l)) [] := ⟨l, rfl, h, h2, rfl, rfl⟩

theorem lettersB_get {l : List Int} {n : Int} (h : lettersB l n = true) {i : Nat} (hi : i < l.length) : 0 ≤ l.getD i 0 ∧ l.getD i 0 ≤ n - 1 := by
  simp only [lettersB, List.all_eq_true, decide_eq_true_eq] at h
  have := h _ (List.getElem_mem hi)
  simpa [List.getD_eq_getElem?_getD, List.getElem?_eq_getElem hi] using this

theorem take_succ_getD {l : List Int} {i : Nat} (hi : i < l.length) : l.take (i + 1) = l.take i ++ [l.getD i 0] := by
  rw [List.take_add_one, List.getElem?_eq_getElem hi, List.getD_eq_getElem?_getD, List.getElem?_eq_getElem hi]
  rfl

theorem s_spec_l17Digits : PureSound Try.prog 63 RDigits := by
  have hR : Rely Try.prog (ctxOf [(129, .pure RDigit)]) := rely_cons b_spec_l2Digit.has s_spec_l2Digit (rely_nil mixed)
  refine pure_of_aw b_spec_l17Digits ?_
  rintro xs r objs ⟨l, rfl, hl, hd, rfl, rfl⟩ -
  refine ⟨by simp, vc_sound hR _ _ _ _ _ ?_⟩
  conv => whnf
  refine Lp.intro (α := Nat) (fun i => i ≤ l.length) (fun i => l.length - i) (fun i => [(0, .val (ints l)), (3, .str (digitsB (l.take i))), (4, .int .i64 i)]) (fun _ => []) ?_ ?_
  · refine ⟨0, by omega, [], rfl, rfl, trivial, ?_⟩
    repeat' (first
      | exact trivial
      | refine ⟨?_, ?_⟩
      | fail)
    all_goals first
      | with_reducible rfl
      | (conv => whnf
         try left
         conv => lhs; whnf
         first
           | rfl
           | exact congrArg (AV.int .i64) (by omega)
           | skip)
  · intro i hi
    refine vc_sound hR _ _ _ _ _ ?_
    by_cases hlt : i < l.length
    · have hg := lettersB_get hd hlt
      conv => whnf
      repeat' (first
        | contradiction
        | (refine And.intro (fun hb => ?_) (fun hb => ?_) <;> (try simp only [decide_eq_true_eq, decide_eq_false_iff_not, Bool.not_eq_true', Bool.not_eq_false', Bool.not_not, ne_eq, length_ints, List.length_map, beq_iff_eq, bne_iff_ne, beq_eq_false_iff_ne, bne_eq_false_iff_eq, Int.not_le, Int.not_lt, ge_iff_le, gt_iff_lt, reduceCtorEq, not_false_eq_true, not_true_eq_false, Bool.false_eq_true, Bool.true_eq_false] at hb) <;> (try (exfalso; first | contradiction | omega)) <;> conv => whnf)
        | (refine And.intro rfl ?_; conv => whnf)
        | (refine ⟨_, IntWalk.i64_in _ (by omega), ?_⟩; conv => whnf)
        | (refine And.intro (okcs_all rfl) ?_; conv => whnf)
        | (refine And.intro (frees_all rfl) ?_; conv => whnf)
        | (refine And.intro (bsl_all rfl) ?_; conv => whnf)
        | (refine And.intro (clen_all rfl) ?_; conv => whnf)
        | (refine And.intro (lens_all rfl) ?_; conv => whnf)
        | (refine And.intro (Nat.le_of_ble_eq_true rfl) ?_; conv => whnf)
        | (rw [ints_at (by omega)]; conv => whnf)
        | (rw [ints_at0 (by omega)]; conv => whnf)
        | (rw [ints_at' (by omega) (by omega)]; conv => whnf)
        | (refine And.intro (by first | omega | (simp only [length_ints]; omega)) ?_; conv => whnf)
        | (refine ⟨_, _, RDigit_mk (by omega) (by omega), ?_⟩; conv => whnf)
        | fail)
      · refine And.intro (by simp [digitsB]; omega) ?_
        conv => whnf
        repeat' (first
          | contradiction
          | (refine And.intro (fun hb => ?_) (fun hb => ?_) <;> (try simp only [decide_eq_true_eq, decide_eq_false_iff_not, Bool.not_eq_true', Bool.not_eq_false', Bool.not_not, ne_eq, length_ints, List.length_map, beq_iff_eq, bne_iff_ne, beq_eq_false_iff_ne, bne_eq_false_iff_eq, Int.not_le, Int.not_lt, ge_iff_le, gt_iff_lt, reduceCtorEq, not_false_eq_true, not_true_eq_false, Bool.false_eq_true, Bool.true_eq_false] at hb) <;> (try (exfalso; first | contradiction | omega)) <;> conv => whnf)
          | (refine And.intro rfl ?_; conv => whnf)
          | (refine ⟨_, IntWalk.i64_in _ (by omega), ?_⟩; conv => whnf)
          | (refine And.intro (okcs_all rfl) ?_; conv => whnf)
          | (refine And.intro (frees_all rfl) ?_; conv => whnf)
          | (refine And.intro (bsl_all rfl) ?_; conv => whnf)
          | (refine And.intro (clen_all rfl) ?_; conv => whnf)
          | (refine And.intro (lens_all rfl) ?_; conv => whnf)
          | (refine And.intro (Nat.le_of_ble_eq_true rfl) ?_; conv => whnf)
          | (rw [ints_at (by omega)]; conv => whnf)
          | (rw [ints_at0 (by omega)]; conv => whnf)
          | (rw [ints_at' (by omega) (by omega)]; conv => whnf)
          | (refine And.intro (by first | omega | (simp only [length_ints]; omega)) ?_; conv => whnf)
          | fail)
        refine ⟨i + 1, by omega, by omega, [], rfl, rfl, trivial, ?_⟩
        repeat' (first
          | exact trivial
          | refine ⟨?_, ?_⟩
          | fail)
        all_goals first
          | with_reducible rfl
          | (conv => whnf
             try left
             conv => lhs; whnf
             first
               | rfl
               | exact congrArg (AV.int .i64) (by omega)
               | skip)
        exact congrArg AV.str (by rw [take_succ_getD hlt]; simp [digitsB])
    · conv => whnf
      repeat' (first
        | contradiction
        | (refine And.intro (fun hb => ?_) (fun hb => ?_) <;> (try simp only [decide_eq_true_eq, decide_eq_false_iff_not, Bool.not_eq_true', Bool.not_eq_false', Bool.not_not, ne_eq, length_ints, List.length_map, beq_iff_eq, bne_iff_ne, beq_eq_false_iff_ne, bne_eq_false_iff_eq, Int.not_le, Int.not_lt, ge_iff_le, gt_iff_lt, reduceCtorEq, not_false_eq_true, not_true_eq_false, Bool.false_eq_true, Bool.true_eq_false] at hb) <;> (try (exfalso; first | contradiction | omega)) <;> conv => whnf)
        | (refine And.intro rfl ?_; conv => whnf)
        | (refine ⟨_, IntWalk.i64_in _ (by omega), ?_⟩; conv => whnf)
        | (refine And.intro (okcs_all rfl) ?_; conv => whnf)
        | (refine And.intro (frees_all rfl) ?_; conv => whnf)
        | (refine And.intro (bsl_all rfl) ?_; conv => whnf)
        | (refine And.intro (clen_all rfl) ?_; conv => whnf)
        | (refine And.intro (lens_all rfl) ?_; conv => whnf)
        | (refine And.intro (Nat.le_of_ble_eq_true rfl) ?_; conv => whnf)
        | (rw [ints_at (by omega)]; conv => whnf)
        | (rw [ints_at0 (by omega)]; conv => whnf)
        | (rw [ints_at' (by omega) (by omega)]; conv => whnf)
        | (refine And.intro (by first | omega | (simp only [length_ints]; omega)) ?_; conv => whnf)
        | fail)
      refine ⟨.inl rfl, ?_⟩
      conv => whnf
      refine ⟨[], ⟨rfl, trivial⟩, ?_, rfl, rfl⟩
      conv => whnf
      left
      conv => lhs; whnf
      exact congrArg AV.str (by rw [List.take_of_length_le (by omega)])

def bytes (bs : List UInt8) : List (List AV) := bs.map byteRow

theorem s_impl_digitsOf : PureSound Try.prog 66 RDigits := by
  have hR : Rely Try.prog (ctxOf []) := rely_nil mixed
  refine pure_of_aw b_impl_digitsOf ?_
  rintro xs r objs ⟨l, rfl, hl, hd, rfl, rfl⟩ -
  refine ⟨by simp, vc_sound hR _ _ _ _ _ ?_⟩
  conv => whnf
  refine Lp.intro (α := Nat) (fun i => i ≤ l.length) (fun i => l.length - i) (fun i => [(3, .ref 0 0 i), (6, .val (ints l)), (7, .int .i64 (ints l).length), (8, .int .i64 i)]) (fun i => [some (.arr 1 (bytes (digitsB (l.take i))))]) ?_ ?_
  · refine ⟨0, by omega, [none], rfl, rfl, ⟨rfl, trivial⟩, ?_⟩
    refine ⟨⟨rfl, rfl, rfl⟩, ?_⟩
    repeat' (first
      | exact trivial
      | refine ⟨?_, ?_⟩
      | fail)
    all_goals first
      | with_reducible rfl
      | (conv => whnf
         try left
         conv => lhs; whnf
         first
           | rfl
           | exact congrArg (AV.int .i64) (by omega)
           | skip)
  · intro i hi
    refine vc_sound hR _ _ _ _ _ ?_
    by_cases hlt : i < l.length
    · have hg := lettersB_get hd hlt
      conv => whnf
      repeat' (first
        | contradiction
        | (refine And.intro (fun hb => ?_) (fun hb => ?_) <;> (try simp only [decide_eq_true_eq, decide_eq_false_iff_not, Bool.not_eq_true', Bool.not_eq_false', Bool.not_not, ne_eq, length_ints, List.length_map, beq_iff_eq, bne_iff_ne, beq_eq_false_iff_ne, bne_eq_false_iff_eq, Int.not_le, Int.not_lt, ge_iff_le, gt_iff_lt, reduceCtorEq, not_false_eq_true, not_true_eq_false, Bool.false_eq_true, Bool.true_eq_false] at hb) <;> (try (exfalso; first | contradiction | omega)) <;> conv => whnf)
        | (refine And.intro rfl ?_; conv => whnf)
        | (refine ⟨_, IntWalk.i64_in _ (by omega), ?_⟩; conv => whnf)
        | (refine And.intro (okcs_all rfl) ?_; conv => whnf)
        | (refine And.intro (frees_all rfl) ?_; conv => whnf)
        | (refine And.intro (bsl_all rfl) ?_; conv => whnf)
        | (refine And.intro (clen_all rfl) ?_; conv => whnf)
        | (refine And.intro (lens_all rfl) ?_; conv => whnf)
        | (refine And.intro (Nat.le_of_ble_eq_true rfl) ?_; conv => whnf)
        | (rw [ints_at (by omega)]; conv => whnf)
        | (rw [ints_at0 (by omega)]; conv => whnf)
        | (rw [ints_at' (by omega) (by omega)]; conv => whnf)
        | (refine And.intro (by first | omega | (simp only [length_ints]; omega)) ?_; conv => whnf)
        | fail)
      · refine ⟨48 + l.getD i 0, IntWalk.u8_in _ (by omega), ?_⟩
        conv => whnf
        repeat' (first
          | contradiction
          | (refine And.intro (fun hb => ?_) (fun hb => ?_) <;> (try simp only [decide_eq_true_eq, decide_eq_false_iff_not, Bool.not_eq_true', Bool.not_eq_false', Bool.not_not, ne_eq, length_ints, List.length_map, beq_iff_eq, bne_iff_ne, beq_eq_false_iff_ne, bne_eq_false_iff_eq, Int.not_le, Int.not_lt, ge_iff_le, gt_iff_lt, reduceCtorEq, not_false_eq_true, not_true_eq_false, Bool.false_eq_true, Bool.true_eq_false] at hb) <;> (try (exfalso; first | contradiction | omega)) <;> conv => whnf)
          | (refine And.intro rfl ?_; conv => whnf)
          | (refine ⟨_, IntWalk.i64_in _ (by omega), ?_⟩; conv => whnf)
          | (refine And.intro (okcs_all rfl) ?_; conv => whnf)
          | (refine And.intro (frees_all rfl) ?_; conv => whnf)
          | (refine And.intro (bsl_all rfl) ?_; conv => whnf)
          | (refine And.intro (clen_all rfl) ?_; conv => whnf)
          | (refine And.intro (lens_all rfl) ?_; conv => whnf)
          | (refine And.intro (Nat.le_of_ble_eq_true rfl) ?_; conv => whnf)
          | (rw [ints_at (by omega)]; conv => whnf)
          | (rw [ints_at0 (by omega)]; conv => whnf)
          | (rw [ints_at' (by omega) (by omega)]; conv => whnf)
          | (refine And.intro (by first | omega | (simp only [length_ints]; omega)) ?_; conv => whnf)
          | fail)
        refine And.intro (by simp [bytes, digitsB]; omega) (And.intro (lens_all rfl) (And.intro (show (i + 1) * 1 ≤ _ by omega) (And.intro (show i + 1 ≤ _ by omega) ?_)))
        conv => whnf
        repeat' (first
          | contradiction
          | (refine And.intro (fun hb => ?_) (fun hb => ?_) <;> (try simp only [decide_eq_true_eq, decide_eq_false_iff_not, Bool.not_eq_true', Bool.not_eq_false', Bool.not_not, ne_eq, length_ints, List.length_map, beq_iff_eq, bne_iff_ne, beq_eq_false_iff_ne, bne_eq_false_iff_eq, Int.not_le, Int.not_lt, ge_iff_le, gt_iff_lt, reduceCtorEq, not_false_eq_true, not_true_eq_false, Bool.false_eq_true, Bool.true_eq_false] at hb) <;> (try (exfalso; first | contradiction | omega)) <;> conv => whnf)
          | (refine And.intro rfl ?_; conv => whnf)
          | (refine ⟨_, IntWalk.i64_in _ (by omega), ?_⟩; conv => whnf)
          | (refine And.intro (okcs_all rfl) ?_; conv => whnf)
          | (refine And.intro (frees_all rfl) ?_; conv => whnf)
          | (refine And.intro (bsl_all rfl) ?_; conv => whnf)
          | (refine And.intro (clen_all rfl) ?_; conv => whnf)
          | (refine And.intro (lens_all rfl) ?_; conv => whnf)
          | (refine And.intro (Nat.le_of_ble_eq_true rfl) ?_; conv => whnf)
          | (rw [ints_at (by omega)]; conv => whnf)
          | (rw [ints_at0 (by omega)]; conv => whnf)
          | (rw [ints_at' (by omega) (by omega)]; conv => whnf)
          | (refine And.intro (by first | omega | (simp only [length_ints]; omega)) ?_; conv => whnf)
          | fail)
        refine ⟨i + 1, by omega, by omega, [some 1], rfl, rfl, And.intro (And.intro rfl ?_) trivial, ?_⟩
        · show List.take i (bytes (digitsB (l.take i))) ++ [[.int .u8 (48 + l.getD i 0)]] = _
          rw [take_succ_getD hlt, List.take_of_length_le (by simp [bytes, digitsB]; omega)]
          simp only [bytes, digitsB, List.map_append, List.map_cons, List.map_nil, byteRow]
          rw [digitB_cell (by omega) (by omega)]
        · repeat' (first
            | exact trivial
            | refine ⟨?_, ?_⟩
            | fail)
          all_goals first
            | with_reducible rfl
            | (conv => whnf
               try left
               conv => lhs; whnf
               first
                 | rfl
                 | exact congrArg (AV.int .i64) (by omega)
                 | skip)
    · conv => whnf
      repeat' (first
        | contradiction
        | (refine And.intro (fun hb => ?_) (fun hb => ?_) <;> (try simp only [decide_eq_true_eq, decide_eq_false_iff_not, Bool.not_eq_true', Bool.not_eq_false', Bool.not_not, ne_eq, length_ints, List.length_map, beq_iff_eq, bne_iff_ne, beq_eq_false_iff_ne, bne_eq_false_iff_eq, Int.not_le, Int.not_lt, ge_iff_le, gt_iff_lt, reduceCtorEq, not_false_eq_true, not_true_eq_false, Bool.false_eq_true, Bool.true_eq_false] at hb) <;> (try (exfalso; first | contradiction | omega)) <;> conv => whnf)
        | (refine And.intro rfl ?_; conv => whnf)
        | (refine ⟨_, IntWalk.i64_in _ (by omega), ?_⟩; conv => whnf)
        | (refine And.intro (okcs_all rfl) ?_; conv => whnf)
        | (refine And.intro (frees_all rfl) ?_; conv => whnf)
        | (refine And.intro (bsl_all rfl) ?_; conv => whnf)
        | (refine And.intro (clen_all rfl) ?_; conv => whnf)
        | (refine And.intro (lens_all rfl) ?_; conv => whnf)
        | (refine And.intro (Nat.le_of_ble_eq_true rfl) ?_; conv => whnf)
        | (rw [ints_at (by omega)]; conv => whnf)
        | (rw [ints_at0 (by omega)]; conv => whnf)
        | (rw [ints_at' (by omega) (by omega)]; conv => whnf)
        | (refine And.intro (by first | omega | (simp only [length_ints]; omega)) ?_; conv => whnf)
        | fail)
      refine ⟨digitsB l, ?_, ?_⟩
      · refine rowsOf_all (z := 1) ?_ ?_
        · show some (AObj.arr 1 (bytes (digitsB (l.take i)))) = _
          rw [List.take_of_length_le (by omega)]
          rfl
        · simp [digitsB]; omega
      · conv => whnf
        repeat' (first
          | contradiction
          | (refine And.intro (fun hb => ?_) (fun hb => ?_) <;> (try simp only [decide_eq_true_eq, decide_eq_false_iff_not, Bool.not_eq_true', Bool.not_eq_false', Bool.not_not, ne_eq, length_ints, List.length_map, beq_iff_eq, bne_iff_ne, beq_eq_false_iff_ne, bne_eq_false_iff_eq, Int.not_le, Int.not_lt, ge_iff_le, gt_iff_lt, reduceCtorEq, not_false_eq_true, not_true_eq_false, Bool.false_eq_true, Bool.true_eq_false] at hb) <;> (try (exfalso; first | contradiction | omega)) <;> conv => whnf)
          | (refine And.intro rfl ?_; conv => whnf)
          | (refine ⟨_, IntWalk.i64_in _ (by omega), ?_⟩; conv => whnf)
          | (refine And.intro (okcs_all rfl) ?_; conv => whnf)
          | (refine And.intro (frees_all rfl) ?_; conv => whnf)
          | (refine And.intro (bsl_all rfl) ?_; conv => whnf)
          | (refine And.intro (clen_all rfl) ?_; conv => whnf)
          | (refine And.intro (lens_all rfl) ?_; conv => whnf)
          | (refine And.intro (Nat.le_of_ble_eq_true rfl) ?_; conv => whnf)
          | (rw [ints_at (by omega)]; conv => whnf)
          | (rw [ints_at0 (by omega)]; conv => whnf)
          | (rw [ints_at' (by omega) (by omega)]; conv => whnf)
          | (refine And.intro (by first | omega | (simp only [length_ints]; omega)) ?_; conv => whnf)
          | fail)
        refine ⟨.inl rfl, ?_⟩
        conv => whnf
        refine ⟨[], ⟨rfl, trivial⟩, ?_, rfl, rfl⟩
        conv => whnf
        left
        conv => lhs; whnf

def wordText (s l : List Int) : List UInt8 := if wordOk s l 8 then digitsB s ++ 59 :: digitsB l else []
def RWordText (xs : List AV) (r : AV) (objs : List AObj) : Prop := ∃ s l, xs = [word s l] ∧ r = .str (wordText s l) ∧ objs = []
theorem RWordText_mk {s l : List Int} : RWordText [word s l] (.str (wordText s l)) [] := ⟨s, l, rfl, rfl, rfl⟩

theorem wordOk_parts {s l : List Int} {n : Int} (h : wordOk s l n = true) : s.length ≤ 40 ∧ 1 ≤ l.length ∧ l.length ≤ 40 ∧ lettersB s n = true ∧ lettersB l n = true := by
  simp [wordOk] at h
  exact ⟨h.1.1.1.2, h.1.1.2.1, h.1.1.2.2, h.1.2, h.2⟩

theorem s_spec_WordText : PureSound Try.prog 14 RWordText := by
  have hR : Rely Try.prog (ctxOf [(62, .pure RRight), (63, .pure RDigits)]) :=
    rely_cons b_spec_l3Right.has s_spec_l3Right (rely_cons b_spec_l17Digits.has s_spec_l17Digits (rely_nil mixed))
  refine pure_of_aw b_spec_WordText ?_
  rintro xs r objs ⟨s, l, rfl, rfl, rfl⟩ -
  refine ⟨by simp, vc_sound hR _ _ _ _ _ ?_⟩
  conv => whnf
  repeat' (first
    | contradiction
    | (refine And.intro (fun hb => ?_) (fun hb => ?_) <;> (try simp only [decide_eq_true_eq, decide_eq_false_iff_not, Bool.not_eq_true', Bool.not_eq_false', Bool.not_not, ne_eq, length_ints, List.length_map, beq_iff_eq, bne_iff_ne, beq_eq_false_iff_ne, bne_eq_false_iff_eq, Int.not_le, Int.not_lt, ge_iff_le, gt_iff_lt, reduceCtorEq, not_false_eq_true, not_true_eq_false, Bool.false_eq_true, Bool.true_eq_false] at hb) <;> (try (exfalso; first | contradiction | omega)) <;> conv => whnf)
    | (refine And.intro rfl ?_; conv => whnf)
    | (refine ⟨_, IntWalk.i64_in _ (by omega), ?_⟩; conv => whnf)
    | (refine And.intro (okcs_all rfl) ?_; conv => whnf)
    | (refine And.intro (frees_all rfl) ?_; conv => whnf)
    | (refine And.intro (bsl_all rfl) ?_; conv => whnf)
    | (refine And.intro (clen_all rfl) ?_; conv => whnf)
    | (refine And.intro (lens_all rfl) ?_; conv => whnf)
    | (refine And.intro (Nat.le_of_ble_eq_true rfl) ?_; conv => whnf)
    | (rw [ints_at (by omega)]; conv => whnf)
    | (rw [ints_at0 (by omega)]; conv => whnf)
    | (rw [ints_at' (by omega) (by omega)]; conv => whnf)
    | (refine And.intro (by first | omega | (simp only [length_ints]; omega)) ?_; conv => whnf)
    | (refine ⟨_, _, RRight_mk, ?_⟩; conv => whnf)
    | fail)
  · refine ⟨.inl rfl, ?_⟩
    conv => whnf
    refine ⟨[], ⟨rfl, trivial⟩, ?_, rfl, rfl⟩
    conv => whnf
    left
    conv => lhs; whnf
    exact congrArg AV.str (by simp [wordText, hb])
  · obtain ⟨h1, h2, h3, h4, h5⟩ := wordOk_parts hb
    conv => whnf
    repeat' (first
      | contradiction
      | (refine And.intro (fun hb => ?_) (fun hb => ?_) <;> (try simp only [decide_eq_true_eq, decide_eq_false_iff_not, Bool.not_eq_true', Bool.not_eq_false', Bool.not_not, ne_eq, length_ints, List.length_map, beq_iff_eq, bne_iff_ne, beq_eq_false_iff_ne, bne_eq_false_iff_eq, Int.not_le, Int.not_lt, ge_iff_le, gt_iff_lt, reduceCtorEq, not_false_eq_true, not_true_eq_false, Bool.false_eq_true, Bool.true_eq_false] at hb) <;> (try (exfalso; first | contradiction | omega)) <;> conv => whnf)
      | (refine And.intro rfl ?_; conv => whnf)
      | (refine ⟨_, IntWalk.i64_in _ (by omega), ?_⟩; conv => whnf)
      | (refine And.intro (okcs_all rfl) ?_; conv => whnf)
      | (refine And.intro (frees_all rfl) ?_; conv => whnf)
      | (refine And.intro (bsl_all rfl) ?_; conv => whnf)
      | (refine And.intro (clen_all rfl) ?_; conv => whnf)
      | (refine And.intro (lens_all rfl) ?_; conv => whnf)
      | (refine And.intro (Nat.le_of_ble_eq_true rfl) ?_; conv => whnf)
      | (rw [ints_at (by omega)]; conv => whnf)
      | (rw [ints_at0 (by omega)]; conv => whnf)
      | (rw [ints_at' (by omega) (by omega)]; conv => whnf)
      | (refine And.intro (by first | omega | (simp only [length_ints]; omega)) ?_; conv => whnf)
      | (refine ⟨_, _, RDigits_mk h1 h4, ?_⟩; conv => whnf)
      | fail)
    refine And.intro (by simp [digitsB]; omega) ?_
    conv => whnf
    repeat' (first
      | contradiction
      | (refine And.intro (fun hb => ?_) (fun hb => ?_) <;> (try simp only [decide_eq_true_eq, decide_eq_false_iff_not, Bool.not_eq_true', Bool.not_eq_false', Bool.not_not, ne_eq, length_ints, List.length_map, beq_iff_eq, bne_iff_ne, beq_eq_false_iff_ne, bne_eq_false_iff_eq, Int.not_le, Int.not_lt, ge_iff_le, gt_iff_lt, reduceCtorEq, not_false_eq_true, not_true_eq_false, Bool.false_eq_true, Bool.true_eq_false] at hb) <;> (try (exfalso; first | contradiction | omega)) <;> conv => whnf)
      | (refine And.intro rfl ?_; conv => whnf)
      | (refine ⟨_, IntWalk.i64_in _ (by omega), ?_⟩; conv => whnf)
      | (refine And.intro (okcs_all rfl) ?_; conv => whnf)
      | (refine And.intro (frees_all rfl) ?_; conv => whnf)
      | (refine And.intro (bsl_all rfl) ?_; conv => whnf)
      | (refine And.intro (clen_all rfl) ?_; conv => whnf)
      | (refine And.intro (lens_all rfl) ?_; conv => whnf)
      | (refine And.intro (Nat.le_of_ble_eq_true rfl) ?_; conv => whnf)
      | (rw [ints_at (by omega)]; conv => whnf)
      | (rw [ints_at0 (by omega)]; conv => whnf)
      | (rw [ints_at' (by omega) (by omega)]; conv => whnf)
      | (refine And.intro (by first | omega | (simp only [length_ints]; omega)) ?_; conv => whnf)
      | (refine ⟨_, _, RDigits_mk h3 h5, ?_⟩; conv => whnf)
      | fail)
    refine And.intro (by simp [digitsB]; omega) ?_
    conv => whnf
    repeat' (first
      | contradiction
      | (refine And.intro (fun hb => ?_) (fun hb => ?_) <;> (try simp only [decide_eq_true_eq, decide_eq_false_iff_not, Bool.not_eq_true', Bool.not_eq_false', Bool.not_not, ne_eq, length_ints, List.length_map, beq_iff_eq, bne_iff_ne, beq_eq_false_iff_ne, bne_eq_false_iff_eq, Int.not_le, Int.not_lt, ge_iff_le, gt_iff_lt, reduceCtorEq, not_false_eq_true, not_true_eq_false, Bool.false_eq_true, Bool.true_eq_false] at hb) <;> (try (exfalso; first | contradiction | omega)) <;> conv => whnf)
      | (refine And.intro rfl ?_; conv => whnf)
      | (refine ⟨_, IntWalk.i64_in _ (by omega), ?_⟩; conv => whnf)
      | (refine And.intro (okcs_all rfl) ?_; conv => whnf)
      | (refine And.intro (frees_all rfl) ?_; conv => whnf)
      | (refine And.intro (bsl_all rfl) ?_; conv => whnf)
      | (refine And.intro (clen_all rfl) ?_; conv => whnf)
      | (refine And.intro (lens_all rfl) ?_; conv => whnf)
      | (refine And.intro (Nat.le_of_ble_eq_true rfl) ?_; conv => whnf)
      | (rw [ints_at (by omega)]; conv => whnf)
      | (rw [ints_at0 (by omega)]; conv => whnf)
      | (rw [ints_at' (by omega) (by omega)]; conv => whnf)
      | (refine And.intro (by first | omega | (simp only [length_ints]; omega)) ?_; conv => whnf)
      | fail)
    refine ⟨.inl rfl, ?_⟩
    conv => whnf
    refine ⟨[], ⟨rfl, trivial⟩, ?_, rfl, rfl⟩
    conv => whnf
    left
    conv => lhs; whnf
    exact congrArg AV.str (by simp [wordText, hb])

theorem s_impl_WordText : PureSound Try.prog 16 RWordText := by
  have hR : Rely Try.prog (ctxOf [(65, .pure RRight), (66, .pure RDigits)]) :=
    rely_cons b_impl_isRight.has s_impl_isRight (rely_cons b_impl_digitsOf.has s_impl_digitsOf (rely_nil mixed))
  refine pure_of_aw b_impl_WordText ?_
  rintro xs r objs ⟨s, l, rfl, rfl, rfl⟩ -
  refine ⟨by simp, vc_sound hR _ _ _ _ _ ?_⟩
  conv => whnf
  repeat' (first
    | contradiction
    | (refine And.intro (fun hb => ?_) (fun hb => ?_) <;> (try simp only [decide_eq_true_eq, decide_eq_false_iff_not, Bool.not_eq_true', Bool.not_eq_false', Bool.not_not, ne_eq, length_ints, List.length_map, beq_iff_eq, bne_iff_ne, beq_eq_false_iff_ne, bne_eq_false_iff_eq, Int.not_le, Int.not_lt, ge_iff_le, gt_iff_lt, reduceCtorEq, not_false_eq_true, not_true_eq_false, Bool.false_eq_true, Bool.true_eq_false] at hb) <;> (try (exfalso; first | contradiction | omega)) <;> conv => whnf)
    | (refine And.intro rfl ?_; conv => whnf)
    | (refine ⟨_, IntWalk.i64_in _ (by omega), ?_⟩; conv => whnf)
    | (refine And.intro (okcs_all rfl) ?_; conv => whnf)
    | (refine And.intro (frees_all rfl) ?_; conv => whnf)
    | (refine And.intro (bsl_all rfl) ?_; conv => whnf)
    | (refine And.intro (clen_all rfl) ?_; conv => whnf)
    | (refine And.intro (lens_all rfl) ?_; conv => whnf)
    | (refine And.intro (Nat.le_of_ble_eq_true rfl) ?_; conv => whnf)
    | (rw [ints_at (by omega)]; conv => whnf)
    | (rw [ints_at0 (by omega)]; conv => whnf)
    | (rw [ints_at' (by omega) (by omega)]; conv => whnf)
    | (refine And.intro (by first | omega | (simp only [length_ints]; omega)) ?_; conv => whnf)
    | (refine ⟨_, _, RRight_mk, ?_⟩; conv => whnf)
    | fail)
  · refine ⟨.inl rfl, ?_⟩
    conv => whnf
    refine ⟨[], ⟨rfl, trivial⟩, ?_, rfl, rfl⟩
    conv => whnf
    left
    conv => lhs; whnf
    exact congrArg AV.str (by simp [wordText, hb])
  · obtain ⟨h1, h2, h3, h4, h5⟩ := wordOk_parts hb
    conv => whnf
    repeat' (first
      | contradiction
      | (refine And.intro (fun hb => ?_) (fun hb => ?_) <;> (try simp only [decide_eq_true_eq, decide_eq_false_iff_not, Bool.not_eq_true', Bool.not_eq_false', Bool.not_not, ne_eq, length_ints, List.length_map, beq_iff_eq, bne_iff_ne, beq_eq_false_iff_ne, bne_eq_false_iff_eq, Int.not_le, Int.not_lt, ge_iff_le, gt_iff_lt, reduceCtorEq, not_false_eq_true, not_true_eq_false, Bool.false_eq_true, Bool.true_eq_false] at hb) <;> (try (exfalso; first | contradiction | omega)) <;> conv => whnf)
      | (refine And.intro rfl ?_; conv => whnf)
      | (refine ⟨_, IntWalk.i64_in _ (by omega), ?_⟩; conv => whnf)
      | (refine And.intro (okcs_all rfl) ?_; conv => whnf)
      | (refine And.intro (frees_all rfl) ?_; conv => whnf)
      | (refine And.intro (bsl_all rfl) ?_; conv => whnf)
      | (refine And.intro (clen_all rfl) ?_; conv => whnf)
      | (refine And.intro (lens_all rfl) ?_; conv => whnf)
      | (refine And.intro (Nat.le_of_ble_eq_true rfl) ?_; conv => whnf)
      | (rw [ints_at (by omega)]; conv => whnf)
      | (rw [ints_at0 (by omega)]; conv => whnf)
      | (rw [ints_at' (by omega) (by omega)]; conv => whnf)
      | (refine And.intro (by first | omega | (simp only [length_ints]; omega)) ?_; conv => whnf)
      | (refine ⟨_, _, RDigits_mk h1 h4, ?_⟩; conv => whnf)
      | fail)
    refine And.intro (by simp [digitsB]; omega) ?_
    conv => whnf
    repeat' (first
      | contradiction
      | (refine And.intro (fun hb => ?_) (fun hb => ?_) <;> (try simp only [decide_eq_true_eq, decide_eq_false_iff_not, Bool.not_eq_true', Bool.not_eq_false', Bool.not_not, ne_eq, length_ints, List.length_map, beq_iff_eq, bne_iff_ne, beq_eq_false_iff_ne, bne_eq_false_iff_eq, Int.not_le, Int.not_lt, ge_iff_le, gt_iff_lt, reduceCtorEq, not_false_eq_true, not_true_eq_false, Bool.false_eq_true, Bool.true_eq_false] at hb) <;> (try (exfalso; first | contradiction | omega)) <;> conv => whnf)
      | (refine And.intro rfl ?_; conv => whnf)
      | (refine ⟨_, IntWalk.i64_in _ (by omega), ?_⟩; conv => whnf)
      | (refine And.intro (okcs_all rfl) ?_; conv => whnf)
      | (refine And.intro (frees_all rfl) ?_; conv => whnf)
      | (refine And.intro (bsl_all rfl) ?_; conv => whnf)
      | (refine And.intro (clen_all rfl) ?_; conv => whnf)
      | (refine And.intro (lens_all rfl) ?_; conv => whnf)
      | (refine And.intro (Nat.le_of_ble_eq_true rfl) ?_; conv => whnf)
      | (rw [ints_at (by omega)]; conv => whnf)
      | (rw [ints_at0 (by omega)]; conv => whnf)
      | (rw [ints_at' (by omega) (by omega)]; conv => whnf)
      | (refine And.intro (by first | omega | (simp only [length_ints]; omega)) ?_; conv => whnf)
      | (refine ⟨_, _, RDigits_mk h3 h5, ?_⟩; conv => whnf)
      | fail)
    refine And.intro (by simp [digitsB]; omega) ?_
    conv => whnf
    repeat' (first
      | contradiction
      | (refine And.intro (fun hb => ?_) (fun hb => ?_) <;> (try simp only [decide_eq_true_eq, decide_eq_false_iff_not, Bool.not_eq_true', Bool.not_eq_false', Bool.not_not, ne_eq, length_ints, List.length_map, beq_iff_eq, bne_iff_ne, beq_eq_false_iff_ne, bne_eq_false_iff_eq, Int.not_le, Int.not_lt, ge_iff_le, gt_iff_lt, reduceCtorEq, not_false_eq_true, not_true_eq_false, Bool.false_eq_true, Bool.true_eq_false] at hb) <;> (try (exfalso; first | contradiction | omega)) <;> conv => whnf)
      | (refine And.intro rfl ?_; conv => whnf)
      | (refine ⟨_, IntWalk.i64_in _ (by omega), ?_⟩; conv => whnf)
      | (refine And.intro (okcs_all rfl) ?_; conv => whnf)
      | (refine And.intro (frees_all rfl) ?_; conv => whnf)
      | (refine And.intro (bsl_all rfl) ?_; conv => whnf)
      | (refine And.intro (clen_all rfl) ?_; conv => whnf)
      | (refine And.intro (lens_all rfl) ?_; conv => whnf)
      | (refine And.intro (Nat.le_of_ble_eq_true rfl) ?_; conv => whnf)
      | (rw [ints_at (by omega)]; conv => whnf)
      | (rw [ints_at0 (by omega)]; conv => whnf)
      | (rw [ints_at' (by omega) (by omega)]; conv => whnf)
      | (refine And.intro (by first | omega | (simp only [length_ints]; omega)) ?_; conv => whnf)
      | fail)
    refine ⟨.inl rfl, ?_⟩
    conv => whnf
    refine ⟨[], ⟨rfl, trivial⟩, ?_, rfl, rfl⟩
    conv => whnf
    left
    conv => lhs; whnf
    exact congrArg AV.str (by simp [wordText, hb])

end Go.Proofs.Ytpfbkblgefddlaa.Ct
