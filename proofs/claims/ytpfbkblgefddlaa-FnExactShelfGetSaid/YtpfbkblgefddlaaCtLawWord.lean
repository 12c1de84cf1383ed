/- The laws' own functions on words. -/
import Derived.Test.YtpfbkblgefddlaaCtWord2
namespace Go.Proofs.Ytpfbkblgefddlaa.Ct
set_option linter.unusedSimpArgs false
set_option linter.unusedVariables false
open Go Go.Proofs Go.Proofs.Ytpfbkblgefddlaa.Av

def c_laws_szIntS : ICode := (.seq (.reg [⟨(some 4), .mv, [(.c (.int .i64 0))], none⟩]) (.seq (.reg [⟨(some 5), .mv, [(.t 1)], none⟩, ⟨(some 6), .mv, [(.t 0)], none⟩, ⟨(some 7), .len, [(.t 6)], none⟩, ⟨(some 8), (.bin .sub), [(.t 5), (.t 7)], none⟩, ⟨(some 1), .mv, [(.t 8)], none⟩]) (.seq (.seq (.reg [⟨(some 9), .mv, [(.t 1)], none⟩, ⟨(some 10), (.bin .lss), [(.t 9), (.c (.int .i64 0))], none⟩]) (.cond (.t 10) (.seq (.reg [⟨(some 4), .mv, [(.c (.int .i64 (-1)))], none⟩]) .ret) .skip)) (.seq (.reg [⟨(some 11), .mv, [(.t 1)], none⟩, ⟨(some 4), .mv, [(.t 11)], none⟩]) .ret))))
theorem b_laws_szIntS : Body Try.prog 61 12 c_laws_szIntS [(.t 4)] := by
  have h1 : comp Try.prog 12 (Try.f61.body.getD .skip) = some c_laws_szIntS := by kernel_rfl
  have h2 : Try.f61.body = some (Try.f61.body.getD .skip) := by kernel_rfl
  have h3 : Try.f61.results.toList.map (cRes Try.prog) = [(some (.t 4))] := by kernel_rfl
  exact ⟨_, _, Try.func61, h2, Try.ntmps61, h1, h3, by decide⟩

def c_laws_szWord : ICode := (.seq (.reg [⟨(some 2), (.box 2), [(.t 0)], none⟩, ⟨(some 4), .mv, [(.c (.int .i64 0))], none⟩]) (.seq (.reg [⟨(some 5), (.fadr 0), [(.t 2)], none⟩, ⟨(some 6), .ld1, [(.t 5)], none⟩, ⟨(some 7), .mv, [(.t 1)], none⟩, ⟨(some 8), (.call 61), [(.t 6), (.t 7)], none⟩, ⟨(some 1), .mv, [(.t 8)], none⟩]) (.seq (.seq (.reg [⟨(some 9), .mv, [(.t 1)], none⟩, ⟨(some 10), (.bin .lss), [(.t 9), (.c (.int .i64 0))], none⟩]) (.cond (.t 10) (.seq (.reg [⟨(some 4), .mv, [(.c (.int .i64 (-1)))], none⟩]) .ret) .skip)) (.seq (.reg [⟨(some 11), (.fadr 1), [(.t 2)], none⟩, ⟨(some 12), .ld1, [(.t 11)], none⟩, ⟨(some 13), .mv, [(.t 1)], none⟩, ⟨(some 14), (.call 61), [(.t 12), (.t 13)], none⟩, ⟨(some 1), .mv, [(.t 14)], none⟩]) (.seq (.seq (.reg [⟨(some 15), .mv, [(.t 1)], none⟩, ⟨(some 16), (.bin .lss), [(.t 15), (.c (.int .i64 0))], none⟩]) (.cond (.t 16) (.seq (.reg [⟨(some 4), .mv, [(.c (.int .i64 (-1)))], none⟩]) .ret) .skip)) (.seq (.reg [⟨(some 17), .mv, [(.t 1)], none⟩, ⟨(some 4), .mv, [(.t 17)], none⟩]) .ret))))))
theorem b_laws_szWord : Body Try.prog 13 18 c_laws_szWord [(.t 4)] := by
  have h1 : comp Try.prog 18 (Try.f13.body.getD .skip) = some c_laws_szWord := by kernel_rfl
  have h2 : Try.f13.body = some (Try.f13.body.getD .skip) := by kernel_rfl
  have h3 : Try.f13.results.toList.map (cRes Try.prog) = [(some (.t 4))] := by kernel_rfl
  exact ⟨_, _, Try.func13, h2, Try.ntmps13, h1, h3, by decide⟩

def c_laws_toIntS : ICode := (.seq (.reg [⟨(some 2), .mv, [(.c .snil)], none⟩]) (.seq (.reg [⟨(some 5), .mv, [(.t 0)], none⟩, ⟨(some 6), .len, [(.t 5)], none⟩, ⟨(some 7), (.mks 1 8 [(.int .i64 0)]), [(.t 6), (.t 6)], none⟩, ⟨(some 3), .mv, [(.t 7)], none⟩]) (.seq (.seq (.reg [⟨(some 4), .mv, [(.c (.int .i64 0))], none⟩]) (.block 0 (.loop (.seq (.seq (.reg [⟨(some 8), .mv, [(.t 4)], none⟩, ⟨(some 9), .mv, [(.t 0)], none⟩, ⟨(some 10), .len, [(.t 9)], none⟩, ⟨(some 11), (.bin .lss), [(.t 8), (.t 10)], none⟩]) (.cond (.t 11) .skip (.exit 0))) (.seq (.block 1 (.reg [⟨(some 14), .mv, [(.t 3)], none⟩, ⟨(some 15), .mv, [(.t 4)], none⟩, ⟨(some 16), .mv, [(.t 0)], none⟩, ⟨(some 17), .mv, [(.t 4)], none⟩, ⟨(some 18), (.iadr 1), [(.t 16), (.t 17)], none⟩, ⟨(some 19), .ld1, [(.t 18)], none⟩, ⟨(some 20), (.iadr 1), [(.t 14), (.t 15)], none⟩, ⟨none, (.st 1), [(.t 20), (.t 19)], none⟩])) (.reg [⟨(some 12), .mv, [(.t 4)], none⟩, ⟨(some 13), (.bin .add), [(.t 12), (.c (.int .i64 1))], none⟩, ⟨(some 4), .mv, [(.t 13)], none⟩])))))) (.seq (.reg [⟨(some 21), .mv, [(.t 3)], none⟩, ⟨(some 2), .mv, [(.t 21)], none⟩]) .ret))))
theorem b_laws_toIntS : Body Try.prog 64 22 c_laws_toIntS [(.t 2)] := by
  have h1 : comp Try.prog 22 (Try.f64.body.getD .skip) = some c_laws_toIntS := by kernel_rfl
  have h2 : Try.f64.body = some (Try.f64.body.getD .skip) := by kernel_rfl
  have h3 : Try.f64.results.toList.map (cRes Try.prog) = [(some (.t 2))] := by kernel_rfl
  exact ⟨_, _, Try.func64, h2, Try.ntmps64, h1, h3, by decide⟩

def c_laws_toWord : ICode := (.seq (.reg [⟨(some 1), (.box 2), [(.t 0)], none⟩, ⟨(some 2), (.alc [.snil, .snil]), [], none⟩]) (.seq (.reg [⟨(some 3), (.alc [.snil, .snil]), [], none⟩]) (.seq (.reg [⟨(some 4), (.fadr 0), [(.t 1)], none⟩, ⟨(some 5), .ld1, [(.t 4)], none⟩, ⟨(some 6), (.call 64), [(.t 5)], none⟩, ⟨(some 7), (.fadr 0), [(.t 3)], none⟩, ⟨none, (.st 1), [(.t 7), (.t 6)], none⟩]) (.seq (.reg [⟨(some 8), (.fadr 1), [(.t 1)], none⟩, ⟨(some 9), .ld1, [(.t 8)], none⟩, ⟨(some 10), (.call 64), [(.t 9)], none⟩, ⟨(some 11), (.fadr 1), [(.t 3)], none⟩, ⟨none, (.st 1), [(.t 11), (.t 10)], none⟩]) (.seq (.reg [⟨(some 12), (.ldn 2), [(.t 3)], none⟩, ⟨none, (.st 2), [(.t 2), (.t 12)], none⟩]) .ret)))))
theorem b_laws_toWord : Body Try.prog 15 13 c_laws_toWord [(.cn 2 2)] := by
  have h1 : comp Try.prog 13 (Try.f15.body.getD .skip) = some c_laws_toWord := by kernel_rfl
  have h2 : Try.f15.body = some (Try.f15.body.getD .skip) := by kernel_rfl
  have h3 : Try.f15.results.toList.map (cRes Try.prog) = [(some (.cn 2 2))] := by kernel_rfl
  exact ⟨_, _, Try.func15, h2, Try.ntmps15, h1, h3, by decide⟩

def c_laws_eqIntS : ICode := (.seq (.reg [⟨(some 4), .mv, [(.c (.bool false))], none⟩]) (.seq (.seq (.reg [⟨(some 6), .mv, [(.t 0)], none⟩, ⟨(some 7), .len, [(.t 6)], none⟩, ⟨(some 8), .mv, [(.t 1)], none⟩, ⟨(some 9), .len, [(.t 8)], none⟩, ⟨(some 10), (.bin .neq), [(.t 7), (.t 9)], none⟩]) (.cond (.t 10) (.seq (.reg [⟨(some 4), .mv, [(.c (.bool false))], none⟩]) .ret) .skip)) (.seq (.seq (.reg [⟨(some 5), .mv, [(.c (.int .i64 0))], none⟩]) (.block 0 (.loop (.seq (.seq (.reg [⟨(some 11), .mv, [(.t 5)], none⟩, ⟨(some 12), .mv, [(.t 0)], none⟩, ⟨(some 13), .len, [(.t 12)], none⟩, ⟨(some 14), (.bin .lss), [(.t 11), (.t 13)], none⟩]) (.cond (.t 14) .skip (.exit 0))) (.seq (.block 1 (.seq (.drw [⟨(some 17), .mv, [(.t 0)], none⟩, ⟨(some 18), .mv, [(.t 5)], none⟩, ⟨(some 19), (.iadr 1), [(.t 17), (.t 18)], none⟩, ⟨(some 20), .ld1, [(.t 19)], none⟩, ⟨(some 21), .mv, [(.t 1)], none⟩, ⟨(some 22), .mv, [(.t 5)], none⟩, ⟨(some 23), (.iadr 1), [(.t 21), (.t 22)], none⟩, ⟨(some 24), .ld1, [(.t 23)], none⟩, ⟨(some 25), (.bin .neq), [(.t 20), (.t 24)], none⟩] [[], [], [0, 1], [0, 1, 2], [], [], [4, 5], [4, 5, 6], [0, 1, 2, 3, 4, 5, 6, 7]] true true) (.cond (.t 25) (.seq (.reg [⟨(some 4), .mv, [(.c (.bool false))], none⟩]) .ret) .skip))) (.reg [⟨(some 15), .mv, [(.t 5)], none⟩, ⟨(some 16), (.bin .add), [(.t 15), (.c (.int .i64 1))], none⟩, ⟨(some 5), .mv, [(.t 16)], none⟩])))))) (.seq (.reg [⟨(some 4), .mv, [(.c (.bool true))], none⟩]) .ret))))
theorem b_laws_eqIntS : Body Try.prog 67 26 c_laws_eqIntS [(.t 4)] := by
  have h1 : comp Try.prog 26 (Try.f67.body.getD .skip) = some c_laws_eqIntS := by kernel_rfl
  have h2 : Try.f67.body = some (Try.f67.body.getD .skip) := by kernel_rfl
  have h3 : Try.f67.results.toList.map (cRes Try.prog) = [(some (.t 4))] := by kernel_rfl
  exact ⟨_, _, Try.func67, h2, Try.ntmps67, h1, h3, by decide⟩

def c_laws_eqWord : ICode := (.seq (.reg [⟨(some 2), (.box 2), [(.t 0)], none⟩, ⟨(some 3), (.box 2), [(.t 1)], none⟩, ⟨(some 4), .mv, [(.c (.bool false))], none⟩]) (.seq (.seq (.reg [⟨(some 5), (.fadr 0), [(.t 2)], none⟩, ⟨(some 6), .ld1, [(.t 5)], none⟩, ⟨(some 7), (.fadr 0), [(.t 3)], none⟩, ⟨(some 8), .ld1, [(.t 7)], none⟩, ⟨(some 9), (.call 67), [(.t 6), (.t 8)], none⟩, ⟨(some 10), .not, [(.t 9)], none⟩]) (.cond (.t 10) (.seq (.reg [⟨(some 4), .mv, [(.c (.bool false))], none⟩]) .ret) .skip)) (.seq (.seq (.reg [⟨(some 11), (.fadr 1), [(.t 2)], none⟩, ⟨(some 12), .ld1, [(.t 11)], none⟩, ⟨(some 13), (.fadr 1), [(.t 3)], none⟩, ⟨(some 14), .ld1, [(.t 13)], none⟩, ⟨(some 15), (.call 67), [(.t 12), (.t 14)], none⟩, ⟨(some 16), .not, [(.t 15)], none⟩]) (.cond (.t 16) (.seq (.reg [⟨(some 4), .mv, [(.c (.bool false))], none⟩]) .ret) .skip)) (.seq (.reg [⟨(some 4), .mv, [(.c (.bool true))], none⟩]) .ret))))
theorem b_laws_eqWord : Body Try.prog 17 17 c_laws_eqWord [(.t 4)] := by
  have h1 : comp Try.prog 17 (Try.f17.body.getD .skip) = some c_laws_eqWord := by kernel_rfl
  have h2 : Try.f17.body = some (Try.f17.body.getD .skip) := by kernel_rfl
  have h3 : Try.f17.results.toList.map (cRes Try.prog) = [(some (.t 4))] := by kernel_rfl
  exact ⟨_, _, Try.func17, h2, Try.ntmps17, h1, h3, by decide⟩

def c_laws_FnExactWordText : ICode := (.seq (.reg [⟨(some 1), (.box 2), [(.t 0)], none⟩, ⟨(some 2), .mv, [(.c (.bool false))], none⟩]) (.seq (.reg [⟨(some 3), .mv, [(.c (.int .i64 1048576))], none⟩]) (.seq (.reg [⟨(some 7), (.ldn 2), [(.t 1)], none⟩, ⟨(some 8), .mv, [(.t 3)], none⟩, ⟨(some 9), (.call 13), [(.t 7), (.t 8)], none⟩, ⟨(some 3), .mv, [(.t 9)], none⟩]) (.seq (.seq (.reg [⟨(some 10), .mv, [(.t 3)], none⟩, ⟨(some 11), (.bin .lss), [(.t 10), (.c (.int .i64 0))], none⟩]) (.cond (.t 11) (.seq (.reg [⟨(some 2), .mv, [(.c (.bool true))], none⟩]) .ret) .skip)) (.seq (.reg [⟨(some 12), (.ldn 2), [(.t 1)], none⟩, ⟨(some 13), (.call 15), [(.t 12)], none⟩, ⟨(some 14), (.call 14), [(.t 13)], none⟩, ⟨(some 4), .mv, [(.t 14)], none⟩]) (.seq (.reg [⟨(some 15), (.ldn 2), [(.t 1)], none⟩, ⟨(some 16), (.call 15), [(.t 15)], none⟩, ⟨(some 5), (.alc [.snil, .snil]), [], none⟩, ⟨none, (.st 2), [(.t 5), (.t 16)], none⟩]) (.seq (.reg [⟨(some 17), (.ldn 2), [(.t 5)], none⟩, ⟨(some 18), (.call 16), [(.t 17)], none⟩, ⟨(some 6), .mv, [(.t 18)], none⟩]) (.seq (.seq (.reg [⟨(some 19), .mv, [(.t 6)], none⟩, ⟨(some 20), .mv, [(.t 4)], none⟩, ⟨(some 21), (.bin .neq), [(.t 19), (.t 20)], none⟩]) (.cond (.t 21) (.seq (.reg [⟨(some 2), .mv, [(.c (.bool false))], none⟩]) .ret) .skip)) (.seq (.seq (.drw [⟨(some 22), (.ldn 2), [(.t 5)], none⟩, ⟨(some 23), (.ldn 2), [(.t 1)], none⟩, ⟨(some 24), (.call 15), [(.t 23)], none⟩, ⟨(some 25), (.call 17), [(.t 22), (.t 24)], none⟩, ⟨(some 26), .not, [(.t 25)], none⟩] [[], [], [1], [0, 1, 2], [0, 1, 2, 3]] true true) (.cond (.t 26) (.seq (.reg [⟨(some 2), .mv, [(.c (.bool false))], none⟩]) .ret) .skip)) (.seq (.reg [⟨(some 2), .mv, [(.c (.bool true))], none⟩]) .ret))))))))))
theorem b_laws_FnExactWordText : Body Try.prog 3 27 c_laws_FnExactWordText [(.t 2)] := by
  have h1 : comp Try.prog 27 (Try.f3.body.getD .skip) = some c_laws_FnExactWordText := by kernel_rfl
  have h2 : Try.f3.body = some (Try.f3.body.getD .skip) := by kernel_rfl
  have h3 : Try.f3.results.toList.map (cRes Try.prog) = [(some (.t 2))] := by kernel_rfl
  exact ⟨_, _, Try.func3, h2, Try.ntmps3, h1, h3, by decide⟩


def RSzIntS (xs : List AV) (r : AV) (objs : List AObj) : Prop := ∃ l n, xs = [.val (ints l), .int .i64 n] ∧ -1 ≤ n ∧ n ≤ 1048576 ∧ r = .int .i64 (if n - l.length < 0 then -1 else n - l.length) ∧ objs = []
theorem RSzIntS_mk {l : List Int} {n : Int} (h1 : -1 ≤ n) (h2 : n ≤ 1048576) : RSzIntS [.val (ints l), .int .i64 n] (.int .i64 (if n - l.length < 0 then -1 else n - l.length)) [] := ⟨l, n, rfl, h1, h2, rfl, rfl⟩

theorem s_laws_szIntS : PureSound Try.prog 61 RSzIntS := by
  have hR : Rely Try.prog (ctxOf []) := rely_nil mixed
  refine pure_of_aw b_laws_szIntS ?_
  rintro xs r objs ⟨l, n, rfl, h1, h2, rfl, rfl⟩ ⟨w, own, vs, hrel⟩
  have hl : (ints l).length ≤ 9223372036854775807 := by
    obtain ⟨v, hv⟩ := rels_at hrel (i := 0) rfl
    exact rel_len hv
  clear hrel
  refine ⟨by simp, vc_sound hR _ _ _ _ _ ?_⟩
  conv => whnf
  repeat' (first
    | contradiction
    | (refine And.intro (fun hb => ?_) (fun hb => ?_) <;> (try simp only [decide_eq_true_eq, decide_eq_false_iff_not, Bool.not_eq_true', Bool.not_eq_false', Bool.not_not, ne_eq, length_ints, List.length_map, beq_iff_eq, bne_iff_ne, beq_eq_false_iff_ne, bne_eq_false_iff_eq, Int.not_le, Int.not_lt, ge_iff_le, gt_iff_lt, reduceCtorEq, not_false_eq_true, not_true_eq_false, Bool.false_eq_true, Bool.true_eq_false] at hb) <;> (try (exfalso; first | contradiction | omega)) <;> conv => whnf)
    | (refine And.intro rfl ?_; conv => whnf)
    | (refine ⟨_, IntWalk.i64_in _ (by omega), ?_⟩; conv => whnf)
    | (refine And.intro (okcs_all rfl) ?_; conv => whnf)
    | (refine And.intro (frees_all rfl) ?_; conv => whnf)
    | (refine And.intro (bsl_all rfl) ?_; conv => whnf)
    | (refine And.intro (clen_all rfl) ?_; conv => whnf)
    | (refine And.intro (lens_all rfl) ?_; conv => whnf)
    | (refine And.intro (Nat.le_of_ble_eq_true rfl) ?_; conv => whnf)
    | (rw [ints_at (by omega)]; conv => whnf)
    | (rw [ints_at0 (by omega)]; conv => whnf)
    | (rw [ints_at' (by omega) (by omega)]; conv => whnf)
    | (refine And.intro (by first | omega | (simp only [length_ints]; omega)) ?_; conv => whnf)
    | fail)
  · refine ⟨.inl rfl, ?_⟩
    conv => whnf
    refine ⟨[], ⟨rfl, trivial⟩, ?_, rfl, rfl⟩
    conv => whnf
    left
    conv => lhs; whnf
    exact congrArg (AV.int .i64) (by rw [if_pos hb])
  · refine ⟨.inl rfl, ?_⟩
    conv => whnf
    refine ⟨[], ⟨rfl, trivial⟩, ?_, rfl, rfl⟩
    conv => whnf
    left
    conv => lhs; whnf
    exact congrArg (AV.int .i64) (by rw [if_neg (by omega), length_ints])

def leftS (n : Int) (l : List Int) : Int := if n - l.length < 0 then -1 else n - l.length
theorem leftS_le {n : Int} {l : List Int} (h1 : -1 ≤ n) (h2 : n ≤ 1048576) : -1 ≤ leftS n l ∧ leftS n l ≤ 1048576 := by
  unfold leftS; split <;> omega

def RSzWord (xs : List AV) (r : AV) (objs : List AObj) : Prop := ∃ s l n, xs = [word s l, .int .i64 n] ∧ 0 ≤ n ∧ n ≤ 1048576 ∧ r = .int .i64 (if n - s.length - l.length < 0 then -1 else n - s.length - l.length) ∧ objs = []
theorem RSzWord_mk {s l : List Int} {n : Int} (h1 : 0 ≤ n) (h2 : n ≤ 1048576) : RSzWord [word s l, .int .i64 n] (.int .i64 (if n - s.length - l.length < 0 then -1 else n - s.length - l.length)) [] := ⟨s, l, n, rfl, h1, h2, rfl, rfl⟩

theorem s_laws_szWord : PureSound Try.prog 13 RSzWord := by
  have hR : Rely Try.prog (ctxOf [(61, .pure RSzIntS)]) := rely_cons b_laws_szIntS.has s_laws_szIntS (rely_nil mixed)
  refine pure_of_aw b_laws_szWord ?_
  rintro xs r objs ⟨s, l, n, rfl, h1, h2, rfl, rfl⟩ -
  refine ⟨by simp, vc_sound hR _ _ _ _ _ ?_⟩
  have hle := leftS_le (n := n) (l := s) (by omega) h2
  conv => whnf
  repeat' (first
    | contradiction
    | (refine And.intro (fun hb => ?_) (fun hb => ?_) <;> (try simp only [decide_eq_true_eq, decide_eq_false_iff_not, Bool.not_eq_true', Bool.not_eq_false', Bool.not_not, ne_eq, length_ints, List.length_map, beq_iff_eq, bne_iff_ne, beq_eq_false_iff_ne, bne_eq_false_iff_eq, Int.not_le, Int.not_lt, ge_iff_le, gt_iff_lt, reduceCtorEq, not_false_eq_true, not_true_eq_false, Bool.false_eq_true, Bool.true_eq_false] at hb) <;> (try (exfalso; first | contradiction | omega)) <;> conv => whnf)
    | (refine And.intro rfl ?_; conv => whnf)
    | (refine ⟨_, IntWalk.i64_in _ (by omega), ?_⟩; conv => whnf)
    | (refine And.intro (okcs_all rfl) ?_; conv => whnf)
    | (refine And.intro (frees_all rfl) ?_; conv => whnf)
    | (refine And.intro (bsl_all rfl) ?_; conv => whnf)
    | (refine And.intro (clen_all rfl) ?_; conv => whnf)
    | (refine And.intro (lens_all rfl) ?_; conv => whnf)
    | (refine And.intro (Nat.le_of_ble_eq_true rfl) ?_; conv => whnf)
    | (rw [ints_at (by omega)]; conv => whnf)
    | (rw [ints_at0 (by omega)]; conv => whnf)
    | (rw [ints_at' (by omega) (by omega)]; conv => whnf)
    | (refine And.intro (by first | omega | (simp only [length_ints]; omega)) ?_; conv => whnf)
    | (refine ⟨_, _, RSzIntS_mk (by omega) h2, ?_⟩; conv => whnf)
    | fail)
  · refine ⟨.inl rfl, ?_⟩
    conv => whnf
    refine ⟨[], ⟨rfl, trivial⟩, ?_, rfl, rfl⟩
    conv => whnf
    left
    conv => lhs; whnf
    exact congrArg (AV.int .i64) (by split at hb <;> (try rw [if_pos (by omega)]) <;> omega)
  · conv => whnf
    repeat' (first
      | contradiction
      | (refine And.intro (fun hb => ?_) (fun hb => ?_) <;> (try simp only [decide_eq_true_eq, decide_eq_false_iff_not, Bool.not_eq_true', Bool.not_eq_false', Bool.not_not, ne_eq, length_ints, List.length_map, beq_iff_eq, bne_iff_ne, beq_eq_false_iff_ne, bne_eq_false_iff_eq, Int.not_le, Int.not_lt, ge_iff_le, gt_iff_lt, reduceCtorEq, not_false_eq_true, not_true_eq_false, Bool.false_eq_true, Bool.true_eq_false] at hb) <;> (try (exfalso; first | contradiction | omega)) <;> conv => whnf)
      | (refine And.intro rfl ?_; conv => whnf)
      | (refine ⟨_, IntWalk.i64_in _ (by omega), ?_⟩; conv => whnf)
      | (refine And.intro (okcs_all rfl) ?_; conv => whnf)
      | (refine And.intro (frees_all rfl) ?_; conv => whnf)
      | (refine And.intro (bsl_all rfl) ?_; conv => whnf)
      | (refine And.intro (clen_all rfl) ?_; conv => whnf)
      | (refine And.intro (lens_all rfl) ?_; conv => whnf)
      | (refine And.intro (Nat.le_of_ble_eq_true rfl) ?_; conv => whnf)
      | (rw [ints_at (by omega)]; conv => whnf)
      | (rw [ints_at0 (by omega)]; conv => whnf)
      | (rw [ints_at' (by omega) (by omega)]; conv => whnf)
      | (refine And.intro (by first | omega | (simp only [length_ints]; omega)) ?_; conv => whnf)
      | (refine ⟨_, _, RSzIntS_mk (n := leftS n s) hle.1 hle.2, ?_⟩; conv => whnf)
      | fail)
    · refine ⟨.inl rfl, ?_⟩
      conv => whnf
      refine ⟨[], ⟨rfl, trivial⟩, ?_, rfl, rfl⟩
      conv => whnf
      left
      conv => lhs; whnf
      exact congrArg (AV.int .i64) (by unfold leftS at hb; split at hb <;> (try split at hb) <;> (try rw [if_pos (by omega)]) <;> omega)
    · refine ⟨.inl rfl, ?_⟩
      conv => whnf
      refine ⟨[], ⟨rfl, trivial⟩, ?_, rfl, rfl⟩
      conv => whnf
      left
      conv => lhs; whnf
      exact congrArg (AV.int .i64) (by unfold leftS at hb ⊢; split at hb <;> (try split at hb) <;> (try rw [if_neg (by omega)]) <;> omega)

def RToIntS (xs : List AV) (r : AV) (objs : List AObj) : Prop := ∃ l, xs = [.val (ints l)] ∧ l.length ≤ 1048576 ∧ r = .ref 0 0 l.length ∧ objs = [.arr 1 (ints l)]
theorem RToIntS_mk {l : List Int} (h : l.length ≤ 1048576) : RToIntS [.val (ints l)] (.ref 0 0 l.length) [.arr 1 (ints l)] := ⟨l, rfl, h, rfl, rfl⟩

theorem fill_step {l : List Int} {i : Nat} (hi : i < l.length) : (ints (l.take i ++ List.replicate (l.length - i) 0)).set i [.int .i64 (l.getD i 0)] = ints (l.take (i + 1) ++ List.replicate (l.length - (i + 1)) 0) := by
  rw [take_succ_getD hi]
  have e : l.length - i = (l.length - (i + 1)) + 1 := by omega
  rw [e, List.replicate_succ]
  simp [ints, List.set_append, Nat.min_eq_left (Nat.le_of_lt hi)]

theorem s_laws_toIntS : PureSound Try.prog 64 RToIntS := by
  have hR : Rely Try.prog (ctxOf []) := rely_nil mixed
  refine pure_of_aw b_laws_toIntS ?_
  rintro xs r objs ⟨l, rfl, hl, rfl, rfl⟩ -
  refine ⟨by simp, vc_sound hR _ _ _ _ _ ?_⟩
  conv => whnf
  repeat' (first
    | contradiction
    | (refine And.intro (fun hb => ?_) (fun hb => ?_) <;> (try simp only [decide_eq_true_eq, decide_eq_false_iff_not, Bool.not_eq_true', Bool.not_eq_false', Bool.not_not, ne_eq, length_ints, List.length_map, beq_iff_eq, bne_iff_ne, beq_eq_false_iff_ne, bne_eq_false_iff_eq, Int.not_le, Int.not_lt, ge_iff_le, gt_iff_lt, reduceCtorEq, not_false_eq_true, not_true_eq_false, Bool.false_eq_true, Bool.true_eq_false] at hb) <;> (try (exfalso; first | contradiction | omega)) <;> conv => whnf)
    | (refine And.intro rfl ?_; conv => whnf)
    | (refine ⟨_, IntWalk.i64_in _ (by omega), ?_⟩; conv => whnf)
    | (refine And.intro (okcs_all rfl) ?_; conv => whnf)
    | (refine And.intro (frees_all rfl) ?_; conv => whnf)
    | (refine And.intro (bsl_all rfl) ?_; conv => whnf)
    | (refine And.intro (clen_all rfl) ?_; conv => whnf)
    | (refine And.intro (lens_all rfl) ?_; conv => whnf)
    | (refine And.intro (Nat.le_of_ble_eq_true rfl) ?_; conv => whnf)
    | (rw [ints_at (by omega)]; conv => whnf)
    | (rw [ints_at0 (by omega)]; conv => whnf)
    | (rw [ints_at' (by omega) (by omega)]; conv => whnf)
    | (refine And.intro (by first | omega | (simp only [length_ints]; omega)) ?_; conv => whnf)
    | fail)
  refine Lp.intro (α := Nat) (fun i => i ≤ l.length) (fun i => l.length - i) (fun i => [(0, .val (ints l)), (3, .ref 0 0 l.length), (4, .int .i64 i)]) (fun i => [some (.arr 1 (ints (l.take i ++ List.replicate (l.length - i) 0)))]) ?_ ?_
  · refine ⟨0, by omega, [some 0], rfl, rfl, And.intro (And.intro rfl ?_) trivial, ?_⟩
    · show List.replicate ((ints l).length : Int).toNat _ = _
      simp [ints]
    · repeat' (first
        | exact trivial
        | refine ⟨?_, ?_⟩
        | fail)
      all_goals first
        | with_reducible rfl
        | (conv => whnf
           try left
           conv => lhs; whnf
           first
             | rfl
             | exact congrArg (AV.int .i64) (by omega)
             | skip)
      exact congrArg (AV.ref 0 0) (by simp [ints])
  · intro i hi
    refine vc_sound hR _ _ _ _ _ ?_
    by_cases hlt : i < l.length
    · conv => whnf
      repeat' (first
        | contradiction
        | (refine And.intro (fun hb => ?_) (fun hb => ?_) <;> (try simp only [decide_eq_true_eq, decide_eq_false_iff_not, Bool.not_eq_true', Bool.not_eq_false', Bool.not_not, ne_eq, length_ints, List.length_map, beq_iff_eq, bne_iff_ne, beq_eq_false_iff_ne, bne_eq_false_iff_eq, Int.not_le, Int.not_lt, ge_iff_le, gt_iff_lt, reduceCtorEq, not_false_eq_true, not_true_eq_false, Bool.false_eq_true, Bool.true_eq_false] at hb) <;> (try (exfalso; first | contradiction | omega)) <;> conv => whnf)
        | (refine And.intro rfl ?_; conv => whnf)
        | (refine ⟨_, IntWalk.i64_in _ (by omega), ?_⟩; conv => whnf)
        | (refine And.intro (okcs_all rfl) ?_; conv => whnf)
        | (refine And.intro (frees_all rfl) ?_; conv => whnf)
        | (refine And.intro (bsl_all rfl) ?_; conv => whnf)
        | (refine And.intro (clen_all rfl) ?_; conv => whnf)
        | (refine And.intro (lens_all rfl) ?_; conv => whnf)
        | (refine And.intro (Nat.le_of_ble_eq_true rfl) ?_; conv => whnf)
        | (rw [ints_at (by omega)]; conv => whnf)
        | (rw [ints_at0 (by omega)]; conv => whnf)
        | (rw [ints_at' (by omega) (by omega)]; conv => whnf)
        | (refine And.intro (by first | omega | (simp only [length_ints]; omega)) ?_; conv => whnf)
        | fail)
      rw [ints_at0 (by simp; omega)]
      conv => whnf
      repeat' (first
        | contradiction
        | (refine And.intro (fun hb => ?_) (fun hb => ?_) <;> (try simp only [decide_eq_true_eq, decide_eq_false_iff_not, Bool.not_eq_true', Bool.not_eq_false', Bool.not_not, ne_eq, length_ints, List.length_map, beq_iff_eq, bne_iff_ne, beq_eq_false_iff_ne, bne_eq_false_iff_eq, Int.not_le, Int.not_lt, ge_iff_le, gt_iff_lt, reduceCtorEq, not_false_eq_true, not_true_eq_false, Bool.false_eq_true, Bool.true_eq_false] at hb) <;> (try (exfalso; first | contradiction | omega)) <;> conv => whnf)
        | (refine And.intro rfl ?_; conv => whnf)
        | (refine ⟨_, IntWalk.i64_in _ (by omega), ?_⟩; conv => whnf)
        | (refine And.intro (okcs_all rfl) ?_; conv => whnf)
        | (refine And.intro (frees_all rfl) ?_; conv => whnf)
        | (refine And.intro (bsl_all rfl) ?_; conv => whnf)
        | (refine And.intro (clen_all rfl) ?_; conv => whnf)
        | (refine And.intro (lens_all rfl) ?_; conv => whnf)
        | (refine And.intro (Nat.le_of_ble_eq_true rfl) ?_; conv => whnf)
        | (rw [ints_at (by omega)]; conv => whnf)
        | (rw [ints_at0 (by omega)]; conv => whnf)
        | (rw [ints_at' (by omega) (by omega)]; conv => whnf)
        | (refine And.intro (by first | omega | (simp only [length_ints]; omega)) ?_; conv => whnf)
        | fail)
      refine ⟨i + 1, by omega, by omega, [some 0], rfl, rfl, And.intro (And.intro rfl ?_) trivial, ?_⟩
      · show (ints _).set (0 + ((i : Nat) : Int).toNat) [.int .i64 (l.getD i 0)] = _
        rw [Nat.zero_add]
        exact fill_step hlt
      · repeat' (first
          | exact trivial
          | refine ⟨?_, ?_⟩
          | fail)
        all_goals first
          | with_reducible rfl
          | (conv => whnf
             try left
             conv => lhs; whnf
             first
               | rfl
               | exact congrArg (AV.int .i64) (by omega)
               | skip)
    · conv => whnf
      repeat' (first
        | contradiction
        | (refine And.intro (fun hb => ?_) (fun hb => ?_) <;> (try simp only [decide_eq_true_eq, decide_eq_false_iff_not, Bool.not_eq_true', Bool.not_eq_false', Bool.not_not, ne_eq, length_ints, List.length_map, beq_iff_eq, bne_iff_ne, beq_eq_false_iff_ne, bne_eq_false_iff_eq, Int.not_le, Int.not_lt, ge_iff_le, gt_iff_lt, reduceCtorEq, not_false_eq_true, not_true_eq_false, Bool.false_eq_true, Bool.true_eq_false] at hb) <;> (try (exfalso; first | contradiction | omega)) <;> conv => whnf)
        | (refine And.intro rfl ?_; conv => whnf)
        | (refine ⟨_, IntWalk.i64_in _ (by omega), ?_⟩; conv => whnf)
        | (refine And.intro (okcs_all rfl) ?_; conv => whnf)
        | (refine And.intro (frees_all rfl) ?_; conv => whnf)
        | (refine And.intro (bsl_all rfl) ?_; conv => whnf)
        | (refine And.intro (clen_all rfl) ?_; conv => whnf)
        | (refine And.intro (lens_all rfl) ?_; conv => whnf)
        | (refine And.intro (Nat.le_of_ble_eq_true rfl) ?_; conv => whnf)
        | (rw [ints_at (by omega)]; conv => whnf)
        | (rw [ints_at0 (by omega)]; conv => whnf)
        | (rw [ints_at' (by omega) (by omega)]; conv => whnf)
        | (refine And.intro (by first | omega | (simp only [length_ints]; omega)) ?_; conv => whnf)
        | fail)
      refine ⟨.inl rfl, ?_⟩
      conv => whnf
      refine ⟨[some 0], ⟨rfl, And.intro (And.intro rfl ?_) trivial⟩, rfl, rfl, by simp [AObj.nov, ints_nov]⟩
      have : i = l.length := by omega
      subst this
      simp

def RToWord (xs : List AV) (r : AV) (objs : List AObj) : Prop := ∃ s l, xs = [word s l] ∧ s.length ≤ 1048576 ∧ l.length ≤ 1048576 ∧ r = .agg [.ref 0 0 s.length, .ref 1 0 l.length] ∧ objs = [.arr 1 (ints s), .arr 1 (ints l)]
theorem RToWord_mk {s l : List Int} (h1 : s.length ≤ 1048576) (h2 : l.length ≤ 1048576) : RToWord [word s l] (.agg [.ref 0 0 s.length, .ref 1 0 l.length]) [.arr 1 (ints s), .arr 1 (ints l)] := ⟨s, l, rfl, h1, h2, rfl, rfl⟩

theorem s_laws_toWord : PureSound Try.prog 15 RToWord := by
  have hR : Rely Try.prog (ctxOf [(64, .pure RToIntS)]) := rely_cons b_laws_toIntS.has s_laws_toIntS (rely_nil mixed)
  refine pure_of_aw b_laws_toWord ?_
  rintro xs r objs ⟨s, l, rfl, h1, h2, rfl, rfl⟩ -
  refine ⟨by simp, vc_sound hR _ _ _ _ _ ?_⟩
  conv => whnf
  repeat' (first
    | contradiction
    | (refine And.intro (fun hb => ?_) (fun hb => ?_) <;> (try simp only [decide_eq_true_eq, decide_eq_false_iff_not, Bool.not_eq_true', Bool.not_eq_false', Bool.not_not, ne_eq, length_ints, List.length_map, beq_iff_eq, bne_iff_ne, beq_eq_false_iff_ne, bne_eq_false_iff_eq, Int.not_le, Int.not_lt, ge_iff_le, gt_iff_lt, reduceCtorEq, not_false_eq_true, not_true_eq_false, Bool.false_eq_true, Bool.true_eq_false] at hb) <;> (try (exfalso; first | contradiction | omega)) <;> conv => whnf)
    | (refine And.intro rfl ?_; conv => whnf)
    | (refine ⟨_, IntWalk.i64_in _ (by omega), ?_⟩; conv => whnf)
    | (refine And.intro (okcs_all rfl) ?_; conv => whnf)
    | (refine And.intro (frees_all rfl) ?_; conv => whnf)
    | (refine And.intro (bsl_all rfl) ?_; conv => whnf)
    | (refine And.intro (clen_all rfl) ?_; conv => whnf)
    | (refine And.intro (lens_all rfl) ?_; conv => whnf)
    | (refine And.intro (Nat.le_of_ble_eq_true rfl) ?_; conv => whnf)
    | (rw [ints_at (by omega)]; conv => whnf)
    | (rw [ints_at0 (by omega)]; conv => whnf)
    | (rw [ints_at' (by omega) (by omega)]; conv => whnf)
    | (refine And.intro (by first | omega | (simp only [length_ints]; omega)) ?_; conv => whnf)
    | (refine ⟨_, _, RToIntS_mk h1, ?_⟩; conv => whnf)
    | fail)
  conv => whnf
  repeat' (first
    | contradiction
    | (refine And.intro (fun hb => ?_) (fun hb => ?_) <;> (try simp only [decide_eq_true_eq, decide_eq_false_iff_not, Bool.not_eq_true', Bool.not_eq_false', Bool.not_not, ne_eq, length_ints, List.length_map, beq_iff_eq, bne_iff_ne, beq_eq_false_iff_ne, bne_eq_false_iff_eq, Int.not_le, Int.not_lt, ge_iff_le, gt_iff_lt, reduceCtorEq, not_false_eq_true, not_true_eq_false, Bool.false_eq_true, Bool.true_eq_false] at hb) <;> (try (exfalso; first | contradiction | omega)) <;> conv => whnf)
    | (refine And.intro rfl ?_; conv => whnf)
    | (refine ⟨_, IntWalk.i64_in _ (by omega), ?_⟩; conv => whnf)
    | (refine And.intro (okcs_all rfl) ?_; conv => whnf)
    | (refine And.intro (frees_all rfl) ?_; conv => whnf)
    | (refine And.intro (bsl_all rfl) ?_; conv => whnf)
    | (refine And.intro (clen_all rfl) ?_; conv => whnf)
    | (refine And.intro (lens_all rfl) ?_; conv => whnf)
    | (refine And.intro (Nat.le_of_ble_eq_true rfl) ?_; conv => whnf)
    | (rw [ints_at (by omega)]; conv => whnf)
    | (rw [ints_at0 (by omega)]; conv => whnf)
    | (rw [ints_at' (by omega) (by omega)]; conv => whnf)
    | (refine And.intro (by first | omega | (simp only [length_ints]; omega)) ?_; conv => whnf)
    | (refine ⟨_, _, RToIntS_mk h2, ?_⟩; conv => whnf)
    | fail)
  refine ⟨.inl rfl, ?_⟩
  conv => whnf
  refine And.intro (Nat.le_of_ble_eq_true rfl) ?_
  conv => whnf
  refine ⟨[some 3, some 4], ⟨rfl, And.intro (And.intro rfl rfl) (And.intro (And.intro rfl rfl) trivial)⟩, And.intro rfl (And.intro rfl trivial), rfl, by simp [AObj.nov, ints_nov]⟩

def REqIntS (xs : List AV) (r : AV) (objs : List AObj) : Prop := ∃ a b, xs = [.val (ints a), .val (ints b)] ∧ r = .bool (decide (a = b)) ∧ objs = []
theorem REqIntS_eq {xs : List AV} {a b : List Int} (h : xs = [.val (ints a), .val (ints b)]) : REqIntS xs (.bool (decide (a = b))) [] := ⟨a, b, h, rfl, rfl⟩

theorem eq_of_getD {a b : List Int} (h : a.length = b.length) (hj : ∀ j, j < a.length → a.getD j 0 = b.getD j 0) : a = b := by
  apply List.ext_getElem h
  intro i h1 h2
  have := hj i h1
  simpa [List.getD_eq_getElem?_getD, List.getElem?_eq_getElem h1, List.getElem?_eq_getElem h2] using this

theorem s_laws_eqIntS : PureSound Try.prog 67 REqIntS := by
  have hR : Rely Try.prog (ctxOf []) := rely_nil mixed
  refine pure_of_aw b_laws_eqIntS ?_
  rintro xs r objs ⟨a, b, rfl, rfl, rfl⟩ ⟨w, own, vs, hrel⟩
  have hl : (ints a).length ≤ 9223372036854775807 := by
    obtain ⟨v, hv⟩ := rels_at hrel (i := 0) rfl
    exact rel_len hv
  rw [length_ints] at hl
  clear hrel
  refine ⟨by simp, vc_sound hR _ _ _ _ _ ?_⟩
  conv => whnf
  repeat' (first
    | contradiction
    | (refine And.intro (fun hb => ?_) (fun hb => ?_) <;> (try simp only [decide_eq_true_eq, decide_eq_false_iff_not, Bool.not_eq_true', Bool.not_eq_false', Bool.not_not, ne_eq, length_ints, List.length_map, beq_iff_eq, bne_iff_ne, beq_eq_false_iff_ne, bne_eq_false_iff_eq, Int.not_le, Int.not_lt, ge_iff_le, gt_iff_lt, reduceCtorEq, not_false_eq_true, not_true_eq_false, Bool.false_eq_true, Bool.true_eq_false] at hb) <;> (try (exfalso; first | contradiction | omega)) <;> conv => whnf)
    | (refine And.intro rfl ?_; conv => whnf)
    | (refine ⟨_, IntWalk.i64_in _ (by omega), ?_⟩; conv => whnf)
    | (refine And.intro (okcs_all rfl) ?_; conv => whnf)
    | (refine And.intro (frees_all rfl) ?_; conv => whnf)
    | (refine And.intro (bsl_all rfl) ?_; conv => whnf)
    | (refine And.intro (clen_all rfl) ?_; conv => whnf)
    | (refine And.intro (lens_all rfl) ?_; conv => whnf)
    | (refine And.intro (Nat.le_of_ble_eq_true rfl) ?_; conv => whnf)
    | (rw [ints_at (by omega)]; conv => whnf)
    | (rw [ints_at0 (by omega)]; conv => whnf)
    | (rw [ints_at' (by omega) (by omega)]; conv => whnf)
    | (refine And.intro (by first | omega | (simp only [length_ints]; omega)) ?_; conv => whnf)
    | fail)
  · refine ⟨.inl rfl, ?_⟩
    conv => whnf
    refine ⟨[], ⟨rfl, trivial⟩, ?_, rfl, rfl⟩
    conv => whnf
    left
    conv => lhs; whnf
    refine congrArg AV.bool (Eq.symm (decide_eq_false ?_))
    intro h; subst h; exact hb rfl
  · refine Lp.intro (α := Nat) (fun i => i ≤ a.length ∧ ∀ j, j < i → a.getD j 0 = b.getD j 0) (fun i => a.length - i) (fun i => [(0, .val (ints a)), (1, .val (ints b)), (5, .int .i64 i)]) (fun _ => []) ?_ ?_
    · refine ⟨0, ⟨by omega, by omega⟩, [], rfl, rfl, trivial, ?_⟩
      repeat' (first
        | exact trivial
        | refine ⟨?_, ?_⟩
        | fail)
      all_goals first
        | with_reducible rfl
        | (conv => whnf
           try left
           conv => lhs; whnf
           first
             | rfl
             | exact congrArg (AV.int .i64) (by omega)
             | skip)
    · rintro i ⟨hi, hall⟩
      refine vc_sound hR _ _ _ _ _ ?_
      conv => whnf
      repeat' (first
        | contradiction
        | (refine And.intro (fun hb => ?_) (fun hb => ?_) <;> (try simp only [decide_eq_true_eq, decide_eq_false_iff_not, Bool.not_eq_true', Bool.not_eq_false', Bool.not_not, ne_eq, length_ints, List.length_map, beq_iff_eq, bne_iff_ne, beq_eq_false_iff_ne, bne_eq_false_iff_eq, Int.not_le, Int.not_lt, ge_iff_le, gt_iff_lt, reduceCtorEq, not_false_eq_true, not_true_eq_false, Bool.false_eq_true, Bool.true_eq_false] at hb) <;> (try (exfalso; first | contradiction | omega)) <;> conv => whnf)
        | (refine And.intro rfl ?_; conv => whnf)
        | (refine ⟨_, IntWalk.i64_in _ (by omega), ?_⟩; conv => whnf)
        | (refine And.intro (okcs_all rfl) ?_; conv => whnf)
        | (refine And.intro (frees_all rfl) ?_; conv => whnf)
        | (refine And.intro (bsl_all rfl) ?_; conv => whnf)
        | (refine And.intro (clen_all rfl) ?_; conv => whnf)
        | (refine And.intro (lens_all rfl) ?_; conv => whnf)
        | (refine And.intro (Nat.le_of_ble_eq_true rfl) ?_; conv => whnf)
        | (rw [ints_at (by omega)]; conv => whnf)
        | (rw [ints_at0 (by omega)]; conv => whnf)
        | (rw [ints_at' (by omega) (by omega)]; conv => whnf)
        | (refine And.intro (by first | omega | (simp only [length_ints]; omega)) ?_; conv => whnf)
        | fail)
      · refine ⟨.inl rfl, ?_⟩
        conv => whnf
        refine ⟨[], ⟨rfl, trivial⟩, ?_, rfl, rfl⟩
        conv => whnf
        left
        conv => lhs; whnf
        refine congrArg AV.bool (Eq.symm (decide_eq_false ?_))
        intro h; subst h; exact hb rfl
      · refine ⟨i + 1, ⟨by omega, fun j hj => ?_⟩, by omega, [], rfl, rfl, trivial, ?_⟩
        · by_cases hji : j = i
          · subst hji; exact hb
          · exact hall j (by omega)
        · repeat' (first
            | exact trivial
            | refine ⟨?_, ?_⟩
            | fail)
          all_goals first
            | with_reducible rfl
            | (conv => whnf
               try left
               conv => lhs; whnf
               first
                 | rfl
                 | exact congrArg (AV.int .i64) (by omega)
                 | skip)
      · refine ⟨.inl rfl, ?_⟩
        conv => whnf
        refine ⟨[], ⟨rfl, trivial⟩, ?_, rfl, rfl⟩
        conv => whnf
        left
        conv => lhs; whnf
        refine congrArg AV.bool (Eq.symm (decide_eq_true ?_))
        exact eq_of_getD (by omega) (fun j hj => hall j (by omega))

def REqWord (xs : List AV) (r : AV) (objs : List AObj) : Prop := ∃ s l s' l', xs = [word s l, word s' l'] ∧ r = .bool (decide (s = s') && decide (l = l')) ∧ objs = []
theorem REqWord_eq {xs : List AV} {s l s' l' : List Int} (h : xs = [word s l, word s' l']) : REqWord xs (.bool (decide (s = s') && decide (l = l'))) [] := ⟨s, l, s', l', h, rfl, rfl⟩

theorem s_laws_eqWord : PureSound Try.prog 17 REqWord := by
  have hR : Rely Try.prog (ctxOf [(67, .pure REqIntS)]) := rely_cons b_laws_eqIntS.has s_laws_eqIntS (rely_nil mixed)
  refine pure_of_aw b_laws_eqWord ?_
  rintro xs r objs ⟨s, l, s', l', rfl, rfl, rfl⟩ -
  refine ⟨by simp, vc_sound hR _ _ _ _ _ ?_⟩
  conv => whnf
  repeat' (first
    | contradiction
    | (refine And.intro (fun hb => ?_) (fun hb => ?_) <;> (try simp only [decide_eq_true_eq, decide_eq_false_iff_not, Bool.not_eq_true', Bool.not_eq_false', Bool.not_not, ne_eq, length_ints, List.length_map, beq_iff_eq, bne_iff_ne, beq_eq_false_iff_ne, bne_eq_false_iff_eq, Int.not_le, Int.not_lt, ge_iff_le, gt_iff_lt, reduceCtorEq, not_false_eq_true, not_true_eq_false, Bool.false_eq_true, Bool.true_eq_false] at hb) <;> (try (exfalso; first | contradiction | omega)) <;> conv => whnf)
    | (refine And.intro rfl ?_; conv => whnf)
    | (refine ⟨_, IntWalk.i64_in _ (by omega), ?_⟩; conv => whnf)
    | (refine And.intro (okcs_all rfl) ?_; conv => whnf)
    | (refine And.intro (frees_all rfl) ?_; conv => whnf)
    | (refine And.intro (bsl_all rfl) ?_; conv => whnf)
    | (refine And.intro (clen_all rfl) ?_; conv => whnf)
    | (refine And.intro (lens_all rfl) ?_; conv => whnf)
    | (refine And.intro (Nat.le_of_ble_eq_true rfl) ?_; conv => whnf)
    | (rw [ints_at (by omega)]; conv => whnf)
    | (rw [ints_at0 (by omega)]; conv => whnf)
    | (rw [ints_at' (by omega) (by omega)]; conv => whnf)
    | (refine And.intro (by first | omega | (simp only [length_ints]; omega)) ?_; conv => whnf)
    | (refine ⟨_, _, REqIntS_eq rfl, ?_⟩; conv => whnf)
    | fail)
  all_goals
    refine ⟨.inl rfl, ?_⟩
    conv => whnf
    refine ⟨[], ⟨rfl, trivial⟩, ?_, rfl, rfl⟩
    conv => whnf
    left
    conv => lhs; whnf
    refine congrArg AV.bool ?_
    simp_all

/-- the whole law: true, or it was too long -/
def RTrue1 (xs : List AV) (r : AV) (objs : List AObj) : Prop := ∃ s l, xs = [word s l] ∧ r = .bool true ∧ objs = []

theorem RWordText_eq {xs : List AV} {s l : List Int} (h : xs = [word s l]) : RWordText xs (.str (wordText s l)) [] := ⟨s, l, h, rfl, rfl⟩

theorem s_laws_FnExactWordText : PureSound Try.prog 3 RTrue1 := by
  have hR : Rely Try.prog (ctxOf [(13, .pure RSzWord), (15, .pure RToWord), (14, .pure RWordText), (16, .pure RWordText), (17, .pure REqWord)]) :=
    rely_cons b_laws_szWord.has s_laws_szWord (rely_cons b_laws_toWord.has s_laws_toWord (rely_cons b_spec_WordText.has s_spec_WordText
      (rely_cons b_impl_WordText.has s_impl_WordText (rely_cons b_laws_eqWord.has s_laws_eqWord (rely_nil mixed)))))
  refine pure_of_aw b_laws_FnExactWordText ?_
  rintro xs r objs ⟨s, l, rfl, rfl, rfl⟩ -
  refine ⟨by simp, vc_sound hR _ _ _ _ _ ?_⟩
  conv => whnf
  repeat' (first
    | contradiction
    | (refine And.intro (fun hb => ?_) (fun hb => ?_) <;> (try simp only [decide_eq_true_eq, decide_eq_false_iff_not, Bool.not_eq_true', Bool.not_eq_false', Bool.not_not, ne_eq, length_ints, List.length_map, beq_iff_eq, bne_iff_ne, beq_eq_false_iff_ne, bne_eq_false_iff_eq, Int.not_le, Int.not_lt, ge_iff_le, gt_iff_lt, reduceCtorEq, not_false_eq_true, not_true_eq_false, Bool.false_eq_true, Bool.true_eq_false] at hb) <;> (try (exfalso; first | contradiction | omega)) <;> conv => whnf)
    | (refine And.intro rfl ?_; conv => whnf)
    | (refine ⟨_, IntWalk.i64_in _ (by omega), ?_⟩; conv => whnf)
    | (refine And.intro (okcs_all rfl) ?_; conv => whnf)
    | (refine And.intro (frees_all rfl) ?_; conv => whnf)
    | (refine And.intro (bsl_all rfl) ?_; conv => whnf)
    | (refine And.intro (clen_all rfl) ?_; conv => whnf)
    | (refine And.intro (lens_all rfl) ?_; conv => whnf)
    | (refine And.intro (Nat.le_of_ble_eq_true rfl) ?_; conv => whnf)
    | (rw [ints_at (by omega)]; conv => whnf)
    | (rw [ints_at0 (by omega)]; conv => whnf)
    | (rw [ints_at' (by omega) (by omega)]; conv => whnf)
    | (refine And.intro (by first | omega | (simp only [length_ints]; omega)) ?_; conv => whnf)
    | (refine ⟨_, _, RSzWord_mk (by omega) (by omega), ?_⟩; conv => whnf)
    | fail)
  · refine ⟨.inl rfl, ?_⟩
    conv => whnf
    refine ⟨[], ⟨rfl, trivial⟩, ?_, rfl, rfl⟩
    conv => whnf
    left
    conv => lhs; whnf
  · have hs : s.length ≤ 1048576 ∧ l.length ≤ 1048576 := by split at hb <;> omega
    clear hb
    conv => whnf
    repeat' (first
      | contradiction
      | (refine And.intro (fun hb => ?_) (fun hb => ?_) <;> (try simp only [decide_eq_true_eq, decide_eq_false_iff_not, Bool.not_eq_true', Bool.not_eq_false', Bool.not_not, ne_eq, length_ints, List.length_map, beq_iff_eq, bne_iff_ne, beq_eq_false_iff_ne, bne_eq_false_iff_eq, Int.not_le, Int.not_lt, ge_iff_le, gt_iff_lt, reduceCtorEq, not_false_eq_true, not_true_eq_false, Bool.false_eq_true, Bool.true_eq_false] at hb) <;> (try (exfalso; first | contradiction | omega)) <;> conv => whnf)
      | (refine And.intro rfl ?_; conv => whnf)
      | (refine ⟨_, IntWalk.i64_in _ (by omega), ?_⟩; conv => whnf)
      | (refine And.intro (okcs_all rfl) ?_; conv => whnf)
      | (refine And.intro (frees_all rfl) ?_; conv => whnf)
      | (refine And.intro (bsl_all rfl) ?_; conv => whnf)
      | (refine And.intro (clen_all rfl) ?_; conv => whnf)
      | (refine And.intro (lens_all rfl) ?_; conv => whnf)
      | (refine And.intro (Nat.le_of_ble_eq_true rfl) ?_; conv => whnf)
      | (rw [ints_at (by omega)]; conv => whnf)
      | (rw [ints_at0 (by omega)]; conv => whnf)
      | (rw [ints_at' (by omega) (by omega)]; conv => whnf)
      | (refine And.intro (by first | omega | (simp only [length_ints]; omega)) ?_; conv => whnf)
      | (refine ⟨_, _, RToWord_mk hs.1 hs.2, ?_⟩; conv => whnf)
      | fail)
    refine ⟨_, _, RWordText_eq (s := s) (l := l) (by repeat' (first | exact rfl | refine args_cons ?_ ?_ | refine snap_agg ?_ | refine cells_cons ?_ ?_ | exact snap1_all rfl (by first | (simp only [length_ints]; done) | (simp only [length_nodeRows]; done) | simp [ints, marks]) | exact snap_all rfl (by first | (simp only [length_ints]; done) | (simp only [length_nodeRows]; done) | simp [ints, marks]) | exact snap1_all2 rfl (by first | (simp only [length_ints]; done) | (simp only [length_nodeRows]; done) | simp [ints, marks]) | fail)), ?_⟩
    conv => whnf
    repeat' (first
      | contradiction
      | (refine And.intro (fun hb => ?_) (fun hb => ?_) <;> (try simp only [decide_eq_true_eq, decide_eq_false_iff_not, Bool.not_eq_true', Bool.not_eq_false', Bool.not_not, ne_eq, length_ints, List.length_map, beq_iff_eq, bne_iff_ne, beq_eq_false_iff_ne, bne_eq_false_iff_eq, Int.not_le, Int.not_lt, ge_iff_le, gt_iff_lt, reduceCtorEq, not_false_eq_true, not_true_eq_false, Bool.false_eq_true, Bool.true_eq_false] at hb) <;> (try (exfalso; first | contradiction | omega)) <;> conv => whnf)
      | (refine And.intro rfl ?_; conv => whnf)
      | (refine ⟨_, IntWalk.i64_in _ (by omega), ?_⟩; conv => whnf)
      | (refine And.intro (okcs_all rfl) ?_; conv => whnf)
      | (refine And.intro (frees_all rfl) ?_; conv => whnf)
      | (refine And.intro (bsl_all rfl) ?_; conv => whnf)
      | (refine And.intro (clen_all rfl) ?_; conv => whnf)
      | (refine And.intro (lens_all rfl) ?_; conv => whnf)
      | (refine And.intro (Nat.le_of_ble_eq_true rfl) ?_; conv => whnf)
      | (rw [ints_at (by omega)]; conv => whnf)
      | (rw [ints_at0 (by omega)]; conv => whnf)
      | (rw [ints_at' (by omega) (by omega)]; conv => whnf)
      | (refine And.intro (by first | omega | (simp only [length_ints]; omega)) ?_; conv => whnf)
      | (refine ⟨_, _, RToWord_mk hs.1 hs.2, ?_⟩; conv => whnf)
      | fail)
    refine ⟨_, _, RWordText_eq (s := s) (l := l) (by repeat' (first | exact rfl | refine args_cons ?_ ?_ | refine snap_agg ?_ | refine cells_cons ?_ ?_ | exact snap1_all rfl (by first | (simp only [length_ints]; done) | (simp only [length_nodeRows]; done) | simp [ints, marks]) | exact snap_all rfl (by first | (simp only [length_ints]; done) | (simp only [length_nodeRows]; done) | simp [ints, marks]) | exact snap1_all2 rfl (by first | (simp only [length_ints]; done) | (simp only [length_nodeRows]; done) | simp [ints, marks]) | fail)), ?_⟩
    conv => whnf
    repeat' (first
      | contradiction
      | (refine And.intro (fun hb => ?_) (fun hb => ?_) <;> (try simp only [decide_eq_true_eq, decide_eq_false_iff_not, Bool.not_eq_true', Bool.not_eq_false', Bool.not_not, ne_eq, length_ints, List.length_map, beq_iff_eq, bne_iff_ne, beq_eq_false_iff_ne, bne_eq_false_iff_eq, Int.not_le, Int.not_lt, ge_iff_le, gt_iff_lt, reduceCtorEq, not_false_eq_true, not_true_eq_false, Bool.false_eq_true, Bool.true_eq_false] at hb) <;> (try (exfalso; first | contradiction | omega)) <;> conv => whnf)
      | (refine And.intro rfl ?_; conv => whnf)
      | (refine ⟨_, IntWalk.i64_in _ (by omega), ?_⟩; conv => whnf)
      | (refine And.intro (okcs_all rfl) ?_; conv => whnf)
      | (refine And.intro (frees_all rfl) ?_; conv => whnf)
      | (refine And.intro (bsl_all rfl) ?_; conv => whnf)
      | (refine And.intro (clen_all rfl) ?_; conv => whnf)
      | (refine And.intro (lens_all rfl) ?_; conv => whnf)
      | (refine And.intro (Nat.le_of_ble_eq_true rfl) ?_; conv => whnf)
      | (rw [ints_at (by omega)]; conv => whnf)
      | (rw [ints_at0 (by omega)]; conv => whnf)
      | (rw [ints_at' (by omega) (by omega)]; conv => whnf)
      | (refine And.intro (by first | omega | (simp only [length_ints]; omega)) ?_; conv => whnf)
      | (refine ⟨_, _, RToWord_mk hs.1 hs.2, ?_⟩; conv => whnf)
      | fail)
    refine ⟨_, _, REqWord_eq (s := s) (l := l) (s' := s) (l' := l) (by repeat' (first | exact rfl | refine args_cons ?_ ?_ | refine snap_agg ?_ | refine cells_cons ?_ ?_ | exact snap1_all rfl (by first | (simp only [length_ints]; done) | (simp only [length_nodeRows]; done) | simp [ints, marks]) | exact snap_all rfl (by first | (simp only [length_ints]; done) | (simp only [length_nodeRows]; done) | simp [ints, marks]) | exact snap1_all2 rfl (by first | (simp only [length_ints]; done) | (simp only [length_nodeRows]; done) | simp [ints, marks]) | fail)), ?_⟩
    conv => whnf
    repeat' (first
      | contradiction
      | (refine And.intro (fun hb => ?_) (fun hb => ?_) <;> (try simp only [decide_eq_true_eq, decide_eq_false_iff_not, Bool.not_eq_true', Bool.not_eq_false', Bool.not_not, ne_eq, length_ints, List.length_map, beq_iff_eq, bne_iff_ne, beq_eq_false_iff_ne, bne_eq_false_iff_eq, Int.not_le, Int.not_lt, ge_iff_le, gt_iff_lt, reduceCtorEq, not_false_eq_true, not_true_eq_false, Bool.false_eq_true, Bool.true_eq_false] at hb) <;> (try (exfalso; first | contradiction | omega)) <;> conv => whnf)
      | (refine And.intro rfl ?_; conv => whnf)
      | (refine ⟨_, IntWalk.i64_in _ (by omega), ?_⟩; conv => whnf)
      | (refine And.intro (okcs_all rfl) ?_; conv => whnf)
      | (refine And.intro (frees_all rfl) ?_; conv => whnf)
      | (refine And.intro (bsl_all rfl) ?_; conv => whnf)
      | (refine And.intro (clen_all rfl) ?_; conv => whnf)
      | (refine And.intro (lens_all rfl) ?_; conv => whnf)
      | (refine And.intro (Nat.le_of_ble_eq_true rfl) ?_; conv => whnf)
      | (rw [ints_at (by omega)]; conv => whnf)
      | (rw [ints_at0 (by omega)]; conv => whnf)
      | (rw [ints_at' (by omega) (by omega)]; conv => whnf)
      | (refine And.intro (by first | omega | (simp only [length_ints]; omega)) ?_; conv => whnf)
      | fail)
    refine ⟨.inl rfl, ?_⟩
    conv => whnf
    refine ⟨[], ⟨rfl, trivial⟩, ?_, rfl, rfl⟩
    conv => whnf
    left
    conv => lhs; whnf

end Go.Proofs.Ytpfbkblgefddlaa.Ct
