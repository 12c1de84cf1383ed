/- Formulas: nodes, how many parts a node has. -/
import Derived.Test.YtpfbkblgefddlaaCtMark
import Derived.Test.YtpfbkblgefddlaaAvVc3
namespace Go.Proofs.Ytpfbkblgefddlaa.Ct
set_option linter.unusedSimpArgs false
set_option linter.unusedVariables false
open Go Go.Proofs Go.Proofs.Ytpfbkblgefddlaa.Av

structure NodeD where
  kind : Int
  a : Int
  b : Int
  deriving Inhabited, DecidableEq

def nodeRow (n : NodeD) : List AV := [.int .i64 n.kind, .int .i64 n.a, .int .i64 n.b]
def nodeRows (l : List NodeD) : List (List AV) := l.map nodeRow

def c_impl_leaf : ICode := (.seq (.reg [⟨(some 2), (.box 3), [(.t 0)], none⟩, ⟨(some 4), .mv, [(.c (.int .i64 0))], none⟩]) (.seq (.seq (.reg [⟨(some 5), (.fadr 2), [(.t 2)], none⟩, ⟨(some 6), .ld1, [(.t 5)], none⟩, ⟨(some 7), (.bin .eql), [(.t 6), (.c (.int .i64 0))], none⟩, ⟨(some 8), .mv, [(.t 7)], none⟩, ⟨(some 9), (.fadr 1), [(.t 2)], (some (8, true))⟩, ⟨(some 10), .ld1, [(.t 9)], (some (8, true))⟩, ⟨(some 11), .mv, [(.t 1)], (some (8, true))⟩, ⟨(some 12), (.call 72), [(.t 10), (.c (.int .i64 0)), (.t 11)], (some (8, true))⟩, ⟨(some 13), .pick, [(.t 8), (.t 12), (.c (.bool false))], none⟩]) (.cond (.t 13) (.seq (.reg [⟨(some 4), .mv, [(.c (.int .i64 0))], none⟩]) .ret) .skip)) (.seq (.reg [⟨(some 4), .mv, [(.c (.int .i64 (-1)))], none⟩]) .ret)))
theorem b_impl_leaf : Body Try.prog 184 14 c_impl_leaf [(.t 4)] := by
  have h1 : comp Try.prog 14 (Try.f184.body.getD .skip) = some c_impl_leaf := by kernel_rfl
  have h2 : Try.f184.body = some (Try.f184.body.getD .skip) := by kernel_rfl
  have h3 : Try.f184.results.toList.map (cRes Try.prog) = [(some (.t 4))] := by kernel_rfl
  exact ⟨_, _, Try.func184, h2, Try.ntmps184, h1, h3, by decide⟩

def c_impl_exprParts : ICode := (.seq (.reg [⟨(some 1), (.box 3), [(.t 0)], none⟩, ⟨(some 2), .mv, [(.c (.int .i64 0))], none⟩]) (.seq (.seq (.reg [⟨(some 3), (.fadr 0), [(.t 1)], none⟩, ⟨(some 4), .ld1, [(.t 3)], none⟩]) (.block 0 (.seq (.seq (.reg [⟨(some 6), (.bin .eql), [(.t 4), (.c (.int .i64 1))], none⟩, ⟨(some 5), .mv, [(.t 6)], none⟩]) (.cond (.t 5) .skip (.reg [⟨(some 7), (.bin .eql), [(.t 4), (.c (.int .i64 2))], none⟩, ⟨(some 5), .mv, [(.t 7)], none⟩]))) (.cond (.t 5) (.seq (.reg [⟨(some 8), (.ldn 3), [(.t 1)], none⟩, ⟨(some 9), (.call 184), [(.t 8), (.c (.int .i64 0))], none⟩, ⟨(some 2), .mv, [(.t 9)], none⟩]) .ret) (.seq (.reg [⟨(some 11), (.bin .eql), [(.t 4), (.c (.int .i64 3))], none⟩, ⟨(some 10), .mv, [(.t 11)], none⟩]) (.cond (.t 10) (.seq (.reg [⟨(some 12), (.ldn 3), [(.t 1)], none⟩, ⟨(some 13), (.call 184), [(.t 12), (.c (.int .i64 2))], none⟩, ⟨(some 2), .mv, [(.t 13)], none⟩]) .ret) (.seq (.reg [⟨(some 15), (.bin .eql), [(.t 4), (.c (.int .i64 4))], none⟩, ⟨(some 14), .mv, [(.t 15)], none⟩]) (.cond (.t 14) (.seq (.reg [⟨(some 2), .mv, [(.c (.int .i64 1))], none⟩]) .ret) (.seq (.seq (.reg [⟨(some 17), (.bin .eql), [(.t 4), (.c (.int .i64 5))], none⟩, ⟨(some 16), .mv, [(.t 17)], none⟩]) (.cond (.t 16) .skip (.reg [⟨(some 18), (.bin .eql), [(.t 4), (.c (.int .i64 6))], none⟩, ⟨(some 16), .mv, [(.t 18)], none⟩]))) (.cond (.t 16) (.seq (.reg [⟨(some 2), .mv, [(.c (.int .i64 2))], none⟩]) .ret) .skip)))))))))) (.seq (.reg [⟨(some 2), .mv, [(.c (.int .i64 (-1)))], none⟩]) .ret)))
theorem b_impl_exprParts : Body Try.prog 146 19 c_impl_exprParts [(.t 2)] := by
  have h1 : comp Try.prog 19 (Try.f146.body.getD .skip) = some c_impl_exprParts := by kernel_rfl
  have h2 : Try.f146.body = some (Try.f146.body.getD .skip) := by kernel_rfl
  have h3 : Try.f146.results.toList.map (cRes Try.prog) = [(some (.t 2))] := by kernel_rfl
  exact ⟨_, _, Try.func146, h2, Try.ntmps146, h1, h3, by decide⟩

def c_impl_ltlParts : ICode := (.seq (.reg [⟨(some 1), (.box 3), [(.t 0)], none⟩, ⟨(some 2), .mv, [(.c (.int .i64 0))], none⟩]) (.seq (.seq (.reg [⟨(some 3), (.fadr 0), [(.t 1)], none⟩, ⟨(some 4), .ld1, [(.t 3)], none⟩]) (.block 0 (.seq (.seq (.reg [⟨(some 6), (.bin .eql), [(.t 4), (.c (.int .i64 7))], none⟩, ⟨(some 5), .mv, [(.t 6)], none⟩]) (.cond (.t 5) .skip (.seq (.reg [⟨(some 7), (.bin .eql), [(.t 4), (.c (.int .i64 10))], none⟩, ⟨(some 5), .mv, [(.t 7)], none⟩]) (.cond (.t 5) .skip (.reg [⟨(some 8), (.bin .eql), [(.t 4), (.c (.int .i64 11))], none⟩, ⟨(some 5), .mv, [(.t 8)], none⟩]))))) (.cond (.t 5) (.seq (.reg [⟨(some 2), .mv, [(.c (.int .i64 1))], none⟩]) .ret) (.seq (.seq (.reg [⟨(some 10), (.bin .eql), [(.t 4), (.c (.int .i64 8))], none⟩, ⟨(some 9), .mv, [(.t 10)], none⟩]) (.cond (.t 9) .skip (.reg [⟨(some 11), (.bin .eql), [(.t 4), (.c (.int .i64 9))], none⟩, ⟨(some 9), .mv, [(.t 11)], none⟩]))) (.cond (.t 9) (.seq (.reg [⟨(some 2), .mv, [(.c (.int .i64 2))], none⟩]) .ret) .skip)))))) (.seq (.reg [⟨(some 12), (.ldn 3), [(.t 1)], none⟩, ⟨(some 13), (.call 146), [(.t 12)], none⟩, ⟨(some 2), .mv, [(.t 13)], none⟩]) .ret)))
theorem b_impl_ltlParts : Body Try.prog 97 14 c_impl_ltlParts [(.t 2)] := by
  have h1 : comp Try.prog 14 (Try.f97.body.getD .skip) = some c_impl_ltlParts := by kernel_rfl
  have h2 : Try.f97.body = some (Try.f97.body.getD .skip) := by kernel_rfl
  have h3 : Try.f97.results.toList.map (cRes Try.prog) = [(some (.t 2))] := by kernel_rfl
  exact ⟨_, _, Try.func97, h2, Try.ntmps97, h1, h3, by decide⟩

def c_spec_l2Leaf : ICode := (.seq (.reg [⟨(some 1), (.box 3), [(.t 0)], none⟩, ⟨(some 2), .mv, [(.c (.bool false))], none⟩]) (.seq (.seq (.reg [⟨(some 3), (.fadr 0), [(.t 1)], none⟩, ⟨(some 4), .ld1, [(.t 3)], none⟩, ⟨(some 5), (.bin .eql), [(.t 4), (.c (.int .i64 3))], none⟩]) (.cond (.t 5) (.seq (.reg [⟨(some 6), (.fadr 1), [(.t 1)], none⟩, ⟨(some 7), .ld1, [(.t 6)], none⟩, ⟨(some 8), (.call 69), [(.t 7), (.c (.int .i64 0)), (.c (.int .i64 2))], none⟩, ⟨(some 2), .mv, [(.t 8)], none⟩]) .ret) .skip)) (.seq (.reg [⟨(some 9), (.fadr 1), [(.t 1)], none⟩, ⟨(some 10), .ld1, [(.t 9)], none⟩, ⟨(some 11), (.bin .eql), [(.t 10), (.c (.int .i64 0))], none⟩, ⟨(some 2), .mv, [(.t 11)], none⟩]) .ret)))
theorem b_spec_l2Leaf : Body Try.prog 99 12 c_spec_l2Leaf [(.t 2)] := by
  have h1 : comp Try.prog 12 (Try.f99.body.getD .skip) = some c_spec_l2Leaf := by kernel_rfl
  have h2 : Try.f99.body = some (Try.f99.body.getD .skip) := by kernel_rfl
  have h3 : Try.f99.results.toList.map (cRes Try.prog) = [(some (.t 2))] := by kernel_rfl
  exact ⟨_, _, Try.func99, h2, Try.ntmps99, h1, h3, by decide⟩

def c_spec_l8Parts : ICode := (.seq (.reg [⟨(some 2), .mv, [(.c (.int .i64 0))], none⟩]) (.seq (.seq (.reg [⟨(some 3), .mv, [(.t 0)], none⟩]) (.block 0 (.seq (.seq (.reg [⟨(some 5), (.bin .eql), [(.t 3), (.c (.int .i64 1))], none⟩, ⟨(some 4), .mv, [(.t 5)], none⟩]) (.cond (.t 4) .skip (.seq (.reg [⟨(some 6), (.bin .eql), [(.t 3), (.c (.int .i64 2))], none⟩, ⟨(some 4), .mv, [(.t 6)], none⟩]) (.cond (.t 4) .skip (.reg [⟨(some 7), (.bin .eql), [(.t 3), (.c (.int .i64 3))], none⟩, ⟨(some 4), .mv, [(.t 7)], none⟩]))))) (.cond (.t 4) (.seq (.reg [⟨(some 2), .mv, [(.c (.int .i64 0))], none⟩]) .ret) (.seq (.seq (.reg [⟨(some 9), (.bin .eql), [(.t 3), (.c (.int .i64 4))], none⟩, ⟨(some 8), .mv, [(.t 9)], none⟩]) (.cond (.t 8) .skip (.seq (.reg [⟨(some 10), (.bin .eql), [(.t 3), (.c (.int .i64 7))], none⟩, ⟨(some 8), .mv, [(.t 10)], none⟩]) (.cond (.t 8) .skip (.seq (.reg [⟨(some 11), (.bin .eql), [(.t 3), (.c (.int .i64 10))], none⟩, ⟨(some 8), .mv, [(.t 11)], none⟩]) (.cond (.t 8) .skip (.reg [⟨(some 12), (.bin .eql), [(.t 3), (.c (.int .i64 11))], none⟩, ⟨(some 8), .mv, [(.t 12)], none⟩]))))))) (.cond (.t 8) (.seq (.reg [⟨(some 2), .mv, [(.c (.int .i64 1))], none⟩]) .ret) (.seq (.seq (.reg [⟨(some 14), (.bin .eql), [(.t 3), (.c (.int .i64 5))], none⟩, ⟨(some 13), .mv, [(.t 14)], none⟩]) (.cond (.t 13) .skip (.seq (.reg [⟨(some 15), (.bin .eql), [(.t 3), (.c (.int .i64 6))], none⟩, ⟨(some 13), .mv, [(.t 15)], none⟩]) (.cond (.t 13) .skip (.seq (.reg [⟨(some 16), (.bin .eql), [(.t 3), (.c (.int .i64 8))], none⟩, ⟨(some 13), .mv, [(.t 16)], none⟩]) (.cond (.t 13) .skip (.reg [⟨(some 17), (.bin .eql), [(.t 3), (.c (.int .i64 9))], none⟩, ⟨(some 13), .mv, [(.t 17)], none⟩]))))))) (.cond (.t 13) (.seq (.reg [⟨(some 2), .mv, [(.c (.int .i64 2))], none⟩]) .ret) .skip)))))))) (.seq (.reg [⟨(some 2), .mv, [(.c (.int .i64 (-1)))], none⟩]) .ret)))
theorem b_spec_l8Parts : Body Try.prog 98 18 c_spec_l8Parts [(.t 2)] := by
  have h1 : comp Try.prog 18 (Try.f98.body.getD .skip) = some c_spec_l8Parts := by kernel_rfl
  have h2 : Try.f98.body = some (Try.f98.body.getD .skip) := by kernel_rfl
  have h3 : Try.f98.results.toList.map (cRes Try.prog) = [(some (.t 2))] := by kernel_rfl
  exact ⟨_, _, Try.func98, h2, Try.ntmps98, h1, h3, by decide⟩


/-- 0: a leaf that is right, -1: it is not -/
def leafI (n : NodeD) (m : Int) : Int := if n.b = 0 ∧ 0 ≤ n.a ∧ n.a ≤ m then 0 else -1
def RLeaf (xs : List AV) (r : AV) (objs : List AObj) : Prop := ∃ n m, xs = [.agg (nodeRow n), .int .i64 m] ∧ r = .int .i64 (leafI n m) ∧ objs = []
theorem RLeaf_mk {n : NodeD} {m : Int} : RLeaf [.agg (nodeRow n), .int .i64 m] (.int .i64 (leafI n m)) [] := ⟨n, m, rfl, rfl, rfl⟩

theorem s_impl_leaf : PureSound Try.prog 184 RLeaf := by
  have hR : Rely Try.prog (ctxOf [(72, .pure RIn)]) := rely_cons b_impl_inRange.has s_impl_inRange (rely_nil mixed)
  refine pure_of_aw b_impl_leaf ?_
  rintro xs r objs ⟨n, m, rfl, rfl, rfl⟩ -
  refine ⟨by simp, vc2_sound hR _ _ _ _ _ ?_⟩
  conv => whnf
  repeat' (first
    | (refine And.intro (fun hb => ?_) (fun hb => ?_)
       all_goals (try simp only [decide_eq_true_eq, decide_eq_false_iff_not, Bool.not_eq_true', Bool.not_eq_false', Bool.not_not, ne_eq, length_ints, List.length_map, beq_iff_eq, bne_iff_ne, beq_eq_false_iff_ne, bne_eq_false_iff_eq, Int.not_le, Int.not_lt, ge_iff_le, gt_iff_lt, reduceCtorEq, not_false_eq_true, not_true_eq_false, Bool.false_eq_true, Bool.true_eq_false] at hb)
       all_goals (try (exfalso; omega))
       all_goals conv => whnf)
    | (refine And.intro (live_all rfl) ?_; conv => whnf)
    | (refine And.intro rfl ?_; conv => whnf)
    | (refine ⟨_, IntWalk.i64_in _ (by omega), ?_⟩; conv => whnf)
    | (refine And.intro (okcs_all rfl) ?_; conv => whnf)
    | (refine And.intro (okvs_all rfl) ?_; conv => whnf)
    | (refine And.intro (frees_all rfl) ?_; conv => whnf)
    | (refine And.intro (bsl_all rfl) ?_; conv => whnf)
    | (refine And.intro (lens_all rfl) ?_; conv => whnf)
    | (refine And.intro (Nat.le_of_ble_eq_true rfl) ?_; conv => whnf)
    | (rw [ints_at (by omega)]; conv => whnf)
    | (rw [ints_at0 (by omega)]; conv => whnf)
    | (rw [ints_at' (by omega) (by omega)]; conv => whnf)
    | (refine And.intro (show (_ + 1) * _ ≤ _ by omega) ?_; conv => whnf)
    | (refine And.intro (show _ + 1 ≤ _ by omega) ?_; conv => whnf)
    | (refine And.intro (by first | omega | (simp only [length_ints]; omega)) ?_; conv => whnf)
    | (refine ⟨_, _, RIn_mk, ?_⟩; conv => whnf)
    | fail)
  all_goals
    refine ⟨.inl rfl, ?_⟩
    conv => whnf
    refine ⟨[], ⟨rfl, trivial⟩, ?_, rfl, rfl⟩
    conv => whnf
    left
    conv => lhs; whnf
    refine congrArg (AV.int .i64) ?_
    unfold leafI
    first
    | (rw [if_pos (by omega)])
    | (rw [if_neg (by omega)])

def partsE (n : NodeD) : Int := if n.kind = 1 ∨ n.kind = 2 then leafI n 0 else if n.kind = 3 then leafI n 2 else if n.kind = 4 then 1 else if n.kind = 5 ∨ n.kind = 6 then 2 else -1
def RPartsE (xs : List AV) (r : AV) (objs : List AObj) : Prop := ∃ n, xs = [.agg (nodeRow n)] ∧ r = .int .i64 (partsE n) ∧ objs = []
theorem RPartsE_mk {n : NodeD} : RPartsE [.agg (nodeRow n)] (.int .i64 (partsE n)) [] := ⟨n, rfl, rfl, rfl⟩

theorem s_impl_exprParts : PureSound Try.prog 146 RPartsE := by
  have hR : Rely Try.prog (ctxOf [(184, .pure RLeaf)]) := rely_cons b_impl_leaf.has s_impl_leaf (rely_nil mixed)
  refine pure_of_aw b_impl_exprParts ?_
  rintro xs r objs ⟨n, rfl, rfl, rfl⟩ -
  refine ⟨by simp, vc2_sound hR _ _ _ _ _ ?_⟩
  conv => whnf
  repeat' (first
    | (refine And.intro (fun hb => ?_) (fun hb => ?_)
       all_goals (try simp only [decide_eq_true_eq, decide_eq_false_iff_not, Bool.not_eq_true', Bool.not_eq_false', Bool.not_not, ne_eq, length_ints, List.length_map, beq_iff_eq, bne_iff_ne, beq_eq_false_iff_ne, bne_eq_false_iff_eq, Int.not_le, Int.not_lt, ge_iff_le, gt_iff_lt, reduceCtorEq, not_false_eq_true, not_true_eq_false, Bool.false_eq_true, Bool.true_eq_false] at hb)
       all_goals (try (exfalso; omega))
       all_goals conv => whnf)
    | (refine And.intro (live_all rfl) ?_; conv => whnf)
    | (refine And.intro rfl ?_; conv => whnf)
    | (refine ⟨_, IntWalk.i64_in _ (by omega), ?_⟩; conv => whnf)
    | (refine And.intro (okcs_all rfl) ?_; conv => whnf)
    | (refine And.intro (okvs_all rfl) ?_; conv => whnf)
    | (refine And.intro (frees_all rfl) ?_; conv => whnf)
    | (refine And.intro (bsl_all rfl) ?_; conv => whnf)
    | (refine And.intro (lens_all rfl) ?_; conv => whnf)
    | (refine And.intro (Nat.le_of_ble_eq_true rfl) ?_; conv => whnf)
    | (rw [ints_at (by omega)]; conv => whnf)
    | (rw [ints_at0 (by omega)]; conv => whnf)
    | (rw [ints_at' (by omega) (by omega)]; conv => whnf)
    | (refine And.intro (show (_ + 1) * _ ≤ _ by omega) ?_; conv => whnf)
    | (refine And.intro (show _ + 1 ≤ _ by omega) ?_; conv => whnf)
    | (refine And.intro (by first | omega | (simp only [length_ints]; omega)) ?_; conv => whnf)
    | (refine ⟨_, _, RLeaf_mk (n := n), ?_⟩; conv => whnf)
    | fail)
  all_goals
    refine ⟨.inl rfl, ?_⟩
    conv => whnf
    refine ⟨[], ⟨rfl, trivial⟩, ?_, rfl, rfl⟩
    conv => whnf
    left
    conv => lhs; whnf
    refine congrArg (AV.int .i64) ?_
    simp only [partsE]
    (repeat' split) <;> first | rfl | omega

def partsL (n : NodeD) : Int := if n.kind = 7 ∨ n.kind = 10 ∨ n.kind = 11 then 1 else if n.kind = 8 ∨ n.kind = 9 then 2 else partsE n
def RPartsL (xs : List AV) (r : AV) (objs : List AObj) : Prop := ∃ n, xs = [.agg (nodeRow n)] ∧ r = .int .i64 (partsL n) ∧ objs = []
theorem RPartsL_mk {n : NodeD} : RPartsL [.agg (nodeRow n)] (.int .i64 (partsL n)) [] := ⟨n, rfl, rfl, rfl⟩

theorem s_impl_ltlParts : PureSound Try.prog 97 RPartsL := by
  have hR : Rely Try.prog (ctxOf [(146, .pure RPartsE)]) := rely_cons b_impl_exprParts.has s_impl_exprParts (rely_nil mixed)
  refine pure_of_aw b_impl_ltlParts ?_
  rintro xs r objs ⟨n, rfl, rfl, rfl⟩ -
  refine ⟨by simp, vc2_sound hR _ _ _ _ _ ?_⟩
  conv => whnf
  repeat' (first
    | (refine And.intro (fun hb => ?_) (fun hb => ?_)
       all_goals (try simp only [decide_eq_true_eq, decide_eq_false_iff_not, Bool.not_eq_true', Bool.not_eq_false', Bool.not_not, ne_eq, length_ints, List.length_map, beq_iff_eq, bne_iff_ne, beq_eq_false_iff_ne, bne_eq_false_iff_eq, Int.not_le, Int.not_lt, ge_iff_le, gt_iff_lt, reduceCtorEq, not_false_eq_true, not_true_eq_false, Bool.false_eq_true, Bool.true_eq_false] at hb)
       all_goals (try (exfalso; omega))
       all_goals conv => whnf)
    | (refine And.intro (live_all rfl) ?_; conv => whnf)
    | (refine And.intro rfl ?_; conv => whnf)
    | (refine ⟨_, IntWalk.i64_in _ (by omega), ?_⟩; conv => whnf)
    | (refine And.intro (okcs_all rfl) ?_; conv => whnf)
    | (refine And.intro (okvs_all rfl) ?_; conv => whnf)
    | (refine And.intro (frees_all rfl) ?_; conv => whnf)
    | (refine And.intro (bsl_all rfl) ?_; conv => whnf)
    | (refine And.intro (lens_all rfl) ?_; conv => whnf)
    | (refine And.intro (Nat.le_of_ble_eq_true rfl) ?_; conv => whnf)
    | (rw [ints_at (by omega)]; conv => whnf)
    | (rw [ints_at0 (by omega)]; conv => whnf)
    | (rw [ints_at' (by omega) (by omega)]; conv => whnf)
    | (refine And.intro (show (_ + 1) * _ ≤ _ by omega) ?_; conv => whnf)
    | (refine And.intro (show _ + 1 ≤ _ by omega) ?_; conv => whnf)
    | (refine And.intro (by first | omega | (simp only [length_ints]; omega)) ?_; conv => whnf)
    | (refine ⟨_, _, RPartsE_mk (n := n), ?_⟩; conv => whnf)
    | fail)
  all_goals
    refine ⟨.inl rfl, ?_⟩
    conv => whnf
    refine ⟨[], ⟨rfl, trivial⟩, ?_, rfl, rfl⟩
    conv => whnf
    left
    conv => lhs; whnf
    refine congrArg (AV.int .i64) ?_
    simp only [partsL]
    (repeat' split) <;> first | rfl | omega

def leafS (n : NodeD) : Bool := if n.kind = 3 then decide (0 ≤ n.a ∧ n.a ≤ 2) else decide (n.a = 0)
def RLeafS (xs : List AV) (r : AV) (objs : List AObj) : Prop := ∃ n, xs = [.agg (nodeRow n)] ∧ r = .bool (leafS n) ∧ objs = []
theorem RLeafS_mk {n : NodeD} : RLeafS [.agg (nodeRow n)] (.bool (leafS n)) [] := ⟨n, rfl, rfl, rfl⟩

theorem s_spec_l2Leaf : PureSound Try.prog 99 RLeafS := by
  have hR : Rely Try.prog (ctxOf [(69, .pure RIn)]) := rely_cons b_spec_l1In.has s_spec_l1In (rely_nil mixed)
  refine pure_of_aw b_spec_l2Leaf ?_
  rintro xs r objs ⟨n, rfl, rfl, rfl⟩ -
  refine ⟨by simp, vc2_sound hR _ _ _ _ _ ?_⟩
  conv => whnf
  repeat' (first
    | (refine And.intro (fun hb => ?_) (fun hb => ?_)
       all_goals (try simp only [decide_eq_true_eq, decide_eq_false_iff_not, Bool.not_eq_true', Bool.not_eq_false', Bool.not_not, ne_eq, length_ints, List.length_map, beq_iff_eq, bne_iff_ne, beq_eq_false_iff_ne, bne_eq_false_iff_eq, Int.not_le, Int.not_lt, ge_iff_le, gt_iff_lt, reduceCtorEq, not_false_eq_true, not_true_eq_false, Bool.false_eq_true, Bool.true_eq_false] at hb)
       all_goals (try (exfalso; omega))
       all_goals conv => whnf)
    | (refine And.intro (live_all rfl) ?_; conv => whnf)
    | (refine And.intro rfl ?_; conv => whnf)
    | (refine ⟨_, IntWalk.i64_in _ (by omega), ?_⟩; conv => whnf)
    | (refine And.intro (okcs_all rfl) ?_; conv => whnf)
    | (refine And.intro (okvs_all rfl) ?_; conv => whnf)
    | (refine And.intro (frees_all rfl) ?_; conv => whnf)
    | (refine And.intro (bsl_all rfl) ?_; conv => whnf)
    | (refine And.intro (lens_all rfl) ?_; conv => whnf)
    | (refine And.intro (Nat.le_of_ble_eq_true rfl) ?_; conv => whnf)
    | (rw [ints_at (by omega)]; conv => whnf)
    | (rw [ints_at0 (by omega)]; conv => whnf)
    | (rw [ints_at' (by omega) (by omega)]; conv => whnf)
    | (refine And.intro (show (_ + 1) * _ ≤ _ by omega) ?_; conv => whnf)
    | (refine And.intro (show _ + 1 ≤ _ by omega) ?_; conv => whnf)
    | (refine And.intro (by first | omega | (simp only [length_ints]; omega)) ?_; conv => whnf)
    | (refine ⟨_, _, RIn_mk, ?_⟩; conv => whnf)
    | fail)
  all_goals
    refine ⟨.inl rfl, ?_⟩
    conv => whnf
    refine ⟨[], ⟨rfl, trivial⟩, ?_, rfl, rfl⟩
    conv => whnf
    left
    conv => lhs; whnf
    refine congrArg AV.bool ?_
    simp_all [leafS]

def partsS (k : Int) : Int := if k = 1 ∨ k = 2 ∨ k = 3 then 0 else if k = 4 ∨ k = 7 ∨ k = 10 ∨ k = 11 then 1 else if k = 5 ∨ k = 6 ∨ k = 8 ∨ k = 9 then 2 else -1
def RPartsS (xs : List AV) (r : AV) (objs : List AObj) : Prop := ∃ k, xs = [.int .i64 k] ∧ r = .int .i64 (partsS k) ∧ objs = []
theorem RPartsS_mk {k : Int} : RPartsS [.int .i64 k] (.int .i64 (partsS k)) [] := ⟨k, rfl, rfl, rfl⟩

theorem s_spec_l8Parts : PureSound Try.prog 98 RPartsS := by
  have hR : Rely Try.prog (ctxOf []) := rely_nil mixed
  refine pure_of_aw b_spec_l8Parts ?_
  rintro xs r objs ⟨k, rfl, rfl, rfl⟩ -
  refine ⟨by simp, vc2_sound hR _ _ _ _ _ ?_⟩
  conv => whnf
  repeat' (first
    | (refine And.intro (fun hb => ?_) (fun hb => ?_)
       all_goals (try simp only [decide_eq_true_eq, decide_eq_false_iff_not, Bool.not_eq_true', Bool.not_eq_false', Bool.not_not, ne_eq, length_ints, List.length_map, beq_iff_eq, bne_iff_ne, beq_eq_false_iff_ne, bne_eq_false_iff_eq, Int.not_le, Int.not_lt, ge_iff_le, gt_iff_lt, reduceCtorEq, not_false_eq_true, not_true_eq_false, Bool.false_eq_true, Bool.true_eq_false] at hb)
       all_goals (try (exfalso; omega))
       all_goals conv => whnf)
    | (refine And.intro (live_all rfl) ?_; conv => whnf)
    | (refine And.intro rfl ?_; conv => whnf)
    | (refine ⟨_, IntWalk.i64_in _ (by omega), ?_⟩; conv => whnf)
    | (refine And.intro (okcs_all rfl) ?_; conv => whnf)
    | (refine And.intro (okvs_all rfl) ?_; conv => whnf)
    | (refine And.intro (frees_all rfl) ?_; conv => whnf)
    | (refine And.intro (bsl_all rfl) ?_; conv => whnf)
    | (refine And.intro (lens_all rfl) ?_; conv => whnf)
    | (refine And.intro (Nat.le_of_ble_eq_true rfl) ?_; conv => whnf)
    | (rw [ints_at (by omega)]; conv => whnf)
    | (rw [ints_at0 (by omega)]; conv => whnf)
    | (rw [ints_at' (by omega) (by omega)]; conv => whnf)
    | (refine And.intro (show (_ + 1) * _ ≤ _ by omega) ?_; conv => whnf)
    | (refine And.intro (show _ + 1 ≤ _ by omega) ?_; conv => whnf)
    | (refine And.intro (by first | omega | (simp only [length_ints]; omega)) ?_; conv => whnf)
    | fail)
  all_goals
    refine ⟨.inl rfl, ?_⟩
    conv => whnf
    refine ⟨[], ⟨rfl, trivial⟩, ?_, rfl, rfl⟩
    conv => whnf
    left
    conv => lhs; whnf
    refine congrArg (AV.int .i64) ?_
    simp only [partsS]
    (repeat' split) <;> first | rfl | omega

end Go.Proofs.Ytpfbkblgefddlaa.Ct

namespace Go.Proofs.Ytpfbkblgefddlaa.Ct
set_option linter.unusedSimpArgs false
set_option linter.unusedVariables false
open Go Go.Proofs Go.Proofs.Ytpfbkblgefddlaa.Av

/-- the size of the tree that ends at place i, ahead of which there are trees of these sizes -/
def sizeAt (n : NodeD) (p : Int) (i : Nat) (out : List Int) : Option Int :=
  if p = 1 then (if i < 1 ∨ n.a ≠ i - 1 ∨ n.b ≠ 0 then none else some (1 + out.getD (i - 1) 0))
  else if p = 2 then (if i < 2 ∨ n.b ≠ i - 1 then none else
    if (i : Int) - 1 - out.getD (i - 1) 0 < 0 ∨ n.a ≠ (i : Int) - 1 - out.getD (i - 1) 0 then none else some (1 + out.getD (i - 1) 0 + out.getD ((i : Int) - 1 - out.getD (i - 1) 0).toNat 0))
  else if n.b ≠ 0 then none else some 1

/-- the sizes of the first i trees -/
def sizes (l : List NodeD) (ps : List Int) : Nat → Option (List Int)
  | 0 => some []
  | i + 1 => match sizes l ps i with
    | some out => (sizeAt (l.getD i default) (ps.getD i 0) i out).map fun s => out ++ [s]
    | none => none

theorem sizes_none {l : List NodeD} {ps : List Int} {i : Nat} (h : sizes l ps i = none) : ∀ j, i ≤ j → sizes l ps j = none
  | 0, hj => by have : i = 0 := by omega
                subst this; exact h
  | j + 1, hj => by
    by_cases he : i = j + 1
    · subst he; exact h
    · simp only [sizes, sizes_none h j (by omega)]

/-- sizes are from 1 on, and no tree begins ahead of the list -/
theorem sizes_bound {l : List NodeD} {ps : List Int} : ∀ (i : Nat) (out : List Int), sizes l ps i = some out → out.length = i ∧ ∀ j, j < i → 1 ≤ out.getD j 0 ∧ out.getD j 0 ≤ j + 1
  | 0, out, h => by simp [sizes] at h; subst h; simp
  | i + 1, out, h => by
    simp only [sizes] at h
    split at h
    · rename_i o ho
      obtain ⟨s, hs, rfl⟩ := Option.map_eq_some_iff.1 h
      obtain ⟨h1, h2⟩ := sizes_bound i o ho
      refine ⟨by simp [h1], fun j hj => ?_⟩
      by_cases hji : j < i
      · have := h2 j hji
        rw [List.getD_eq_getElem?_getD, List.getElem?_append, if_pos (by omega), ← List.getD_eq_getElem?_getD]
        exact this
      · have hj' : j = i := by omega
        subst hj'
        have e : (o ++ [s]).getD j 0 = s := by
          rw [List.getD_eq_getElem?_getD, List.getElem?_append, if_neg (by omega)]
          simp [h1]
        rw [e]
        unfold sizeAt at hs
        split at hs
        · split at hs
          · cases hs
          · cases hs
            have := h2 (j - 1) (by omega)
            omega
        · split at hs
          · split at hs
            · cases hs
            · split at hs
              · cases hs
              · cases hs
                have a1 := h2 (j - 1) (by omega)
                have a2 := h2 ((j : Int) - 1 - o.getD (j - 1) 0).toNat (by omega)
                omega
          · split at hs
            · cases hs
            · cases hs; omega
    · cases h

def c_spec_l2Sizes : ICode := (.seq (.reg [⟨(some 4), .mv, [(.c .snil)], none⟩]) (.seq (.reg [⟨(some 10), .bsle, [], none⟩, ⟨(some 5), .mv, [(.t 10)], none⟩]) (.seq (.seq (.reg [⟨(some 6), .mv, [(.c (.int .i64 0))], none⟩]) (.block 0 (.loop (.seq (.seq (.reg [⟨(some 11), .mv, [(.t 6)], none⟩, ⟨(some 12), .mv, [(.t 0)], none⟩, ⟨(some 13), .len, [(.t 12)], none⟩, ⟨(some 14), (.bin .lss), [(.t 11), (.t 13)], none⟩]) (.cond (.t 14) .skip (.exit 0))) (.seq (.block 1 (.seq (.reg [⟨(some 17), .mv, [(.t 0)], none⟩, ⟨(some 18), .mv, [(.t 6)], none⟩, ⟨(some 19), (.iadr 3), [(.t 17), (.t 18)], none⟩, ⟨(some 20), (.ldn 3), [(.t 19)], none⟩, ⟨(some 7), (.alc [(.int .i64 0), (.int .i64 0), (.int .i64 0)]), [], none⟩, ⟨none, (.st 3), [(.t 7), (.t 20)], none⟩]) (.seq (.reg [⟨(some 8), .mv, [(.c (.int .i64 1))], none⟩]) (.seq (.seq (.reg [⟨(some 21), .mv, [(.t 1)], none⟩, ⟨(some 22), .mv, [(.t 6)], none⟩, ⟨(some 23), (.iadr 1), [(.t 21), (.t 22)], none⟩, ⟨(some 24), .ld1, [(.t 23)], none⟩]) (.block 2 (.seq (.reg [⟨(some 30), (.bin .eql), [(.t 24), (.c (.int .i64 1))], none⟩, ⟨(some 29), .mv, [(.t 30)], none⟩]) (.cond (.t 29) (.seq (.seq (.reg [⟨(some 31), .mv, [(.t 6)], none⟩, ⟨(some 32), (.bin .lss), [(.t 31), (.c (.int .i64 1))], none⟩, ⟨(some 33), .mv, [(.t 32)], none⟩, ⟨(some 34), (.fadr 1), [(.t 7)], (some (33, false))⟩, ⟨(some 35), .ld1, [(.t 34)], (some (33, false))⟩, ⟨(some 36), .mv, [(.t 6)], (some (33, false))⟩, ⟨(some 37), (.bin .sub), [(.t 36), (.c (.int .i64 1))], (some (33, false))⟩, ⟨(some 38), (.bin .neq), [(.t 35), (.t 37)], (some (33, false))⟩, ⟨(some 39), .pick, [(.t 33), (.c (.bool true)), (.t 38)], none⟩, ⟨(some 40), .mv, [(.t 39)], none⟩, ⟨(some 41), (.fadr 2), [(.t 7)], (some (40, false))⟩, ⟨(some 42), .ld1, [(.t 41)], (some (40, false))⟩, ⟨(some 43), (.bin .neq), [(.t 42), (.c (.int .i64 0))], (some (40, false))⟩, ⟨(some 44), .pick, [(.t 40), (.c (.bool true)), (.t 43)], none⟩]) (.cond (.t 44) (.seq (.reg [⟨(some 45), .bsle, [], none⟩, ⟨(some 4), .mv, [(.t 45)], none⟩]) .ret) .skip)) (.reg [⟨(some 46), .mv, [(.t 5)], none⟩, ⟨(some 47), .mv, [(.t 6)], none⟩, ⟨(some 48), (.bin .sub), [(.t 47), (.c (.int .i64 1))], none⟩, ⟨(some 49), (.iadr 1), [(.t 46), (.t 48)], none⟩, ⟨(some 50), .ld1, [(.t 49)], none⟩, ⟨(some 51), (.bin .add), [(.c (.int .i64 1)), (.t 50)], none⟩, ⟨(some 8), .mv, [(.t 51)], none⟩])) (.seq (.reg [⟨(some 53), (.bin .eql), [(.t 24), (.c (.int .i64 2))], none⟩, ⟨(some 52), .mv, [(.t 53)], none⟩]) (.cond (.t 52) (.seq (.seq (.reg [⟨(some 54), .mv, [(.t 6)], none⟩, ⟨(some 55), (.bin .lss), [(.t 54), (.c (.int .i64 2))], none⟩, ⟨(some 56), .mv, [(.t 55)], none⟩, ⟨(some 57), (.fadr 2), [(.t 7)], (some (56, false))⟩, ⟨(some 58), .ld1, [(.t 57)], (some (56, false))⟩, ⟨(some 59), .mv, [(.t 6)], (some (56, false))⟩, ⟨(some 60), (.bin .sub), [(.t 59), (.c (.int .i64 1))], (some (56, false))⟩, ⟨(some 61), (.bin .neq), [(.t 58), (.t 60)], (some (56, false))⟩, ⟨(some 62), .pick, [(.t 56), (.c (.bool true)), (.t 61)], none⟩]) (.cond (.t 62) (.seq (.reg [⟨(some 63), .bsle, [], none⟩, ⟨(some 4), .mv, [(.t 63)], none⟩]) .ret) .skip)) (.seq (.reg [⟨(some 64), .mv, [(.t 6)], none⟩, ⟨(some 65), (.bin .sub), [(.t 64), (.c (.int .i64 1))], none⟩, ⟨(some 66), .mv, [(.t 5)], none⟩, ⟨(some 67), .mv, [(.t 6)], none⟩, ⟨(some 68), (.bin .sub), [(.t 67), (.c (.int .i64 1))], none⟩, ⟨(some 69), (.iadr 1), [(.t 66), (.t 68)], none⟩, ⟨(some 70), .ld1, [(.t 69)], none⟩, ⟨(some 71), (.bin .sub), [(.t 65), (.t 70)], none⟩, ⟨(some 9), .mv, [(.t 71)], none⟩]) (.seq (.seq (.reg [⟨(some 72), .mv, [(.t 9)], none⟩, ⟨(some 73), (.bin .lss), [(.t 72), (.c (.int .i64 0))], none⟩, ⟨(some 74), .mv, [(.t 73)], none⟩, ⟨(some 75), (.fadr 1), [(.t 7)], (some (74, false))⟩, ⟨(some 76), .ld1, [(.t 75)], (some (74, false))⟩, ⟨(some 77), .mv, [(.t 9)], (some (74, false))⟩, ⟨(some 78), (.bin .neq), [(.t 76), (.t 77)], (some (74, false))⟩, ⟨(some 79), .pick, [(.t 74), (.c (.bool true)), (.t 78)], none⟩]) (.cond (.t 79) (.seq (.reg [⟨(some 80), .bsle, [], none⟩, ⟨(some 4), .mv, [(.t 80)], none⟩]) .ret) .skip)) (.drw [⟨(some 81), .mv, [(.t 5)], none⟩, ⟨(some 82), .mv, [(.t 6)], none⟩, ⟨(some 83), (.bin .sub), [(.t 82), (.c (.int .i64 1))], none⟩, ⟨(some 84), (.iadr 1), [(.t 81), (.t 83)], none⟩, ⟨(some 85), .ld1, [(.t 84)], none⟩, ⟨(some 86), (.bin .add), [(.c (.int .i64 1)), (.t 85)], none⟩, ⟨(some 87), .mv, [(.t 5)], none⟩, ⟨(some 88), .mv, [(.t 9)], none⟩, ⟨(some 89), (.iadr 1), [(.t 87), (.t 88)], none⟩, ⟨(some 90), .ld1, [(.t 89)], none⟩, ⟨(some 91), (.bin .add), [(.t 86), (.t 90)], none⟩, ⟨(some 8), .mv, [(.t 91)], none⟩] [[], [], [1], [0, 1, 2], [0, 1, 2, 3], [0, 1, 2, 3, 4], [], [], [6, 7], [6, 7, 8], [0, 1, 2, 3, 4, 5, 6, 7, 8, 9], [0, 1, 2, 3, 4, 5, 6, 7, 8, 9, 10]] true true)))) (.seq (.reg [⟨(some 25), (.fadr 2), [(.t 7)], none⟩, ⟨(some 26), .ld1, [(.t 25)], none⟩, ⟨(some 27), (.bin .neq), [(.t 26), (.c (.int .i64 0))], none⟩]) (.cond (.t 27) (.seq (.reg [⟨(some 28), .bsle, [], none⟩, ⟨(some 4), .mv, [(.t 28)], none⟩]) .ret) .skip)))))))) (.reg [⟨(some 92), .mv, [(.t 5)], none⟩, ⟨(some 93), .mv, [(.t 8)], none⟩, ⟨(some 94), (.bslv 1), [(.t 93)], none⟩, ⟨(some 95), (.app 1 8), [(.t 92), (.t 94)], none⟩, ⟨(some 5), .mv, [(.t 95)], none⟩]))))) (.reg [⟨(some 15), .mv, [(.t 6)], none⟩, ⟨(some 16), (.bin .add), [(.t 15), (.c (.int .i64 1))], none⟩, ⟨(some 6), .mv, [(.t 16)], none⟩])))))) (.seq (.reg [⟨(some 96), .mv, [(.t 5)], none⟩, ⟨(some 4), .mv, [(.t 96)], none⟩]) .ret))))
theorem b_spec_l2Sizes : Body Try.prog 100 97 c_spec_l2Sizes [(.t 4)] := by
  have h1 : comp Try.prog 97 (Try.f100.body.getD .skip) = some c_spec_l2Sizes := by kernel_rfl
  have h2 : Try.f100.body = some (Try.f100.body.getD .skip) := by kernel_rfl
  have h3 : Try.f100.results.toList.map (cRes Try.prog) = [(some (.t 4))] := by kernel_rfl
  exact ⟨_, _, Try.func100, h2, Try.ntmps100, h1, h3, by decide⟩


def sizesL (l : List NodeD) (ps : List Int) : List Int := (sizes l ps l.length).getD []

def RSizes (xs : List AV) (r : AV) (objs : List AObj) : Prop := ∃ l ps, xs = [.val (nodeRows l), .val (ints ps)] ∧ ps.length = l.length ∧ l.length ≤ 31 ∧ r = .ref 0 0 (sizesL l ps).length ∧ objs = [.arr 1 (ints (sizesL l ps))]
theorem RSizes_mk {l : List NodeD} {ps : List Int} (h1 : ps.length = l.length) (h2 : l.length ≤ 31) : RSizes [.val (nodeRows l), .val (ints ps)] (.ref 0 0 (sizesL l ps).length) [.arr 1 (ints (sizesL l ps))] := ⟨l, ps, rfl, h1, h2, rfl, rfl⟩

theorem node_at {l : List NodeD} {i : Nat} (h : i < l.length) : (nodeRows l)[((i : Nat) : Int).toNat]? = some (nodeRow (l.getD i default)) := map_at h
theorem length_nodeRows (l : List NodeD) : (nodeRows l).length = l.length := by simp [nodeRows]
theorem ints_prev {l : List Int} {i : Nat} (h : i ≤ l.length) (h0 : 0 < i) : (ints l)[0 + (((i : Nat) : Int) - 1).toNat]? = some [.int .i64 (l.getD (i - 1) 0)] := by
  have e : (((i : Nat) : Int) - 1).toNat = i - 1 := by omega
  rw [Nat.zero_add, e]
  have hx : i - 1 < l.length := by omega
  simp [ints, List.getElem?_eq_getElem hx, List.getD_eq_getElem?_getD]

theorem ints_atJ {l : List Int} {x : Int} (h0 : 0 ≤ x) (h1 : x < l.length) : (ints l)[0 + x.toNat]? = some [.int .i64 (l.getD x.toNat 0)] := by
  rw [Nat.zero_add]
  have hx : x.toNat < l.length := by omega
  simp [ints, List.getElem?_eq_getElem hx, List.getD_eq_getElem?_getD]

theorem app_int (l : List Int) (x : Int) (i : Nat) (h : i = l.length) : List.take i (ints l) ++ [[.int .i64 x]] = ints (l ++ [x]) := by
  rw [List.take_of_length_le (by simp [ints]; omega)]
  simp [ints]

theorem sizes_fail {l : List NodeD} {ps : List Int} {i : Nat} {out : List Int} (hi : i < l.length) (h : sizes l ps i = some out) (hf : sizeAt (l.getD i default) (ps.getD i 0) i out = none) : sizesL l ps = [] := by
  have h1 : sizes l ps (i + 1) = none := by simp only [sizes, h, hf, Option.map_none]
  unfold sizesL
  rw [sizes_none h1 l.length (by omega)]
  rfl
theorem sizes_next {l : List NodeD} {ps : List Int} {i : Nat} {out : List Int} {s : Int} (h : sizes l ps i = some out) (hs : sizeAt (l.getD i default) (ps.getD i 0) i out = some s) : sizes l ps (i + 1) = some (out ++ [s]) := by
  simp only [sizes, h, hs, Option.map_some]

set_option maxHeartbeats 2000000 in
theorem s_spec_l2Sizes : PureSound Try.prog 100 RSizes := by
  have hR : Rely Try.prog (ctxOf []) := rely_nil mixed
  refine pure_of_aw b_spec_l2Sizes ?_
  rintro xs r objs ⟨l, ps, rfl, hp, hl, rfl, rfl⟩ -
  have hln := length_nodeRows l
  have hlp := length_ints ps
  refine ⟨by simp, vc2_sound hR _ _ _ _ _ ?_⟩
  conv => whnf
  repeat' (first
    | (refine And.intro (fun hb => ?_) (fun hb => ?_)
       all_goals (try simp only [decide_eq_true_eq, decide_eq_false_iff_not, Bool.not_eq_true', Bool.not_eq_false', Bool.not_not, ne_eq, length_ints, List.length_map, beq_iff_eq, bne_iff_ne, beq_eq_false_iff_ne, bne_eq_false_iff_eq, Int.not_le, Int.not_lt, ge_iff_le, gt_iff_lt, reduceCtorEq, not_false_eq_true, not_true_eq_false, Bool.false_eq_true, Bool.true_eq_false] at hb)
       all_goals (try (exfalso; omega))
       all_goals conv => whnf)
    | (refine And.intro (live_all rfl) ?_; conv => whnf)
    | (refine And.intro rfl ?_; conv => whnf)
    | (refine ⟨_, IntWalk.i64_in _ (by omega), ?_⟩; conv => whnf)
    | (refine And.intro (okcs_all rfl) ?_; conv => whnf)
    | (refine And.intro (okvs_all rfl) ?_; conv => whnf)
    | (refine And.intro (frees_all rfl) ?_; conv => whnf)
    | (refine And.intro (bsl_all rfl) ?_; conv => whnf)
    | (refine And.intro (lens_all rfl) ?_; conv => whnf)
    | (refine And.intro (Nat.le_of_ble_eq_true rfl) ?_; conv => whnf)
    | (rw [ints_at (by omega)]; conv => whnf)
    | (rw [ints_at0 (by omega)]; conv => whnf)
    | (rw [ints_at' (by omega) (by omega)]; conv => whnf)
    | (refine And.intro (show (_ + 1) * _ ≤ _ by omega) ?_; conv => whnf)
    | (refine And.intro (show _ + 1 ≤ _ by omega) ?_; conv => whnf)
    | (refine And.intro (by first | omega | (simp only [length_ints]; omega)) ?_; conv => whnf)
    | fail)
  refine Lp.intro (α := Nat × List Int) (fun a => a.1 ≤ l.length ∧ sizes l ps a.1 = some a.2 ∧ a.2.length = a.1) (fun a => l.length - a.1) (fun a => [(0, .val (nodeRows l)), (1, .val (ints ps)), (5, .ref 0 0 a.1), (6, .int .i64 a.1)]) (fun a => [some (.arr 1 (ints a.2))]) ?_ ?_
  · refine ⟨(0, []), ⟨by simp, rfl, rfl⟩, [none], rfl, rfl, And.intro rfl trivial, ?_⟩
    repeat' (first
      | exact trivial
      | refine ⟨?_, ?_⟩
      | fail)
    all_goals first
      | with_reducible rfl
      | (conv => whnf
         try left
         conv => lhs; whnf
         first
           | rfl
           | exact congrArg (AV.int .i64) (by omega)
           | skip)
  · rintro ⟨i, out⟩ ⟨hi, hsz, hlen⟩
    dsimp only at hi hsz hlen ⊢
    have hlo := length_ints out
    obtain ⟨_, hbnd⟩ := sizes_bound i out hsz
    have hprev : 0 < i → 1 ≤ out.getD (i - 1) 0 ∧ out.getD (i - 1) 0 ≤ i := fun h0 => by
      have := hbnd (i - 1) (by omega)
      omega
    have hall : ∀ x : Int, 0 ≤ x → x < i → 1 ≤ out.getD x.toNat 0 ∧ out.getD x.toNat 0 ≤ i := fun x h0 h1 => by
      have := hbnd x.toNat (by omega)
      omega
    refine vc2_sound hR _ _ _ _ _ ?_
    by_cases h0 : 0 < i
    · have hp1 := hprev h0
      have hp2 := hall ((i : Int) - 1 - out.getD (i - 1) 0)
      conv => whnf
      repeat' (first
        | (refine And.intro (fun hb => ?_) (fun hb => ?_)
           all_goals (try simp only [decide_eq_true_eq, decide_eq_false_iff_not, Bool.not_eq_true', Bool.not_eq_false', Bool.not_not, ne_eq, length_ints, List.length_map, beq_iff_eq, bne_iff_ne, beq_eq_false_iff_ne, bne_eq_false_iff_eq, Int.not_le, Int.not_lt, ge_iff_le, gt_iff_lt, reduceCtorEq, not_false_eq_true, not_true_eq_false, Bool.false_eq_true, Bool.true_eq_false] at hb)
           all_goals (try (exfalso; omega))
           all_goals conv => whnf)
        | (refine And.intro (live_all rfl) ?_; conv => whnf)
        | (refine And.intro rfl ?_; conv => whnf)
        | (refine ⟨_, IntWalk.i64_in _ (by omega), ?_⟩; conv => whnf)
        | (refine And.intro (okcs_all rfl) ?_; conv => whnf)
        | (refine And.intro (okvs_all rfl) ?_; conv => whnf)
        | (refine And.intro (frees_all rfl) ?_; conv => whnf)
        | (refine And.intro (bsl_all rfl) ?_; conv => whnf)
        | (refine And.intro (lens_all rfl) ?_; conv => whnf)
        | (refine And.intro (Nat.le_of_ble_eq_true rfl) ?_; conv => whnf)
        | (rw [ints_at (by omega)]; conv => whnf)
        | (rw [ints_at0 (by omega)]; conv => whnf)
        | (rw [ints_at' (by omega) (by omega)]; conv => whnf)
        | (refine And.intro (show (_ + 1) * _ ≤ _ by omega) ?_; conv => whnf)
        | (refine And.intro (show _ + 1 ≤ _ by omega) ?_; conv => whnf)
        | (refine And.intro (by first | omega | (simp only [length_ints]; omega)) ?_; conv => whnf)
        | (rw [node_at (by omega)]; conv => whnf)
        | (rw [ints_prev (by omega) (by omega)]; conv => whnf)
        | (rw [ints_atJ (by omega) (by omega)]; conv => whnf)
        | fail)
      all_goals first
        | (have e := sizes_fail (by omega) hsz (by simp only [sizeAt]; (repeat' split) <;> first | rfl | omega)
           rw [e]
           refine ⟨.inl rfl, ?_⟩
           conv => whnf
           exact ⟨[none], ⟨rfl, And.intro rfl trivial⟩, ⟨rfl, rfl, rfl⟩, rfl, by simp [AObj.nov, ints]⟩)
        | (have hil : i = l.length := by omega
           have e : sizesL l ps = out := by unfold sizesL; rw [← hil, hsz]; rfl
           rw [e]
           refine ⟨.inl rfl, ?_⟩
           conv => whnf
           refine ⟨[some 0], ⟨rfl, And.intro (And.intro rfl rfl) trivial⟩, ?_, rfl, by simp [AObj.nov, ints_nov]⟩
           show AV.ref 0 0 i = AV.ref 0 0 out.length
           rw [hlen])
        | skip
      · refine ⟨(i + 1, out ++ [1 + out.getD (i - 1) 0]), ⟨by dsimp only; omega, sizes_next hsz (by simp only [sizeAt]; (repeat' split) <;> first | rfl | omega), by simp [hlen]⟩, by dsimp only; omega, [some 2], rfl, rfl, And.intro (And.intro rfl (app_int out _ i hlen.symm)) trivial, ?_⟩
        repeat' (first
          | exact trivial
          | refine ⟨?_, ?_⟩
          | fail)
        all_goals first
          | with_reducible rfl
          | (conv => whnf
             try left
             conv => lhs; whnf
             first
               | rfl
               | exact congrArg (AV.int .i64) (by omega)
               | skip)
      · refine ⟨(i + 1, out ++ [1 + out.getD (i - 1) 0 + out.getD ((i : Int) - 1 - out.getD (i - 1) 0).toNat 0]), ⟨by dsimp only; omega, sizes_next hsz (by simp only [sizeAt]; (repeat' split) <;> first | rfl | omega), by simp [hlen]⟩, by dsimp only; omega, [some 2], rfl, rfl, And.intro (And.intro rfl (app_int out _ i hlen.symm)) trivial, ?_⟩
        repeat' (first
          | exact trivial
          | refine ⟨?_, ?_⟩
          | fail)
        all_goals first
          | with_reducible rfl
          | (conv => whnf
             try left
             conv => lhs; whnf
             first
               | rfl
               | exact congrArg (AV.int .i64) (by omega)
               | skip)
      · refine ⟨(i + 1, out ++ [1]), ⟨by dsimp only; omega, sizes_next hsz (by simp only [sizeAt]; (repeat' split) <;> first | rfl | omega), by simp [hlen]⟩, by dsimp only; omega, [some 2], rfl, rfl, And.intro (And.intro rfl (app_int out _ i hlen.symm)) trivial, ?_⟩
        repeat' (first
          | exact trivial
          | refine ⟨?_, ?_⟩
          | fail)
        all_goals first
          | with_reducible rfl
          | (conv => whnf
             try left
             conv => lhs; whnf
             first
               | rfl
               | exact congrArg (AV.int .i64) (by omega)
               | skip)
    · conv => whnf
      repeat' (first
        | (refine And.intro (fun hb => ?_) (fun hb => ?_)
           all_goals (try simp only [decide_eq_true_eq, decide_eq_false_iff_not, Bool.not_eq_true', Bool.not_eq_false', Bool.not_not, ne_eq, length_ints, List.length_map, beq_iff_eq, bne_iff_ne, beq_eq_false_iff_ne, bne_eq_false_iff_eq, Int.not_le, Int.not_lt, ge_iff_le, gt_iff_lt, reduceCtorEq, not_false_eq_true, not_true_eq_false, Bool.false_eq_true, Bool.true_eq_false] at hb)
           all_goals (try (exfalso; omega))
           all_goals conv => whnf)
        | (refine And.intro (live_all rfl) ?_; conv => whnf)
        | (refine And.intro rfl ?_; conv => whnf)
        | (refine ⟨_, IntWalk.i64_in _ (by omega), ?_⟩; conv => whnf)
        | (refine And.intro (okcs_all rfl) ?_; conv => whnf)
        | (refine And.intro (okvs_all rfl) ?_; conv => whnf)
        | (refine And.intro (frees_all rfl) ?_; conv => whnf)
        | (refine And.intro (bsl_all rfl) ?_; conv => whnf)
        | (refine And.intro (lens_all rfl) ?_; conv => whnf)
        | (refine And.intro (Nat.le_of_ble_eq_true rfl) ?_; conv => whnf)
        | (rw [ints_at (by omega)]; conv => whnf)
        | (rw [ints_at0 (by omega)]; conv => whnf)
        | (rw [ints_at' (by omega) (by omega)]; conv => whnf)
        | (refine And.intro (show (_ + 1) * _ ≤ _ by omega) ?_; conv => whnf)
        | (refine And.intro (show _ + 1 ≤ _ by omega) ?_; conv => whnf)
        | (refine And.intro (by first | omega | (simp only [length_ints]; omega)) ?_; conv => whnf)
        | (rw [node_at (by omega)]; conv => whnf)
        | fail)
      all_goals first
        | (have e := sizes_fail (by omega) hsz (by simp only [sizeAt]; (repeat' split) <;> first | rfl | omega)
           rw [e]
           refine ⟨.inl rfl, ?_⟩
           conv => whnf
           exact ⟨[none], ⟨rfl, And.intro rfl trivial⟩, ⟨rfl, rfl, rfl⟩, rfl, by simp [AObj.nov, ints]⟩)
        | (have hil : i = l.length := by omega
           have e : sizesL l ps = out := by unfold sizesL; rw [← hil, hsz]; rfl
           rw [e]
           refine ⟨.inl rfl, ?_⟩
           conv => whnf
           refine ⟨[some 0], ⟨rfl, And.intro (And.intro rfl rfl) trivial⟩, ?_, rfl, by simp [AObj.nov, ints_nov]⟩
           show AV.ref 0 0 i = AV.ref 0 0 out.length
           rw [hlen])
        | skip
      · refine ⟨(i + 1, out ++ [1]), ⟨by dsimp only; omega, sizes_next hsz (by simp only [sizeAt]; (repeat' split) <;> first | rfl | omega), by simp [hlen]⟩, by dsimp only; omega, [some 2], rfl, rfl, And.intro (And.intro rfl (app_int out _ i hlen.symm)) trivial, ?_⟩
        repeat' (first
          | exact trivial
          | refine ⟨?_, ?_⟩
          | fail)
        all_goals first
          | with_reducible rfl
          | (conv => whnf
             try left
             conv => lhs; whnf
             first
               | rfl
               | exact congrArg (AV.int .i64) (by omega)
               | skip)

end Go.Proofs.Ytpfbkblgefddlaa.Ct

