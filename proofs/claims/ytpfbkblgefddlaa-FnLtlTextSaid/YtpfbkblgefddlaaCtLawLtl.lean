/- The law that formulas are read from their texts as they were. -/
import Derived.Test.YtpfbkblgefddlaaCtDraw1
import Derived.Test.YtpfbkblgefddlaaCtDraw6
namespace Go.Proofs.Ytpfbkblgefddlaa.Ct
set_option linter.unusedSimpArgs false
set_option linter.unusedVariables false
open Go Go.Proofs Go.Proofs.Ytpfbkblgefddlaa.Av

def c_laws_sameNodes : ICode := (.seq (.reg [⟨(some 4), .mv, [(.c (.bool false))], none⟩]) (.seq (.seq (.reg [⟨(some 6), .mv, [(.t 0)], none⟩, ⟨(some 7), .len, [(.t 6)], none⟩, ⟨(some 8), .mv, [(.t 1)], none⟩, ⟨(some 9), .len, [(.t 8)], none⟩, ⟨(some 10), (.bin .neq), [(.t 7), (.t 9)], none⟩]) (.cond (.t 10) (.seq (.reg [⟨(some 4), .mv, [(.c (.bool false))], none⟩]) .ret) .skip)) (.seq (.seq (.reg [⟨(some 5), .mv, [(.c (.int .i64 0))], none⟩]) (.block 0 (.loop (.seq (.seq (.reg [⟨(some 11), .mv, [(.t 5)], none⟩, ⟨(some 12), .mv, [(.t 0)], none⟩, ⟨(some 13), .len, [(.t 12)], none⟩, ⟨(some 14), (.bin .lss), [(.t 11), (.t 13)], none⟩]) (.cond (.t 14) .skip (.exit 0))) (.seq (.block 1 (.seq (.drw [⟨(some 17), .mv, [(.t 0)], none⟩, ⟨(some 18), .mv, [(.t 5)], none⟩, ⟨(some 19), (.iadr 3), [(.t 17), (.t 18)], none⟩, ⟨(some 20), (.ldn 3), [(.t 19)], none⟩, ⟨(some 21), .mv, [(.t 1)], none⟩, ⟨(some 22), .mv, [(.t 5)], none⟩, ⟨(some 23), (.iadr 3), [(.t 21), (.t 22)], none⟩, ⟨(some 24), (.ldn 3), [(.t 23)], none⟩, ⟨(some 25), (.aeq true [0, 0, 0]), [(.t 20), (.t 24)], none⟩] [[], [], [0, 1], [0, 1, 2], [], [], [4, 5], [4, 5, 6], [0, 1, 2, 3, 4, 5, 6, 7]] true true) (.cond (.t 25) (.seq (.reg [⟨(some 4), .mv, [(.c (.bool false))], none⟩]) .ret) .skip))) (.reg [⟨(some 15), .mv, [(.t 5)], none⟩, ⟨(some 16), (.bin .add), [(.t 15), (.c (.int .i64 1))], none⟩, ⟨(some 5), .mv, [(.t 16)], none⟩])))))) (.seq (.reg [⟨(some 4), .mv, [(.c (.bool true))], none⟩]) .ret))))
theorem b_laws_sameNodes : Body Try.prog 43 26 c_laws_sameNodes [(.t 4)] := by
  have h1 : comp Try.prog 26 (Try.f43.body.getD .skip) = some c_laws_sameNodes := by kernel_rfl
  have h2 : Try.f43.body = some (Try.f43.body.getD .skip) := by kernel_rfl
  have h3 : Try.f43.results.toList.map (cRes Try.prog) = [(some (.t 4))] := by kernel_rfl
  exact ⟨_, _, Try.func43, h2, Try.ntmps43, h1, h3, by decide⟩

def c_laws_FnLtlText : ICode := (.seq (.reg [⟨(some 2), .mv, [(.c (.bool false))], none⟩]) (.seq (.seq (.reg [⟨(some 18), .mv, [(.t 0)], none⟩, ⟨(some 19), (.call 27), [(.t 18)], none⟩]) (.cond (.t 19) (.seq (.reg [⟨(some 2), .mv, [(.c (.bool true))], none⟩]) .ret) .skip)) (.seq (.reg [⟨(some 20), .mv, [(.t 0)], none⟩, ⟨(some 21), (.call 38), [(.t 20)], none⟩, ⟨(some 3), .mv, [(.t 21)], none⟩]) (.seq (.reg [⟨(some 22), .mv, [(.t 3)], none⟩, ⟨(some 23), (.call 39), [(.t 22)], none⟩, ⟨(some 4), .mv, [(.t 23)], none⟩]) (.seq (.seq (.reg [⟨(some 24), .mv, [(.t 3)], none⟩, ⟨(some 25), (.call 40), [(.t 24)], none⟩, ⟨(some 26), .not, [(.t 25)], none⟩]) (.cond (.t 26) (.seq (.reg [⟨(some 27), .mv, [(.t 4)], none⟩, ⟨(some 28), (.bin .eql), [(.t 27), (.c (.str []))], none⟩, ⟨(some 29), .mv, [(.t 28)], none⟩, ⟨(some 30), .mv, [(.t 3)], (some (29, true))⟩, ⟨(some 31), (.call 41), [(.t 30)], (some (29, true))⟩, ⟨(some 32), .not, [(.t 31)], (some (29, true))⟩, ⟨(some 33), .pick, [(.t 29), (.t 32), (.c (.bool false))], none⟩, ⟨(some 2), .mv, [(.t 33)], none⟩]) .ret) .skip)) (.seq (.reg [⟨(some 35), .mv, [(.t 4)], none⟩, ⟨(some 36), (.call 42), [(.t 35)], none⟩, ⟨(some 34), .mv, [(.t 36)], none⟩, ⟨(some 37), (.ext 0), [(.t 34)], none⟩, ⟨(some 38), (.ext 1), [(.t 34)], none⟩, ⟨(some 39), (.ext 2), [(.t 34)], none⟩, ⟨(some 5), .mv, [(.t 37)], none⟩, ⟨(some 6), .mv, [(.t 38)], none⟩, ⟨(some 7), .mv, [(.t 39)], none⟩]) (.seq (.seq (.reg [⟨(some 40), .mv, [(.t 4)], none⟩, ⟨(some 41), .lens, [(.t 40)], none⟩, ⟨(some 42), (.bin .leq), [(.t 41), (.c (.int .i64 200))], none⟩, ⟨(some 43), .mv, [(.t 42)], none⟩, ⟨(some 44), .mv, [(.t 7)], (some (43, true))⟩, ⟨(some 45), (.bin .neq), [(.t 44), (.c (.int .i64 0))], (some (43, true))⟩, ⟨(some 46), .mv, [(.t 45)], (some (43, true))⟩, ⟨(some 47), .mv, [(.t 6)], (some (46, false))⟩, ⟨(some 48), .mv, [(.t 4)], (some (46, false))⟩, ⟨(some 49), .lens, [(.t 48)], (some (46, false))⟩, ⟨(some 50), (.bin .neq), [(.t 47), (.t 49)], (some (46, false))⟩, ⟨(some 51), .pick, [(.t 46), (.c (.bool true)), (.t 50)], (some (43, true))⟩, ⟨(some 52), .mv, [(.t 51)], (some (43, true))⟩, ⟨(some 53), .mv, [(.t 5)], (some (52, false))⟩, ⟨(some 54), .mv, [(.t 3)], (some (52, false))⟩, ⟨(some 55), (.call 43), [(.t 53), (.t 54)], (some (52, false))⟩, ⟨(some 56), .not, [(.t 55)], (some (52, false))⟩, ⟨(some 57), .pick, [(.t 52), (.c (.bool true)), (.t 56)], (some (43, true))⟩, ⟨(some 58), .pick, [(.t 43), (.t 57), (.c (.bool false))], none⟩]) (.cond (.t 58) (.seq (.reg [⟨(some 2), .mv, [(.c (.bool false))], none⟩]) .ret) .skip)) (.seq (.reg [⟨(some 59), .mv, [(.t 0)], none⟩, ⟨(some 60), (.call 44), [(.t 59)], none⟩, ⟨(some 8), .mv, [(.t 60)], none⟩]) (.seq (.reg [⟨(some 62), .mv, [(.t 8)], none⟩, ⟨(some 63), (.call 42), [(.t 62)], none⟩, ⟨(some 61), .mv, [(.t 63)], none⟩, ⟨(some 64), (.ext 0), [(.t 61)], none⟩, ⟨(some 65), (.ext 1), [(.t 61)], none⟩, ⟨(some 66), (.ext 2), [(.t 61)], none⟩, ⟨(some 9), .mv, [(.t 64)], none⟩, ⟨(some 10), .mv, [(.t 65)], none⟩, ⟨(some 11), .mv, [(.t 66)], none⟩]) (.seq (.reg [⟨(some 68), .mv, [(.t 8)], none⟩, ⟨(some 69), (.call 45), [(.t 68)], none⟩, ⟨(some 67), .mv, [(.t 69)], none⟩, ⟨(some 70), (.ext 0), [(.t 67)], none⟩, ⟨(some 71), (.ext 1), [(.t 67)], none⟩, ⟨(some 72), (.ext 2), [(.t 67)], none⟩, ⟨(some 12), .mv, [(.t 70)], none⟩, ⟨(some 13), .mv, [(.t 71)], none⟩, ⟨(some 14), .mv, [(.t 72)], none⟩]) (.seq (.seq (.reg [⟨(some 73), .mv, [(.t 10)], none⟩, ⟨(some 74), .mv, [(.t 13)], none⟩, ⟨(some 75), (.bin .neq), [(.t 73), (.t 74)], none⟩, ⟨(some 76), .mv, [(.t 75)], none⟩, ⟨(some 77), .mv, [(.t 11)], (some (76, false))⟩, ⟨(some 78), .mv, [(.t 14)], (some (76, false))⟩, ⟨(some 79), (.bin .neq), [(.t 77), (.t 78)], (some (76, false))⟩, ⟨(some 80), .pick, [(.t 76), (.c (.bool true)), (.t 79)], none⟩]) (.cond (.t 80) (.seq (.reg [⟨(some 2), .mv, [(.c (.bool false))], none⟩]) .ret) .skip)) (.seq (.seq (.reg [⟨(some 81), .mv, [(.t 11)], none⟩, ⟨(some 82), (.bin .neq), [(.t 81), (.c (.int .i64 0))], none⟩]) (.cond (.t 82) (.seq (.reg [⟨(some 83), .mv, [(.t 9)], none⟩, ⟨(some 84), .len, [(.t 83)], none⟩, ⟨(some 85), (.bin .eql), [(.t 84), (.c (.int .i64 0))], none⟩, ⟨(some 86), .mv, [(.t 85)], none⟩, ⟨(some 87), .mv, [(.t 10)], (some (86, true))⟩, ⟨(some 88), .mv, [(.t 8)], (some (86, true))⟩, ⟨(some 89), .lens, [(.t 88)], (some (86, true))⟩, ⟨(some 90), (.bin .leq), [(.t 87), (.t 89)], (some (86, true))⟩, ⟨(some 91), .pick, [(.t 86), (.t 90), (.c (.bool false))], none⟩, ⟨(some 2), .mv, [(.t 91)], none⟩]) .ret) .skip)) (.seq (.reg [⟨(some 93), .mv, [(.t 9)], none⟩, ⟨(some 94), (.call 39), [(.t 93)], none⟩, ⟨(some 95), (.call 42), [(.t 94)], none⟩, ⟨(some 92), .mv, [(.t 95)], none⟩, ⟨(some 96), (.ext 0), [(.t 92)], none⟩, ⟨(some 97), (.ext 1), [(.t 92)], none⟩, ⟨(some 98), (.ext 2), [(.t 92)], none⟩, ⟨(some 15), .mv, [(.t 96)], none⟩, ⟨(some 16), .mv, [(.t 97)], none⟩, ⟨(some 17), .mv, [(.t 98)], none⟩]) (.seq (.reg [⟨(some 99), .mv, [(.t 17)], none⟩, ⟨(some 100), (.bin .eql), [(.t 99), (.c (.int .i64 0))], none⟩, ⟨(some 101), .mv, [(.t 100)], none⟩, ⟨(some 102), .mv, [(.t 9)], (some (101, true))⟩, ⟨(some 103), .mv, [(.t 15)], (some (101, true))⟩, ⟨(some 104), (.call 43), [(.t 102), (.t 103)], (some (101, true))⟩, ⟨(some 105), .pick, [(.t 101), (.t 104), (.c (.bool false))], none⟩, ⟨(some 2), .mv, [(.t 105)], none⟩]) .ret))))))))))))))
theorem b_laws_FnLtlText : Body Try.prog 8 106 c_laws_FnLtlText [(.t 2)] := by
  have h1 : comp Try.prog 106 (Try.f8.body.getD .skip) = some c_laws_FnLtlText := by kernel_rfl
  have h2 : Try.f8.body = some (Try.f8.body.getD .skip) := by kernel_rfl
  have h3 : Try.f8.results.toList.map (cRes Try.prog) = [(some (.t 2))] := by kernel_rfl
  exact ⟨_, _, Try.func8, h2, Try.ntmps8, h1, h3, by decide⟩


def RSameN (xs : List AV) (r : AV) (objs : List AObj) : Prop := ∃ a, xs = [.val (nodeRows a), .val (nodeRows a)] ∧ a.length ≤ 1000000 ∧ r = .bool true ∧ objs = []
theorem RSameN_eq {xs : List AV} {a : List NodeD} (h : xs = [.val (nodeRows a), .val (nodeRows a)]) (hl : a.length ≤ 1000000) : RSameN xs (.bool true) [] := ⟨a, h, hl, rfl, rfl⟩

set_option maxHeartbeats 1000000 in
theorem s_laws_sameNodes : PureSound Try.prog 43 RSameN := by
  have hR : Rely Try.prog (ctxOf []) := rely_nil mixed
  refine pure_of_aw b_laws_sameNodes ?_
  rintro xs r objs ⟨a, rfl, hl, rfl, rfl⟩ -
  have hln := length_nodeRows a
  refine ⟨by simp, vc2_sound hR _ _ _ _ _ ?_⟩
  conv => whnf
  repeat' (first
    | (refine And.intro (fun hb => ?_) (fun hb => ?_)
       all_goals (try simp only [decide_eq_true_eq, decide_eq_false_iff_not, Bool.not_eq_true', Bool.not_eq_false', Bool.not_not, ne_eq, length_ints, List.length_map, beq_iff_eq, bne_iff_ne, beq_eq_false_iff_ne, bne_eq_false_iff_eq, Int.not_le, Int.not_lt, ge_iff_le, gt_iff_lt, reduceCtorEq, not_false_eq_true, not_true_eq_false, Bool.false_eq_true, Bool.true_eq_false] at hb)
       all_goals (try (exfalso; omega))
       all_goals conv => whnf)
    | (refine And.intro (live_all rfl) ?_; conv => whnf)
    | (refine And.intro rfl ?_; conv => whnf)
    | (refine ⟨_, IntWalk.i64_in _ (by omega), ?_⟩; conv => whnf)
    | (refine And.intro (okcs_all rfl) ?_; conv => whnf)
    | (refine And.intro (okvs_all rfl) ?_; conv => whnf)
    | (refine And.intro (frees_all rfl) ?_; conv => whnf)
    | (refine And.intro (bsl_all rfl) ?_; conv => whnf)
    | (refine And.intro (lens_all rfl) ?_; conv => whnf)
    | (refine And.intro (Nat.le_of_ble_eq_true rfl) ?_; conv => whnf)
    | (rw [ints_at (by omega)]; conv => whnf)
    | (rw [ints_at0 (by omega)]; conv => whnf)
    | (rw [ints_at' (by omega) (by omega)]; conv => whnf)
    | (refine And.intro (show (_ + 1) * _ ≤ _ by omega) ?_; conv => whnf)
    | (refine And.intro (show _ + 1 ≤ _ by omega) ?_; conv => whnf)
    | (refine And.intro (by first | omega | (simp only [length_ints]; omega)) ?_; conv => whnf)
    | fail)
  refine Lp.intro (α := Nat) (fun i => i ≤ a.length) (fun i => a.length - i) (fun i => [(0, .val (nodeRows a)), (1, .val (nodeRows a)), (5, .int .i64 i)]) (fun _ => []) ?_ ?_
  · refine ⟨0, Nat.zero_le _, [], rfl, rfl, trivial, ?_⟩
    repeat' (first
      | exact trivial
      | refine ⟨?_, ?_⟩
      | fail)
    all_goals first
      | with_reducible rfl
      | (conv => whnf
         try left
         conv => lhs; whnf
         first
           | rfl
           | exact congrArg (AV.int .i64) (by omega)
           | skip)
  · intro i hi
    refine vc2_sound hR _ _ _ _ _ ?_
    conv => whnf
    repeat' (first
      | (refine And.intro (fun hb => ?_) (fun hb => ?_)
         all_goals (try simp only [decide_eq_true_eq, decide_eq_false_iff_not, Bool.not_eq_true', Bool.not_eq_false', Bool.not_not, ne_eq, length_ints, List.length_map, beq_iff_eq, bne_iff_ne, beq_eq_false_iff_ne, bne_eq_false_iff_eq, Int.not_le, Int.not_lt, ge_iff_le, gt_iff_lt, reduceCtorEq, not_false_eq_true, not_true_eq_false, Bool.false_eq_true, Bool.true_eq_false] at hb)
         all_goals (try (exfalso; omega))
         all_goals conv => whnf)
      | (refine And.intro (live_all rfl) ?_; conv => whnf)
      | (refine And.intro rfl ?_; conv => whnf)
      | (refine ⟨_, IntWalk.i64_in _ (by omega), ?_⟩; conv => whnf)
      | (refine And.intro (okcs_all rfl) ?_; conv => whnf)
      | (refine And.intro (okvs_all rfl) ?_; conv => whnf)
      | (refine And.intro (frees_all rfl) ?_; conv => whnf)
      | (refine And.intro (bsl_all rfl) ?_; conv => whnf)
      | (refine And.intro (lens_all rfl) ?_; conv => whnf)
      | (refine And.intro (Nat.le_of_ble_eq_true rfl) ?_; conv => whnf)
      | (rw [ints_at (by omega)]; conv => whnf)
      | (rw [ints_at0 (by omega)]; conv => whnf)
      | (rw [ints_at' (by omega) (by omega)]; conv => whnf)
      | (refine And.intro (show (_ + 1) * _ ≤ _ by omega) ?_; conv => whnf)
      | (refine And.intro (show _ + 1 ≤ _ by omega) ?_; conv => whnf)
      | (refine And.intro (by first | omega | (simp only [length_ints]; omega)) ?_; conv => whnf)
      | (rw [node_at (by omega)]; conv => whnf)
      | fail)
    · simp at hb
    · refine ⟨i + 1, by omega, by omega, [], rfl, rfl, trivial, ?_⟩
      repeat' (first
        | exact trivial
        | refine ⟨?_, ?_⟩
        | fail)
      all_goals first
        | with_reducible rfl
        | (conv => whnf
           try left
           conv => lhs; whnf
           first
             | rfl
             | exact congrArg (AV.int .i64) (by omega)
             | skip)
    · refine ⟨.inl rfl, ?_⟩
      conv => whnf
      refine ⟨[], ⟨rfl, trivial⟩, ?_, rfl, rfl⟩
      conv => whnf
      left
      conv => lhs; whnf

theorem RLtlPrintI_ok {xs : List AV} {l : List NodeD} {t : List UInt8} (h : xs = [.val (nodeRows l)]) (hk : treeL l = true) (ht : (txts l l.length).getD (l.length - 1) [] = t) : RLtlPrintI xs (.str t) [] := ⟨l, h, by rw [hk, ← ht]; rfl, rfl⟩
theorem RLtlPrintI_no {xs : List AV} {l : List NodeD} (h : xs = [.val (nodeRows l)]) (hk : treeL l = false) : RLtlPrintI xs (.str []) [] := ⟨l, h, by rw [hk]; rfl, rfl⟩
theorem RLtlOk_is {xs : List AV} {l : List NodeD} {b : Bool} (hb : ltlOk l = b) (h : xs = [.val (nodeRows l)]) : RLtlOk xs (.bool b) [] := ⟨l, h, by rw [hb], rfl⟩
theorem RLtlOkI_is {xs : List AV} {l : List NodeD} {b : Bool} (hb : treeL l = b) (h : xs = [.val (nodeRows l)]) : RLtlOkI xs (.bool b) [] := ⟨l, h, by rw [hb], rfl⟩
theorem RLtlParse_ok' {s : List UInt8} {q : PR} (h : parseL s = q) (hc : q.c = 0) : RLtlParse [.str s] (.tup [.ref 0 0 q.l.length, .int .i64 q.p, .int .i64 0]) [.arr 3 (nodeRows q.l)] := by
  subst h
  have := RLtlParse_ok hc
  rw [hc] at this
  exact this
theorem RLtlParse_no' {s : List UInt8} {q : PR} (h : parseL s = q) (hc : ¬ q.c = 0) : RLtlParse [.str s] (.tup [.snil, .int .i64 q.p, .int .i64 q.c]) [] := by
  subst h
  exact RLtlParse_bad hc

set_option maxRecDepth 4000 in
set_option maxHeartbeats 8000000 in
theorem s_laws_FnLtlText : PureSound Try.prog 8 RTrueCode := by
  have hR : Rely Try.prog (ctxOf [(27, .pure RBig), (38, .gen 0 GDrawLtl), (39, .pure RLtlPrintI), (40, .pure RLtlOk), (41, .pure RLtlOkI), (42, .pure RLtlParse), (43, .pure RSameN), (44, .gen 0 GDrawRead), (45, .pure RLtlParse)]) :=
    rely_cons b_laws_big.has s_laws_big (rely_cons b_spec_DrawLtlPrint.has s_spec_DrawLtlPrint (rely_cons b_impl_LtlPrint.has s_impl_LtlPrint (rely_cons b_spec_LtlOk.has s_spec_LtlOk (rely_cons b_impl_LtlOk.has s_impl_LtlOk
      (rely_cons b_impl_LtlParse.has s_impl_LtlParse (rely_cons b_laws_sameNodes.has s_laws_sameNodes (rely_cons b_spec_DrawLtlParse.has s_spec_DrawLtlParse (rely_cons b_spec_LtlParse.has s_spec_LtlParse (rely_nil mixed)))))))))
  refine pure_of_aw b_laws_FnLtlText ?_
  rintro xs r objs ⟨code, rfl, rfl, rfl⟩ -
  refine ⟨by simp, vc2_sound hR _ _ _ _ _ ?_⟩
  conv => whnf
  repeat' (first
    | (refine And.intro (fun hb => ?_) (fun hb => ?_)
       all_goals (try simp only [decide_eq_true_eq, decide_eq_false_iff_not, Bool.not_eq_true', Bool.not_eq_false', Bool.not_not, ne_eq, length_ints, List.length_map, beq_iff_eq, bne_iff_ne, beq_eq_false_iff_ne, bne_eq_false_iff_eq, Int.not_le, Int.not_lt, ge_iff_le, gt_iff_lt, reduceCtorEq, not_false_eq_true, not_true_eq_false, Bool.false_eq_true, Bool.true_eq_false] at hb)
       all_goals (try (exfalso; omega))
       all_goals conv => whnf)
    | (refine And.intro (live_all rfl) ?_; conv => whnf)
    | (refine And.intro rfl ?_; conv => whnf)
    | (refine ⟨_, IntWalk.i64_in _ (by omega), ?_⟩; conv => whnf)
    | (refine And.intro (okcs_all rfl) ?_; conv => whnf)
    | (refine And.intro (okvs_all rfl) ?_; conv => whnf)
    | (refine And.intro (frees_all rfl) ?_; conv => whnf)
    | (refine And.intro (bsl_all rfl) ?_; conv => whnf)
    | (refine And.intro (lens_all rfl) ?_; conv => whnf)
    | (refine And.intro (Nat.le_of_ble_eq_true rfl) ?_; conv => whnf)
    | (rw [ints_at (by omega)]; conv => whnf)
    | (rw [ints_at0 (by omega)]; conv => whnf)
    | (rw [ints_at' (by omega) (by omega)]; conv => whnf)
    | (refine And.intro (show (_ + 1) * _ ≤ _ by omega) ?_; conv => whnf)
    | (refine And.intro (show _ + 1 ≤ _ by omega) ?_; conv => whnf)
    | (refine And.intro (by first | omega | (simp only [length_ints]; omega)) ?_; conv => whnf)
    | (refine ⟨_, _, RBig_mk, ?_⟩; conv => whnf)
    | fail)
  · refine ⟨.inl rfl, ?_⟩
    conv => whnf
    refine ⟨[], ⟨rfl, trivial⟩, ?_, rfl, rfl⟩
    conv => whnf
    left
    conv => lhs; whnf
  conv => whnf
  repeat' (first
    | (refine And.intro (fun hb => ?_) (fun hb => ?_)
       all_goals (try simp only [decide_eq_true_eq, decide_eq_false_iff_not, Bool.not_eq_true', Bool.not_eq_false', Bool.not_not, ne_eq, length_ints, List.length_map, beq_iff_eq, bne_iff_ne, beq_eq_false_iff_ne, bne_eq_false_iff_eq, Int.not_le, Int.not_lt, ge_iff_le, gt_iff_lt, reduceCtorEq, not_false_eq_true, not_true_eq_false, Bool.false_eq_true, Bool.true_eq_false] at hb)
       all_goals (try (exfalso; omega))
       all_goals conv => whnf)
    | (refine And.intro (live_all rfl) ?_; conv => whnf)
    | (refine And.intro rfl ?_; conv => whnf)
    | (refine ⟨_, IntWalk.i64_in _ (by omega), ?_⟩; conv => whnf)
    | (refine And.intro (okcs_all rfl) ?_; conv => whnf)
    | (refine And.intro (okvs_all rfl) ?_; conv => whnf)
    | (refine And.intro (frees_all rfl) ?_; conv => whnf)
    | (refine And.intro (bsl_all rfl) ?_; conv => whnf)
    | (refine And.intro (lens_all rfl) ?_; conv => whnf)
    | (refine And.intro (Nat.le_of_ble_eq_true rfl) ?_; conv => whnf)
    | (rw [ints_at (by omega)]; conv => whnf)
    | (rw [ints_at0 (by omega)]; conv => whnf)
    | (rw [ints_at' (by omega) (by omega)]; conv => whnf)
    | (refine And.intro (show (_ + 1) * _ ≤ _ by omega) ?_; conv => whnf)
    | (refine And.intro (show _ + 1 ≤ _ by omega) ?_; conv => whnf)
    | (refine And.intro (by first | omega | (simp only [length_ints]; omega)) ?_; conv => whnf)
    | (refine ⟨GDrawLtl_mk (by omega) (fun l hl => ?_)⟩; conv => whnf)
    | fail)
  have hln := length_nodeRows l
  cases hk : ltlOk l with
  | false =>
    have hk' : treeL l = false := by rw [treeL_eq]; exact hk
    refine ⟨_, _, RLtlPrintI_no (l := l) (by repeat' (first | exact rfl | refine args_cons ?_ ?_ | refine snap_agg ?_ | refine cells_cons ?_ ?_ | exact snap1_all rfl (by first | (simp only [length_ints]; done) | (simp only [length_nodeRows]; done) | simp [ints, marks]) | exact snap_all rfl (by first | (simp only [length_ints]; done) | (simp only [length_nodeRows]; done) | simp [ints, marks]) | exact snap1_all2 rfl (by first | (simp only [length_ints]; done) | (simp only [length_nodeRows]; done) | simp [ints, marks]) | fail)) hk', ?_⟩
    conv => whnf
    repeat' (first
      | (refine And.intro (fun hb => ?_) (fun hb => ?_)
         all_goals (try simp only [decide_eq_true_eq, decide_eq_false_iff_not, Bool.not_eq_true', Bool.not_eq_false', Bool.not_not, ne_eq, length_ints, List.length_map, beq_iff_eq, bne_iff_ne, beq_eq_false_iff_ne, bne_eq_false_iff_eq, Int.not_le, Int.not_lt, ge_iff_le, gt_iff_lt, reduceCtorEq, not_false_eq_true, not_true_eq_false, Bool.false_eq_true, Bool.true_eq_false] at hb)
         all_goals (try (exfalso; omega))
         all_goals conv => whnf)
      | (refine And.intro (live_all rfl) ?_; conv => whnf)
      | (refine And.intro rfl ?_; conv => whnf)
      | (refine ⟨_, IntWalk.i64_in _ (by omega), ?_⟩; conv => whnf)
      | (refine And.intro (okcs_all rfl) ?_; conv => whnf)
      | (refine And.intro (okvs_all rfl) ?_; conv => whnf)
      | (refine And.intro (frees_all rfl) ?_; conv => whnf)
      | (refine And.intro (bsl_all rfl) ?_; conv => whnf)
      | (refine And.intro (lens_all rfl) ?_; conv => whnf)
      | (refine And.intro (Nat.le_of_ble_eq_true rfl) ?_; conv => whnf)
      | (rw [ints_at (by omega)]; conv => whnf)
      | (rw [ints_at0 (by omega)]; conv => whnf)
      | (rw [ints_at' (by omega) (by omega)]; conv => whnf)
      | (refine And.intro (show (_ + 1) * _ ≤ _ by omega) ?_; conv => whnf)
      | (refine And.intro (show _ + 1 ≤ _ by omega) ?_; conv => whnf)
      | (refine And.intro (by first | omega | (simp only [length_ints]; omega)) ?_; conv => whnf)
      | (refine ⟨_, _, RLtlOk_is (l := l) hk (by repeat' (first | exact rfl | refine args_cons ?_ ?_ | refine snap_agg ?_ | refine cells_cons ?_ ?_ | exact snap1_all rfl (by first | (simp only [length_ints]; done) | (simp only [length_nodeRows]; done) | simp [ints, marks]) | exact snap_all rfl (by first | (simp only [length_ints]; done) | (simp only [length_nodeRows]; done) | simp [ints, marks]) | exact snap1_all2 rfl (by first | (simp only [length_ints]; done) | (simp only [length_nodeRows]; done) | simp [ints, marks]) | fail)), ?_⟩; conv => whnf)
      | (refine ⟨_, _, RLtlOkI_is (l := l) hk' (by repeat' (first | exact rfl | refine args_cons ?_ ?_ | refine snap_agg ?_ | refine cells_cons ?_ ?_ | exact snap1_all rfl (by first | (simp only [length_ints]; done) | (simp only [length_nodeRows]; done) | simp [ints, marks]) | exact snap_all rfl (by first | (simp only [length_ints]; done) | (simp only [length_nodeRows]; done) | simp [ints, marks]) | exact snap1_all2 rfl (by first | (simp only [length_ints]; done) | (simp only [length_nodeRows]; done) | simp [ints, marks]) | fail)), ?_⟩; conv => whnf)
      | fail)
    refine ⟨.inl rfl, ?_⟩
    conv => whnf
    refine ⟨[], ⟨rfl, trivial⟩, ?_, rfl, rfl⟩
    conv => whnf
    left
    conv => lhs; whnf
  | true =>
    obtain ⟨t, t1, t2, t3, t4, rfl⟩ := ltlOk_tree hk
    have hk' := treeL_enc t1 t3
    have hlt := length_txt t
    have hle := t.length_enc 0
    have hp := parse_txt t1 t3
    refine ⟨_, _, RLtlPrintI_ok (l := t.enc 0) (by repeat' (first | exact rfl | refine args_cons ?_ ?_ | refine snap_agg ?_ | refine cells_cons ?_ ?_ | exact snap1_all rfl (by first | (simp only [length_ints]; done) | (simp only [length_nodeRows]; done) | simp [ints, marks]) | exact snap_all rfl (by first | (simp only [length_ints]; done) | (simp only [length_nodeRows]; done) | simp [ints, marks]) | exact snap1_all2 rfl (by first | (simp only [length_ints]; done) | (simp only [length_nodeRows]; done) | simp [ints, marks]) | fail)) hk' (txts_enc t1), ?_⟩
    conv => whnf
    repeat' (first
      | (refine And.intro (fun hb => ?_) (fun hb => ?_)
         all_goals (try simp only [decide_eq_true_eq, decide_eq_false_iff_not, Bool.not_eq_true', Bool.not_eq_false', Bool.not_not, ne_eq, length_ints, List.length_map, beq_iff_eq, bne_iff_ne, beq_eq_false_iff_ne, bne_eq_false_iff_eq, Int.not_le, Int.not_lt, ge_iff_le, gt_iff_lt, reduceCtorEq, not_false_eq_true, not_true_eq_false, Bool.false_eq_true, Bool.true_eq_false] at hb)
         all_goals (try (exfalso; omega))
         all_goals conv => whnf)
      | (refine And.intro (live_all rfl) ?_; conv => whnf)
      | (refine And.intro rfl ?_; conv => whnf)
      | (refine ⟨_, IntWalk.i64_in _ (by omega), ?_⟩; conv => whnf)
      | (refine And.intro (okcs_all rfl) ?_; conv => whnf)
      | (refine And.intro (okvs_all rfl) ?_; conv => whnf)
      | (refine And.intro (frees_all rfl) ?_; conv => whnf)
      | (refine And.intro (bsl_all rfl) ?_; conv => whnf)
      | (refine And.intro (lens_all rfl) ?_; conv => whnf)
      | (refine And.intro (Nat.le_of_ble_eq_true rfl) ?_; conv => whnf)
      | (rw [ints_at (by omega)]; conv => whnf)
      | (rw [ints_at0 (by omega)]; conv => whnf)
      | (rw [ints_at' (by omega) (by omega)]; conv => whnf)
      | (refine And.intro (show (_ + 1) * _ ≤ _ by omega) ?_; conv => whnf)
      | (refine And.intro (show _ + 1 ≤ _ by omega) ?_; conv => whnf)
      | (refine And.intro (by first | omega | (simp only [length_ints]; omega)) ?_; conv => whnf)
      | (refine ⟨_, _, RLtlOk_is (l := t.enc 0) hk (by repeat' (first | exact rfl | refine args_cons ?_ ?_ | refine snap_agg ?_ | refine cells_cons ?_ ?_ | exact snap1_all rfl (by first | (simp only [length_ints]; done) | (simp only [length_nodeRows]; done) | simp [ints, marks]) | exact snap_all rfl (by first | (simp only [length_ints]; done) | (simp only [length_nodeRows]; done) | simp [ints, marks]) | exact snap1_all2 rfl (by first | (simp only [length_ints]; done) | (simp only [length_nodeRows]; done) | simp [ints, marks]) | fail)), ?_⟩; conv => whnf)
      | (refine ⟨_, _, RLtlParse_ok' hp rfl, ?_⟩; conv => whnf)
      | (refine ⟨_, _, RSameN_eq (a := t.enc 0) (by repeat' (first | exact rfl | refine args_cons ?_ ?_ | refine snap_agg ?_ | refine cells_cons ?_ ?_ | exact snap1_all rfl (by first | (simp only [length_ints]; done) | (simp only [length_nodeRows]; done) | simp [ints, marks]) | exact snap_all rfl (by first | (simp only [length_ints]; done) | (simp only [length_nodeRows]; done) | simp [ints, marks]) | exact snap1_all2 rfl (by first | (simp only [length_ints]; done) | (simp only [length_nodeRows]; done) | simp [ints, marks]) | fail)) (by omega), ?_⟩; conv => whnf)
      | fail)
    refine ⟨GDrawRead_mk (by omega) (fun u hu => ?_)⟩
    conv => whnf
    by_cases hc : (parseL u).c = 0
    · obtain ⟨v, v1, v2, v3⟩ := parse_tree hc
      have hq : parseL u = ⟨(parseL u).p, 0, v.enc 0⟩ := by rw [← v3, ← hc]
      have hv' := treeL_enc v1 v2
      have hvl := length_txt v
      have hve := v.length_enc 0
      have hvp := parse_txt v1 v2
      have hvn := length_nodeRows (v.enc 0)
      conv => whnf
      repeat' (first
        | (refine And.intro (fun hb => ?_) (fun hb => ?_)
           all_goals (try simp only [decide_eq_true_eq, decide_eq_false_iff_not, Bool.not_eq_true', Bool.not_eq_false', Bool.not_not, ne_eq, length_ints, List.length_map, beq_iff_eq, bne_iff_ne, beq_eq_false_iff_ne, bne_eq_false_iff_eq, Int.not_le, Int.not_lt, ge_iff_le, gt_iff_lt, reduceCtorEq, not_false_eq_true, not_true_eq_false, Bool.false_eq_true, Bool.true_eq_false] at hb)
           all_goals (try (exfalso; omega))
           all_goals conv => whnf)
        | (refine And.intro (live_all rfl) ?_; conv => whnf)
        | (refine And.intro rfl ?_; conv => whnf)
        | (refine ⟨_, IntWalk.i64_in _ (by omega), ?_⟩; conv => whnf)
        | (refine And.intro (okcs_all rfl) ?_; conv => whnf)
        | (refine And.intro (okvs_all rfl) ?_; conv => whnf)
        | (refine And.intro (frees_all rfl) ?_; conv => whnf)
        | (refine And.intro (bsl_all rfl) ?_; conv => whnf)
        | (refine And.intro (lens_all rfl) ?_; conv => whnf)
        | (refine And.intro (Nat.le_of_ble_eq_true rfl) ?_; conv => whnf)
        | (rw [ints_at (by omega)]; conv => whnf)
        | (rw [ints_at0 (by omega)]; conv => whnf)
        | (rw [ints_at' (by omega) (by omega)]; conv => whnf)
        | (refine And.intro (show (_ + 1) * _ ≤ _ by omega) ?_; conv => whnf)
        | (refine And.intro (show _ + 1 ≤ _ by omega) ?_; conv => whnf)
        | (refine And.intro (by first | omega | (simp only [length_ints]; omega)) ?_; conv => whnf)
        | (refine ⟨_, _, RLtlParse_ok' hq rfl, ?_⟩; conv => whnf)
        | (refine ⟨_, _, RLtlPrintI_ok (l := v.enc 0) (by repeat' (first | exact rfl | refine args_cons ?_ ?_ | refine snap_agg ?_ | refine cells_cons ?_ ?_ | exact snap1_all rfl (by first | (simp only [length_ints]; done) | (simp only [length_nodeRows]; done) | simp [ints, marks]) | exact snap_all rfl (by first | (simp only [length_ints]; done) | (simp only [length_nodeRows]; done) | simp [ints, marks]) | exact snap1_all2 rfl (by first | (simp only [length_ints]; done) | (simp only [length_nodeRows]; done) | simp [ints, marks]) | fail)) hv' (txts_enc v1), ?_⟩; conv => whnf)
        | (refine ⟨_, _, RLtlParse_ok' hvp rfl, ?_⟩; conv => whnf)
        | (refine ⟨_, _, RSameN_eq (a := v.enc 0) (by repeat' (first | exact rfl | refine args_cons ?_ ?_ | refine snap_agg ?_ | refine cells_cons ?_ ?_ | exact snap1_all rfl (by first | (simp only [length_ints]; done) | (simp only [length_nodeRows]; done) | simp [ints, marks]) | exact snap_all rfl (by first | (simp only [length_ints]; done) | (simp only [length_nodeRows]; done) | simp [ints, marks]) | exact snap1_all2 rfl (by first | (simp only [length_ints]; done) | (simp only [length_nodeRows]; done) | simp [ints, marks]) | fail)) (by omega), ?_⟩; conv => whnf)
        | fail)
      refine ⟨.inl rfl, ?_⟩
      conv => whnf
      refine ⟨[], ⟨rfl, trivial⟩, ?_, rfl, rfl⟩
      conv => whnf
      left
      conv => lhs; whnf
    · have hle := parse_le u
      conv => whnf
      repeat' (first
        | (refine And.intro (fun hb => ?_) (fun hb => ?_)
           all_goals (try simp only [decide_eq_true_eq, decide_eq_false_iff_not, Bool.not_eq_true', Bool.not_eq_false', Bool.not_not, ne_eq, length_ints, List.length_map, beq_iff_eq, bne_iff_ne, beq_eq_false_iff_ne, bne_eq_false_iff_eq, Int.not_le, Int.not_lt, ge_iff_le, gt_iff_lt, reduceCtorEq, not_false_eq_true, not_true_eq_false, Bool.false_eq_true, Bool.true_eq_false] at hb)
           all_goals (try (exfalso; omega))
           all_goals conv => whnf)
        | (refine And.intro (live_all rfl) ?_; conv => whnf)
        | (refine And.intro rfl ?_; conv => whnf)
        | (refine ⟨_, IntWalk.i64_in _ (by omega), ?_⟩; conv => whnf)
        | (refine And.intro (okcs_all rfl) ?_; conv => whnf)
        | (refine And.intro (okvs_all rfl) ?_; conv => whnf)
        | (refine And.intro (frees_all rfl) ?_; conv => whnf)
        | (refine And.intro (bsl_all rfl) ?_; conv => whnf)
        | (refine And.intro (lens_all rfl) ?_; conv => whnf)
        | (refine And.intro (Nat.le_of_ble_eq_true rfl) ?_; conv => whnf)
        | (rw [ints_at (by omega)]; conv => whnf)
        | (rw [ints_at0 (by omega)]; conv => whnf)
        | (rw [ints_at' (by omega) (by omega)]; conv => whnf)
        | (refine And.intro (show (_ + 1) * _ ≤ _ by omega) ?_; conv => whnf)
        | (refine And.intro (show _ + 1 ≤ _ by omega) ?_; conv => whnf)
        | (refine And.intro (by first | omega | (simp only [length_ints]; omega)) ?_; conv => whnf)
        | (refine ⟨_, _, RLtlParse_no' rfl hc, ?_⟩; conv => whnf)
        | fail)
      refine ⟨.inl rfl, ?_⟩
      conv => whnf
      refine ⟨[], ⟨rfl, trivial⟩, ?_, rfl, rfl⟩
      conv => whnf
      left
      conv => lhs; whnf

end Go.Proofs.Ytpfbkblgefddlaa.Ct

