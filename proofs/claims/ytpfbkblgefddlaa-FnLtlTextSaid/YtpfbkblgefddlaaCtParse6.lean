/- Formulas read from text: what the program's LtlParse tells. -/
import Derived.Test.YtpfbkblgefddlaaCtParse5
namespace Go.Proofs.Ytpfbkblgefddlaa.Ct
set_option linter.unusedSimpArgs false
set_option linter.unusedVariables false
open Go Go.Proofs Go.Proofs.Ytpfbkblgefddlaa.Av

def c_slices_Clip_impl_Node_impl_Node : ICode := (.seq (.reg [⟨(some 2), .mv, [(.c .snil)], none⟩]) (.seq (.reg [⟨(some 3), .mv, [(.t 0)], none⟩, ⟨(some 4), .mv, [(.t 0)], none⟩, ⟨(some 5), .len, [(.t 4)], none⟩, ⟨(some 6), .mv, [(.t 0)], none⟩, ⟨(some 7), .len, [(.t 6)], none⟩, ⟨(some 8), (.slc3 3), [(.t 3), (.t 5), (.t 7)], none⟩, ⟨(some 2), .mv, [(.t 8)], none⟩]) .ret))
theorem b_slices_Clip_impl_Node_impl_Node : Body Try.prog 148 9 c_slices_Clip_impl_Node_impl_Node [(.t 2)] := by
  have h1 : comp Try.prog 9 (Try.f148.body.getD .skip) = some c_slices_Clip_impl_Node_impl_Node := by kernel_rfl
  have h2 : Try.f148.body = some (Try.f148.body.getD .skip) := by kernel_rfl
  have h3 : Try.f148.results.toList.map (cRes Try.prog) = [(some (.t 2))] := by kernel_rfl
  exact ⟨_, _, Try.func148, h2, Try.ntmps148, h1, h3, by decide⟩

def c_impl_parsed : ICode := (.seq (.reg [⟨(some 4), .mv, [(.c .snil)], none⟩, ⟨(some 5), .mv, [(.c (.int .i64 0))], none⟩, ⟨(some 6), .mv, [(.c (.int .i64 0))], none⟩]) (.seq (.seq (.reg [⟨(some 8), .mv, [(.t 0)], none⟩, ⟨(some 9), .lens, [(.t 8)], none⟩, ⟨(some 10), (.bin .gtr), [(.t 9), (.c (.int .i64 200))], none⟩]) (.cond (.t 10) (.seq (.reg [⟨(some 4), .mv, [(.c .snil)], none⟩, ⟨(some 5), .mv, [(.c (.int .i64 0))], none⟩, ⟨(some 6), .mv, [(.c (.int .i64 1))], none⟩]) .ret) .skip)) (.seq (.reg [⟨(some 11), .mv, [(.t 0)], none⟩, ⟨(some 12), (.bld [(.str []), (.int .i64 0), (.int .i64 0), .snil, .fnil] [(0, 1)]), [(.t 11)], none⟩, ⟨(some 13), (.box 5), [(.t 12)], none⟩, ⟨(some 7), .mv, [(.t 13)], none⟩]) (.seq (.reg [⟨(some 14), .mv, [(.t 1)], none⟩, ⟨(some 15), .mv, [(.t 7)], none⟩, ⟨(some 16), .dyn, [(.t 14), (.t 15)], none⟩]) (.seq (.block 0 (.seq (.reg [⟨(some 18), .mv, [(.t 7)], none⟩, ⟨(some 19), .nck, [(.t 18)], none⟩, ⟨(some 20), (.fadr 2), [(.t 19)], none⟩, ⟨(some 21), .ld1, [(.t 20)], none⟩, ⟨(some 22), (.bin .neq), [(.t 21), (.c (.int .i64 0))], none⟩, ⟨(some 17), .mv, [(.t 22)], none⟩]) (.cond (.t 17) (.seq (.drw [⟨(some 23), .mv, [(.t 7)], none⟩, ⟨(some 24), .nck, [(.t 23)], none⟩, ⟨(some 25), (.fadr 1), [(.t 24)], none⟩, ⟨(some 26), .ld1, [(.t 25)], none⟩, ⟨(some 27), .mv, [(.t 7)], none⟩, ⟨(some 28), .nck, [(.t 27)], none⟩, ⟨(some 29), (.fadr 2), [(.t 28)], none⟩, ⟨(some 30), .ld1, [(.t 29)], none⟩, ⟨(some 4), .mv, [(.c .snil)], none⟩, ⟨(some 5), .mv, [(.t 26)], none⟩, ⟨(some 6), .mv, [(.t 30)], none⟩] [[], [0], [0, 1], [0, 1, 2], [], [4], [4, 5], [4, 5, 6], [], [0, 1, 2, 3, 8], [0, 1, 2, 3, 4, 5, 6, 7, 8, 9]] true true) .ret) (.seq (.reg [⟨(some 32), .mv, [(.t 7)], none⟩, ⟨(some 33), .nck, [(.t 32)], none⟩, ⟨(some 34), (.fadr 1), [(.t 33)], none⟩, ⟨(some 35), .ld1, [(.t 34)], none⟩, ⟨(some 36), .mv, [(.t 0)], none⟩, ⟨(some 37), .lens, [(.t 36)], none⟩, ⟨(some 38), (.bin .lss), [(.t 35), (.t 37)], none⟩, ⟨(some 31), .mv, [(.t 38)], none⟩]) (.cond (.t 31) (.seq (.drw [⟨(some 39), .mv, [(.t 7)], none⟩, ⟨(some 40), .nck, [(.t 39)], none⟩, ⟨(some 41), (.fadr 1), [(.t 40)], none⟩, ⟨(some 42), .ld1, [(.t 41)], none⟩, ⟨(some 4), .mv, [(.c .snil)], none⟩, ⟨(some 5), .mv, [(.t 42)], none⟩, ⟨(some 6), .mv, [(.c (.int .i64 5))], none⟩] [[], [0], [0, 1], [0, 1, 2], [], [0, 1, 2, 3, 4], [0, 1, 2, 3, 4, 5]] true true) .ret) (.seq (.reg [⟨(some 44), .mv, [(.t 7)], none⟩, ⟨(some 45), .nck, [(.t 44)], none⟩, ⟨(some 46), (.fadr 3), [(.t 45)], none⟩, ⟨(some 47), .ld1, [(.t 46)], none⟩, ⟨(some 48), .len, [(.t 47)], none⟩, ⟨(some 49), (.bin .gtr), [(.t 48), (.c (.int .i64 31))], none⟩, ⟨(some 43), .mv, [(.t 49)], none⟩]) (.cond (.t 43) (.seq (.reg [⟨(some 4), .mv, [(.c .snil)], none⟩, ⟨(some 5), .mv, [(.c (.int .i64 0))], none⟩, ⟨(some 6), .mv, [(.c (.int .i64 4))], none⟩]) .ret) .skip))))))) (.seq (.reg [⟨(some 50), .mv, [(.t 7)], none⟩, ⟨(some 51), .nck, [(.t 50)], none⟩, ⟨(some 52), (.fadr 3), [(.t 51)], none⟩, ⟨(some 53), .ld1, [(.t 52)], none⟩, ⟨(some 54), (.call 148), [(.t 53)], none⟩, ⟨(some 55), .mv, [(.t 0)], none⟩, ⟨(some 56), .lens, [(.t 55)], none⟩, ⟨(some 4), .mv, [(.t 54)], none⟩, ⟨(some 5), .mv, [(.t 56)], none⟩, ⟨(some 6), .mv, [(.c (.int .i64 0))], none⟩]) .ret))))))
theorem b_impl_parsed : Body Try.prog 102 57 c_impl_parsed [(.t 4), (.t 5), (.t 6)] := by
  have h1 : comp Try.prog 57 (Try.f102.body.getD .skip) = some c_impl_parsed := by kernel_rfl
  have h2 : Try.f102.body = some (Try.f102.body.getD .skip) := by kernel_rfl
  have h3 : Try.f102.results.toList.map (cRes Try.prog) = [(some (.t 4)), (some (.t 5)), (some (.t 6))] := by kernel_rfl
  exact ⟨_, _, Try.func102, h2, Try.ntmps102, h1, h3, by decide⟩

def c_impl_LtlParse : ICode := (.seq (.reg [⟨(some 2), .mv, [(.c .snil)], none⟩, ⟨(some 3), .mv, [(.c (.int .i64 0))], none⟩, ⟨(some 4), .mv, [(.c (.int .i64 0))], none⟩]) (.seq (.reg [⟨(some 5), .mv, [(.t 0)], none⟩, ⟨(some 6), (.call 102), [(.t 5), (.c (.fn 103 []))], none⟩, ⟨(some 7), (.ext 0), [(.t 6)], none⟩, ⟨(some 8), (.ext 1), [(.t 6)], none⟩, ⟨(some 9), (.ext 2), [(.t 6)], none⟩, ⟨(some 2), .mv, [(.t 7)], none⟩, ⟨(some 3), .mv, [(.t 8)], none⟩, ⟨(some 4), .mv, [(.t 9)], none⟩]) .ret))
theorem b_impl_LtlParse : Body Try.prog 42 10 c_impl_LtlParse [(.t 2), (.t 3), (.t 4)] := by
  have h1 : comp Try.prog 10 (Try.f42.body.getD .skip) = some c_impl_LtlParse := by kernel_rfl
  have h2 : Try.f42.body = some (Try.f42.body.getD .skip) := by kernel_rfl
  have h3 : Try.f42.results.toList.map (cRes Try.prog) = [(some (.t 2)), (some (.t 3)), (some (.t 4))] := by kernel_rfl
  exact ⟨_, _, Try.func42, h2, Try.ntmps42, h1, h3, by decide⟩


theorem nodeRows_nov (l : List NodeD) : (nodeRows l).all AV.novs = true := by
  simp [nodeRows, nodeRow, AV.novs, AV.nov]

def GClip : GFun := fun xs objs Q => ∃ (n : Nat) (rows : List (List AV)), xs = [.ref 0 0 n] ∧ objs = [.arr 3 rows] ∧ n ≤ rows.length ∧ Q (.ref 0 0 n) [some (.arr 3 rows)]
theorem GClip_mk {n : Nat} {rows : List (List AV)} {Q : AV → List (Option AObj) → Prop} (h : n ≤ rows.length) (hq : Q (.ref 0 0 n) [some (.arr 3 rows)]) : GClip [.ref 0 0 n] [.arr 3 rows] Q := ⟨n, rows, rfl, rfl, h, hq⟩

theorem s_Clip : GenSound Try.prog 148 1 GClip := by
  have hR : Rely Try.prog (ctxOf []) := rely_nil mixed
  refine gen_of_aw b_slices_Clip_impl_Node_impl_Node ?_
  rintro xs objs Q - ⟨n, rows, rfl, rfl, hn, hq⟩ -
  refine ⟨by simp, vc2_sound hR _ _ _ _ _ ?_⟩
  conv => whnf
  repeat' (first
    | (refine And.intro (fun hb => ?_) (fun hb => ?_)
       all_goals (try simp only [decide_eq_true_eq, decide_eq_false_iff_not, Bool.not_eq_true', Bool.not_eq_false', Bool.not_not, ne_eq, length_ints, List.length_map, beq_iff_eq, bne_iff_ne, beq_eq_false_iff_ne, bne_eq_false_iff_eq, Int.not_le, Int.not_lt, ge_iff_le, gt_iff_lt, reduceCtorEq, not_false_eq_true, not_true_eq_false, Bool.false_eq_true, Bool.true_eq_false] at hb)
       all_goals (try (exfalso; omega))
       all_goals conv => whnf)
    | (refine And.intro (live_all rfl) ?_; conv => whnf)
    | (refine And.intro rfl ?_; conv => whnf)
    | (refine ⟨_, IntWalk.i64_in _ (by omega), ?_⟩; conv => whnf)
    | (refine And.intro (okcs_all rfl) ?_; conv => whnf)
    | (refine And.intro (okvs_all rfl) ?_; conv => whnf)
    | (refine And.intro (frees_all rfl) ?_; conv => whnf)
    | (refine And.intro (bsl_all rfl) ?_; conv => whnf)
    | (refine And.intro (lens_all rfl) ?_; conv => whnf)
    | (refine And.intro (Nat.le_of_ble_eq_true rfl) ?_; conv => whnf)
    | (rw [ints_at (by omega)]; conv => whnf)
    | (rw [ints_at0 (by omega)]; conv => whnf)
    | (rw [ints_at' (by omega) (by omega)]; conv => whnf)
    | (refine And.intro (show (_ + 1) * _ ≤ _ by omega) ?_; conv => whnf)
    | (refine And.intro (show _ + 1 ≤ _ by omega) ?_; conv => whnf)
    | (refine And.intro (by first | omega | (simp only [length_ints]; omega)) ?_; conv => whnf)
    | fail)
  refine ⟨.inl rfl, ?_⟩
  conv => whnf
  exact ⟨[some 0], .ref 0 0 n, [some (.arr 3 rows)], ⟨rfl, And.intro (And.intro rfl rfl) trivial⟩, rfl, rfl, hq⟩

def parseR (q : PR) : AV := .tup [if q.c = 0 then .ref 0 0 q.l.length else .snil, .int .i64 q.p, .int .i64 q.c]
def parseO (q : PR) : List AObj := if q.c = 0 then [.arr 3 (nodeRows q.l)] else []
def RParsed (xs : List AV) (r : AV) (objs : List AObj) : Prop := ∃ s, xs = [.str s, .fn 103 []] ∧ r = parseR (parseL s) ∧ objs = parseO (parseL s)
theorem RParsed_bad {s : List UInt8} (h : (parseL s).c ≠ 0) : RParsed [.str s, .fn 103 []] (.tup [.snil, .int .i64 (parseL s).p, .int .i64 (parseL s).c]) [] := ⟨s, rfl, by unfold parseR; rw [if_neg h], by unfold parseO; rw [if_neg h]⟩
theorem RParsed_ok {s : List UInt8} (h : (parseL s).c = 0) : RParsed [.str s, .fn 103 []] (.tup [.ref 0 0 (parseL s).l.length, .int .i64 (parseL s).p, .int .i64 (parseL s).c]) [.arr 3 (nodeRows (parseL s).l)] := ⟨s, rfl, by unfold parseR; rw [if_pos h], by unfold parseO; rw [if_pos h]⟩

set_option maxHeartbeats 4000000 in
theorem s_impl_parsed : PureSound Try.prog 102 RParsed := by
  have hR : Rely Try.prog (ctxOf [(103, .gen 2 (GRd 1607 0)), (148, .gen 1 GClip)]) :=
    rely_cons b_impl_ltlSum.has (s_all 1607).1 (rely_cons b_slices_Clip_impl_Node_impl_Node.has s_Clip (rely_nil mixed))
  refine pure_of_aw b_impl_parsed ?_
  rintro xs r objs ⟨s, rfl, rfl, rfl⟩ -
  refine ⟨by simp, ?_⟩
  refine Aw.meet (α := Unit) (fun _ => True) (fun _ => [(0, .str s), (1, .fn 103 [])]) (fun _ => []) ?_ ?_
  · refine vc2_sound hR _ _ _ _ _ ?_
    conv => whnf
    repeat' (first
      | (refine And.intro (fun hb => ?_) (fun hb => ?_)
         all_goals (try simp only [decide_eq_true_eq, decide_eq_false_iff_not, Bool.not_eq_true', Bool.not_eq_false', Bool.not_not, ne_eq, length_ints, List.length_map, beq_iff_eq, bne_iff_ne, beq_eq_false_iff_ne, bne_eq_false_iff_eq, Int.not_le, Int.not_lt, ge_iff_le, gt_iff_lt, reduceCtorEq, not_false_eq_true, not_true_eq_false, Bool.false_eq_true, Bool.true_eq_false] at hb)
         all_goals (try (exfalso; omega))
         all_goals conv => whnf)
      | (refine And.intro (live_all rfl) ?_; conv => whnf)
      | (refine And.intro rfl ?_; conv => whnf)
      | (refine ⟨_, IntWalk.i64_in _ (by omega), ?_⟩; conv => whnf)
      | (refine And.intro (okcs_all rfl) ?_; conv => whnf)
      | (refine And.intro (okvs_all rfl) ?_; conv => whnf)
      | (refine And.intro (frees_all rfl) ?_; conv => whnf)
      | (refine And.intro (bsl_all rfl) ?_; conv => whnf)
      | (refine And.intro (lens_all rfl) ?_; conv => whnf)
      | (refine And.intro (Nat.le_of_ble_eq_true rfl) ?_; conv => whnf)
      | (rw [ints_at (by omega)]; conv => whnf)
      | (rw [ints_at0 (by omega)]; conv => whnf)
      | (rw [ints_at' (by omega) (by omega)]; conv => whnf)
      | (refine And.intro (show (_ + 1) * _ ≤ _ by omega) ?_; conv => whnf)
      | (refine And.intro (show _ + 1 ≤ _ by omega) ?_; conv => whnf)
      | (refine And.intro (by first | omega | (simp only [length_ints]; omega)) ?_; conv => whnf)
      | fail)
    refine ⟨(), trivial, [], rfl, rfl, trivial, ?_⟩
    repeat' (first
      | exact trivial
      | refine ⟨?_, ?_⟩
      | fail)
    all_goals first
      | with_reducible rfl
      | (conv => whnf
         try left
         conv => lhs; whnf
         first
           | rfl
           | exact congrArg (AV.int .i64) (by omega)
           | skip)
  rintro _ -
  refine Aw.meet (α := Unit) (fun _ => s.length ≤ 200) (fun _ => [(0, .str s), (1, .fn 103 [])]) (fun _ => []) ?_ ?_
  · refine vc2_sound hR _ _ _ _ _ ?_
    conv => whnf
    repeat' (first
      | (refine And.intro (fun hb => ?_) (fun hb => ?_)
         all_goals (try simp only [decide_eq_true_eq, decide_eq_false_iff_not, Bool.not_eq_true', Bool.not_eq_false', Bool.not_not, ne_eq, length_ints, List.length_map, beq_iff_eq, bne_iff_ne, beq_eq_false_iff_ne, bne_eq_false_iff_eq, Int.not_le, Int.not_lt, ge_iff_le, gt_iff_lt, reduceCtorEq, not_false_eq_true, not_true_eq_false, Bool.false_eq_true, Bool.true_eq_false] at hb)
         all_goals (try (exfalso; omega))
         all_goals conv => whnf)
      | (refine And.intro (live_all rfl) ?_; conv => whnf)
      | (refine And.intro rfl ?_; conv => whnf)
      | (refine ⟨_, IntWalk.i64_in _ (by omega), ?_⟩; conv => whnf)
      | (refine And.intro (okcs_all rfl) ?_; conv => whnf)
      | (refine And.intro (okvs_all rfl) ?_; conv => whnf)
      | (refine And.intro (frees_all rfl) ?_; conv => whnf)
      | (refine And.intro (bsl_all rfl) ?_; conv => whnf)
      | (refine And.intro (lens_all rfl) ?_; conv => whnf)
      | (refine And.intro (Nat.le_of_ble_eq_true rfl) ?_; conv => whnf)
      | (rw [ints_at (by omega)]; conv => whnf)
      | (rw [ints_at0 (by omega)]; conv => whnf)
      | (rw [ints_at' (by omega) (by omega)]; conv => whnf)
      | (refine And.intro (show (_ + 1) * _ ≤ _ by omega) ?_; conv => whnf)
      | (refine And.intro (show _ + 1 ≤ _ by omega) ?_; conv => whnf)
      | (refine And.intro (by first | omega | (simp only [length_ints]; omega)) ?_; conv => whnf)
      | fail)
    · have e : parseL s = ⟨0, 1, []⟩ := by unfold parseL; rw [if_pos (by omega)]
      rw [e]
      refine ⟨.inl rfl, ?_⟩
      conv => whnf
      refine ⟨[], ⟨rfl, trivial⟩, ?_, rfl, rfl⟩
      repeat' (first | exact trivial | refine And.intro ?_ ?_)
      all_goals
        conv => whnf
        left
        conv => lhs; whnf
      all_goals rfl
    · refine ⟨(), by omega, [], rfl, rfl, trivial, ?_⟩
      repeat' (first
        | exact trivial
        | refine ⟨?_, ?_⟩
        | fail)
      all_goals first
        | with_reducible rfl
        | (conv => whnf
           try left
           conv => lhs; whnf
           first
             | rfl
             | exact congrArg (AV.int .i64) (by omega)
             | skip)
  rintro _ hs
  refine Aw.meet (α := Unit) (fun _ => True) (fun _ => [(0, .str s), (1, .fn 103 []), (7, .ptr 0 0 0)]) (fun _ => [some (rdO s 0 0 1 0), some (.arr 3 [])]) ?_ ?_
  · refine vc2_sound hR _ _ _ _ _ ?_
    conv => whnf
    repeat' (first
      | (refine And.intro (fun hb => ?_) (fun hb => ?_)
         all_goals (try simp only [decide_eq_true_eq, decide_eq_false_iff_not, Bool.not_eq_true', Bool.not_eq_false', Bool.not_not, ne_eq, length_ints, List.length_map, beq_iff_eq, bne_iff_ne, beq_eq_false_iff_ne, bne_eq_false_iff_eq, Int.not_le, Int.not_lt, ge_iff_le, gt_iff_lt, reduceCtorEq, not_false_eq_true, not_true_eq_false, Bool.false_eq_true, Bool.true_eq_false] at hb)
         all_goals (try (exfalso; omega))
         all_goals conv => whnf)
      | (refine And.intro (live_all rfl) ?_; conv => whnf)
      | (refine And.intro rfl ?_; conv => whnf)
      | (refine ⟨_, IntWalk.i64_in _ (by omega), ?_⟩; conv => whnf)
      | (refine And.intro (okcs_all rfl) ?_; conv => whnf)
      | (refine And.intro (okvs_all rfl) ?_; conv => whnf)
      | (refine And.intro (frees_all rfl) ?_; conv => whnf)
      | (refine And.intro (bsl_all rfl) ?_; conv => whnf)
      | (refine And.intro (lens_all rfl) ?_; conv => whnf)
      | (refine And.intro (Nat.le_of_ble_eq_true rfl) ?_; conv => whnf)
      | (rw [ints_at (by omega)]; conv => whnf)
      | (rw [ints_at0 (by omega)]; conv => whnf)
      | (rw [ints_at' (by omega) (by omega)]; conv => whnf)
      | (refine And.intro (show (_ + 1) * _ ≤ _ by omega) ?_; conv => whnf)
      | (refine And.intro (show _ + 1 ≤ _ by omega) ?_; conv => whnf)
      | (refine And.intro (by first | omega | (simp only [length_ints]; omega)) ?_; conv => whnf)
      | fail)
    refine ⟨(), trivial, [some 0, none], rfl, rfl, ?_, ?_⟩
    · exact And.intro (And.intro (.inl rfl) (And.intro (.inl rfl) (And.intro (.inl rfl) (And.intro ⟨rfl, rfl, rfl⟩ (And.intro (.inl rfl) trivial))))) (And.intro rfl trivial)
    · repeat' (first
        | exact trivial
        | refine ⟨?_, ?_⟩
        | fail)
      all_goals first
        | with_reducible rfl
        | (conv => whnf
           try left
           conv => lhs; whnf
           first
             | rfl
             | exact congrArg (AV.int .i64) (by omega)
             | skip)
  rintro _ -
  refine vc2_sound hR _ _ _ _ _ ?_
  conv => whnf
  repeat' (first
    | (refine And.intro (fun hb => ?_) (fun hb => ?_)
       all_goals (try simp only [decide_eq_true_eq, decide_eq_false_iff_not, Bool.not_eq_true', Bool.not_eq_false', Bool.not_not, ne_eq, length_ints, List.length_map, beq_iff_eq, bne_iff_ne, beq_eq_false_iff_ne, bne_eq_false_iff_eq, Int.not_le, Int.not_lt, ge_iff_le, gt_iff_lt, reduceCtorEq, not_false_eq_true, not_true_eq_false, Bool.false_eq_true, Bool.true_eq_false] at hb)
       all_goals (try (exfalso; omega))
       all_goals conv => whnf)
    | (refine And.intro (live_all rfl) ?_; conv => whnf)
    | (refine And.intro rfl ?_; conv => whnf)
    | (refine ⟨_, IntWalk.i64_in _ (by omega), ?_⟩; conv => whnf)
    | (refine And.intro (okcs_all rfl) ?_; conv => whnf)
    | (refine And.intro (okvs_all rfl) ?_; conv => whnf)
    | (refine And.intro (frees_all rfl) ?_; conv => whnf)
    | (refine And.intro (bsl_all rfl) ?_; conv => whnf)
    | (refine And.intro (lens_all rfl) ?_; conv => whnf)
    | (refine And.intro (Nat.le_of_ble_eq_true rfl) ?_; conv => whnf)
    | (rw [ints_at (by omega)]; conv => whnf)
    | (rw [ints_at0 (by omega)]; conv => whnf)
    | (rw [ints_at' (by omega) (by omega)]; conv => whnf)
    | (refine And.intro (show (_ + 1) * _ ≤ _ by omega) ?_; conv => whnf)
    | (refine And.intro (show _ + 1 ≤ _ by omega) ?_; conv => whnf)
    | (refine And.intro (by first | omega | (simp only [length_ints]; omega)) ?_; conv => whnf)
    | (refine ⟨GRdOf_mk (xs0 := []) (pre := fits 0 1607) (res := fun s r => rd s 1607 0 r) (PR.mk 0 0 []) (by omega) (Nat.zero_le _) (Nat.le_refl _) (by simp only [fits, need, rank]; omega) (fun q a1 a2 a3 a4 => ?_)⟩; conv => whnf)
    | (refine ⟨GClip_mk (by rw [length_nodeRows]; exact Nat.le_refl _) ?_⟩; conv => whnf)
    | fail)
  · have e : parseL s = ⟨q.p, q.c, []⟩ := by
      unfold parseL
      rw [if_neg (by omega)]
      dsimp only
      rw [if_pos (by rw [← a1.2.1]; exact hb), ← a1.1, ← a1.2.1]
    rw [e]
    unfold parseR parseO
    dsimp only
    rw [if_neg hb, if_neg hb]
    refine ⟨.inl rfl, ?_⟩
    conv => whnf
    refine ⟨[], ⟨rfl, trivial⟩, ?_, rfl, rfl⟩
    repeat' (first | exact trivial | refine And.intro ?_ ?_)
    all_goals
      conv => whnf
      left
      conv => lhs; whnf
    all_goals rfl
  · have e : parseL s = ⟨q.p, 5, []⟩ := by
      unfold parseL
      rw [if_neg (by omega), ← PR.sim_eq a1 (by assumption)]
      dsimp only
      rw [if_neg (by omega), if_pos (by omega)]
    rw [e]
    refine ⟨.inl rfl, ?_⟩
    conv => whnf
    refine ⟨[], ⟨rfl, trivial⟩, ?_, rfl, rfl⟩
    repeat' (first | exact trivial | refine And.intro ?_ ?_)
    all_goals
      conv => whnf
      left
      conv => lhs; whnf
    all_goals rfl
  · have e : parseL s = ⟨0, 4, []⟩ := by
      unfold parseL
      rw [if_neg (by omega), ← PR.sim_eq a1 (by assumption)]
      dsimp only
      rw [if_neg (by omega), if_neg (by omega), if_pos (by omega)]
    rw [e]
    refine ⟨.inl rfl, ?_⟩
    conv => whnf
    refine ⟨[], ⟨rfl, trivial⟩, ?_, rfl, rfl⟩
    repeat' (first | exact trivial | refine And.intro ?_ ?_)
    all_goals
      conv => whnf
      left
      conv => lhs; whnf
    all_goals rfl
  · have e : parseL s = ⟨s.length, 0, q.l⟩ := by
      unfold parseL
      rw [if_neg (by omega), ← PR.sim_eq a1 (by assumption)]
      dsimp only
      rw [if_neg (by omega), if_neg (by omega), if_neg (by omega)]
    rw [e]
    refine ⟨.inl rfl, ?_⟩
    conv => whnf
    refine ⟨[some 2], ⟨rfl, And.intro (And.intro rfl rfl) trivial⟩, And.intro rfl (And.intro (.inl rfl) (And.intro (.inl rfl) trivial)), rfl, by simp [parseO, AObj.nov, nodeRows_nov]⟩

def RLtlParse (xs : List AV) (r : AV) (objs : List AObj) : Prop := ∃ s, xs = [.str s] ∧ r = parseR (parseL s) ∧ objs = parseO (parseL s)
theorem RLtlParse_bad {s : List UInt8} (h : (parseL s).c ≠ 0) : RLtlParse [.str s] (.tup [.snil, .int .i64 (parseL s).p, .int .i64 (parseL s).c]) [] := ⟨s, rfl, by unfold parseR; rw [if_neg h], by unfold parseO; rw [if_neg h]⟩
theorem RLtlParse_ok {s : List UInt8} (h : (parseL s).c = 0) : RLtlParse [.str s] (.tup [.ref 0 0 (parseL s).l.length, .int .i64 (parseL s).p, .int .i64 (parseL s).c]) [.arr 3 (nodeRows (parseL s).l)] := ⟨s, rfl, by unfold parseR; rw [if_pos h], by unfold parseO; rw [if_pos h]⟩

theorem s_impl_LtlParse : PureSound Try.prog 42 RLtlParse := by
  have hR : Rely Try.prog (ctxOf [(102, .pure RParsed)]) := rely_cons b_impl_parsed.has s_impl_parsed (rely_nil mixed)
  refine pure_of_aw b_impl_LtlParse ?_
  rintro xs r objs ⟨s, rfl, rfl, rfl⟩ -
  refine ⟨by simp, vc2_sound hR _ _ _ _ _ ?_⟩
  by_cases h : (parseL s).c = 0
  · conv => whnf
    repeat' (first
      | (refine And.intro (fun hb => ?_) (fun hb => ?_)
         all_goals (try simp only [decide_eq_true_eq, decide_eq_false_iff_not, Bool.not_eq_true', Bool.not_eq_false', Bool.not_not, ne_eq, length_ints, List.length_map, beq_iff_eq, bne_iff_ne, beq_eq_false_iff_ne, bne_eq_false_iff_eq, Int.not_le, Int.not_lt, ge_iff_le, gt_iff_lt, reduceCtorEq, not_false_eq_true, not_true_eq_false, Bool.false_eq_true, Bool.true_eq_false] at hb)
         all_goals (try (exfalso; omega))
         all_goals conv => whnf)
      | (refine And.intro (live_all rfl) ?_; conv => whnf)
      | (refine And.intro rfl ?_; conv => whnf)
      | (refine ⟨_, IntWalk.i64_in _ (by omega), ?_⟩; conv => whnf)
      | (refine And.intro (okcs_all rfl) ?_; conv => whnf)
      | (refine And.intro (okvs_all rfl) ?_; conv => whnf)
      | (refine And.intro (frees_all rfl) ?_; conv => whnf)
      | (refine And.intro (bsl_all rfl) ?_; conv => whnf)
      | (refine And.intro (lens_all rfl) ?_; conv => whnf)
      | (refine And.intro (Nat.le_of_ble_eq_true rfl) ?_; conv => whnf)
      | (rw [ints_at (by omega)]; conv => whnf)
      | (rw [ints_at0 (by omega)]; conv => whnf)
      | (rw [ints_at' (by omega) (by omega)]; conv => whnf)
      | (refine And.intro (show (_ + 1) * _ ≤ _ by omega) ?_; conv => whnf)
      | (refine And.intro (show _ + 1 ≤ _ by omega) ?_; conv => whnf)
      | (refine And.intro (by first | omega | (simp only [length_ints]; omega)) ?_; conv => whnf)
      | (refine ⟨_, _, RParsed_ok h, ?_⟩; conv => whnf)
      | fail)
    unfold parseR parseO
    rw [if_pos h, if_pos h]
    refine ⟨.inl rfl, ?_⟩
    conv => whnf
    exact ⟨[some 0], ⟨rfl, And.intro (And.intro rfl rfl) trivial⟩, And.intro rfl (And.intro (.inl rfl) (And.intro (.inl rfl) trivial)), rfl, by simp [AObj.nov, nodeRows_nov]⟩
  · conv => whnf
    repeat' (first
      | (refine And.intro (fun hb => ?_) (fun hb => ?_)
         all_goals (try simp only [decide_eq_true_eq, decide_eq_false_iff_not, Bool.not_eq_true', Bool.not_eq_false', Bool.not_not, ne_eq, length_ints, List.length_map, beq_iff_eq, bne_iff_ne, beq_eq_false_iff_ne, bne_eq_false_iff_eq, Int.not_le, Int.not_lt, ge_iff_le, gt_iff_lt, reduceCtorEq, not_false_eq_true, not_true_eq_false, Bool.false_eq_true, Bool.true_eq_false] at hb)
         all_goals (try (exfalso; omega))
         all_goals conv => whnf)
      | (refine And.intro (live_all rfl) ?_; conv => whnf)
      | (refine And.intro rfl ?_; conv => whnf)
      | (refine ⟨_, IntWalk.i64_in _ (by omega), ?_⟩; conv => whnf)
      | (refine And.intro (okcs_all rfl) ?_; conv => whnf)
      | (refine And.intro (okvs_all rfl) ?_; conv => whnf)
      | (refine And.intro (frees_all rfl) ?_; conv => whnf)
      | (refine And.intro (bsl_all rfl) ?_; conv => whnf)
      | (refine And.intro (lens_all rfl) ?_; conv => whnf)
      | (refine And.intro (Nat.le_of_ble_eq_true rfl) ?_; conv => whnf)
      | (rw [ints_at (by omega)]; conv => whnf)
      | (rw [ints_at0 (by omega)]; conv => whnf)
      | (rw [ints_at' (by omega) (by omega)]; conv => whnf)
      | (refine And.intro (show (_ + 1) * _ ≤ _ by omega) ?_; conv => whnf)
      | (refine And.intro (show _ + 1 ≤ _ by omega) ?_; conv => whnf)
      | (refine And.intro (by first | omega | (simp only [length_ints]; omega)) ?_; conv => whnf)
      | (refine ⟨_, _, RParsed_bad h, ?_⟩; conv => whnf)
      | fail)
    unfold parseR parseO
    rw [if_neg h, if_neg h]
    refine ⟨.inl rfl, ?_⟩
    conv => whnf
    refine ⟨[], ⟨rfl, trivial⟩, ?_, rfl, rfl⟩
    repeat' (first | exact trivial | refine And.intro ?_ ?_)
    all_goals
      conv => whnf
      left
      conv => lhs; whnf
    all_goals rfl

end Go.Proofs.Ytpfbkblgefddlaa.Ct

namespace Go.Proofs.Ytpfbkblgefddlaa.Ct
set_option linter.unusedSimpArgs false
set_option linter.unusedVariables false
open Go Go.Proofs Go.Proofs.Ytpfbkblgefddlaa.Av

def c_spec_l8Kind : ICode := (.seq (.reg [⟨(some 4), .mv, [(.c (.int .i64 0))], none⟩]) (.seq (.seq (.reg [⟨(some 5), .mv, [(.t 1)], none⟩, ⟨(some 6), (.bin .eql), [(.t 5), (.c (.int .i64 1))], none⟩]) (.cond (.t 6) (.seq (.seq (.reg [⟨(some 7), .mv, [(.t 0)], none⟩]) (.block 0 (.seq (.reg [⟨(some 9), (.bin .eql), [(.t 7), (.c (.int .u8 33))], none⟩, ⟨(some 8), .mv, [(.t 9)], none⟩]) (.cond (.t 8) (.seq (.reg [⟨(some 4), .mv, [(.c (.int .i64 4))], none⟩]) .ret) (.seq (.reg [⟨(some 11), (.bin .eql), [(.t 7), (.c (.int .u8 88))], none⟩, ⟨(some 10), .mv, [(.t 11)], none⟩]) (.cond (.t 10) (.seq (.reg [⟨(some 4), .mv, [(.c (.int .i64 7))], none⟩]) .ret) (.seq (.reg [⟨(some 13), (.bin .eql), [(.t 7), (.c (.int .u8 70))], none⟩, ⟨(some 12), .mv, [(.t 13)], none⟩]) (.cond (.t 12) (.seq (.reg [⟨(some 4), .mv, [(.c (.int .i64 10))], none⟩]) .ret) (.seq (.reg [⟨(some 15), (.bin .eql), [(.t 7), (.c (.int .u8 71))], none⟩, ⟨(some 14), .mv, [(.t 15)], none⟩]) (.cond (.t 14) (.seq (.reg [⟨(some 4), .mv, [(.c (.int .i64 11))], none⟩]) .ret) .skip)))))))))) (.seq (.reg [⟨(some 4), .mv, [(.c (.int .i64 0))], none⟩]) .ret)) .skip)) (.seq (.seq (.reg [⟨(some 16), .mv, [(.t 0)], none⟩]) (.block 1 (.seq (.reg [⟨(some 18), (.bin .eql), [(.t 16), (.c (.int .u8 85))], none⟩, ⟨(some 17), .mv, [(.t 18)], none⟩]) (.cond (.t 17) (.seq (.reg [⟨(some 4), .mv, [(.c (.int .i64 8))], none⟩]) .ret) (.seq (.reg [⟨(some 20), (.bin .eql), [(.t 16), (.c (.int .u8 82))], none⟩, ⟨(some 19), .mv, [(.t 20)], none⟩]) (.cond (.t 19) (.seq (.reg [⟨(some 4), .mv, [(.c (.int .i64 9))], none⟩]) .ret) .skip)))))) (.seq (.reg [⟨(some 4), .mv, [(.c (.int .i64 0))], none⟩]) .ret))))
theorem b_spec_l8Kind : Body Try.prog 153 21 c_spec_l8Kind [(.t 4)] := by
  have h1 : comp Try.prog 21 (Try.f153.body.getD .skip) = some c_spec_l8Kind := by kernel_rfl
  have h2 : Try.f153.body = some (Try.f153.body.getD .skip) := by kernel_rfl
  have h3 : Try.f153.results.toList.map (cRes Try.prog) = [(some (.t 4))] := by kernel_rfl
  exact ⟨_, _, Try.func153, h2, Try.ntmps153, h1, h3, by decide⟩

def c_spec_l8Read : ICode := (.seq (.reg [⟨(some 8), .mv, [(.c .snil)], none⟩, ⟨(some 9), .mv, [(.c (.int .i64 0))], none⟩, ⟨(some 10), .mv, [(.c (.int .i64 0))], none⟩]) (.seq (.seq (.reg [⟨(some 22), .mv, [(.t 2)], none⟩]) (.block 0 (.seq (.reg [⟨(some 24), (.bin .eql), [(.t 22), (.c (.int .i64 2))], none⟩, ⟨(some 23), .mv, [(.t 24)], none⟩]) (.cond (.t 23) (.seq (.reg [⟨(some 26), .mv, [(.t 0)], none⟩, ⟨(some 27), .mv, [(.t 1)], none⟩, ⟨(some 28), .mv, [(.t 3)], none⟩, ⟨(some 29), (.call 107), [(.t 26), (.t 27), (.c (.int .i64 3)), (.t 28)], none⟩, ⟨(some 25), .mv, [(.t 29)], none⟩, ⟨(some 30), (.ext 0), [(.t 25)], none⟩, ⟨(some 31), (.ext 1), [(.t 25)], none⟩, ⟨(some 32), (.ext 2), [(.t 25)], none⟩, ⟨(some 11), .mv, [(.t 30)], none⟩, ⟨(some 12), .mv, [(.t 31)], none⟩, ⟨(some 13), .mv, [(.t 32)], none⟩]) (.seq (.seq (.reg [⟨(some 33), .mv, [(.t 13)], none⟩, ⟨(some 34), (.bin .neq), [(.t 33), (.c (.int .i64 0))], none⟩, ⟨(some 35), .mv, [(.t 34)], none⟩, ⟨(some 36), .mv, [(.t 12)], (some (35, false))⟩, ⟨(some 37), .mv, [(.t 0)], (some (35, false))⟩, ⟨(some 38), .lens, [(.t 37)], (some (35, false))⟩, ⟨(some 39), (.bin .geq), [(.t 36), (.t 38)], (some (35, false))⟩, ⟨(some 40), .pick, [(.t 35), (.c (.bool true)), (.t 39)], none⟩, ⟨(some 41), .mv, [(.t 40)], none⟩, ⟨(some 42), .mv, [(.t 0)], (some (41, false))⟩, ⟨(some 43), .mv, [(.t 12)], (some (41, false))⟩, ⟨(some 44), .idx, [(.t 42), (.t 43)], (some (41, false))⟩, ⟨(some 45), (.call 153), [(.t 44), (.c (.int .i64 2))], (some (41, false))⟩, ⟨(some 46), (.bin .eql), [(.t 45), (.c (.int .i64 0))], (some (41, false))⟩, ⟨(some 47), .pick, [(.t 41), (.c (.bool true)), (.t 46)], none⟩]) (.cond (.t 47) (.seq (.reg [⟨(some 48), .mv, [(.t 11)], none⟩, ⟨(some 49), .mv, [(.t 12)], none⟩, ⟨(some 50), .mv, [(.t 13)], none⟩, ⟨(some 8), .mv, [(.t 48)], none⟩, ⟨(some 9), .mv, [(.t 49)], none⟩, ⟨(some 10), .mv, [(.t 50)], none⟩]) .ret) .skip)) (.seq (.reg [⟨(some 51), .mv, [(.t 0)], none⟩, ⟨(some 52), .mv, [(.t 12)], none⟩, ⟨(some 53), .idx, [(.t 51), (.t 52)], none⟩, ⟨(some 54), (.call 153), [(.t 53), (.c (.int .i64 2))], none⟩, ⟨(some 14), .mv, [(.t 54)], none⟩]) (.seq (.reg [⟨(some 55), .mv, [(.t 11)], none⟩, ⟨(some 56), .len, [(.t 55)], none⟩, ⟨(some 57), (.bin .sub), [(.t 56), (.c (.int .i64 1))], none⟩, ⟨(some 15), .mv, [(.t 57)], none⟩]) (.seq (.reg [⟨(some 59), .mv, [(.t 0)], none⟩, ⟨(some 60), .mv, [(.t 12)], none⟩, ⟨(some 61), (.bin .add), [(.t 60), (.c (.int .i64 1))], none⟩, ⟨(some 62), .mv, [(.t 11)], none⟩, ⟨(some 63), (.call 107), [(.t 59), (.t 61), (.c (.int .i64 2)), (.t 62)], none⟩, ⟨(some 58), .mv, [(.t 63)], none⟩, ⟨(some 64), (.ext 0), [(.t 58)], none⟩, ⟨(some 65), (.ext 1), [(.t 58)], none⟩, ⟨(some 66), (.ext 2), [(.t 58)], none⟩, ⟨(some 11), .mv, [(.t 64)], none⟩, ⟨(some 12), .mv, [(.t 65)], none⟩, ⟨(some 13), .mv, [(.t 66)], none⟩]) (.seq (.seq (.reg [⟨(some 67), .mv, [(.t 13)], none⟩, ⟨(some 68), (.bin .eql), [(.t 67), (.c (.int .i64 0))], none⟩]) (.cond (.t 68) (.reg [⟨(some 69), .mv, [(.t 11)], none⟩, ⟨(some 70), .mv, [(.t 14)], none⟩, ⟨(some 71), .mv, [(.t 15)], none⟩, ⟨(some 72), .mv, [(.t 11)], none⟩, ⟨(some 73), .len, [(.t 72)], none⟩, ⟨(some 74), (.bin .sub), [(.t 73), (.c (.int .i64 1))], none⟩, ⟨(some 75), (.bld [(.int .i64 0), (.int .i64 0), (.int .i64 0)] [(0, 1), (1, 1), (2, 1)]), [(.t 70), (.t 71), (.t 74)], none⟩, ⟨(some 76), (.bslv 3), [(.t 75)], none⟩, ⟨(some 77), (.app 3 24), [(.t 69), (.t 76)], none⟩, ⟨(some 11), .mv, [(.t 77)], none⟩]) .skip)) (.seq (.reg [⟨(some 78), .mv, [(.t 11)], none⟩, ⟨(some 79), .mv, [(.t 12)], none⟩, ⟨(some 80), .mv, [(.t 13)], none⟩, ⟨(some 8), .mv, [(.t 78)], none⟩, ⟨(some 9), .mv, [(.t 79)], none⟩, ⟨(some 10), .mv, [(.t 80)], none⟩]) .ret))))))) (.seq (.reg [⟨(some 82), (.bin .eql), [(.t 22), (.c (.int .i64 3))], none⟩, ⟨(some 81), .mv, [(.t 82)], none⟩]) (.cond (.t 81) (.seq (.reg [⟨(some 83), .mv, [(.t 0)], none⟩, ⟨(some 84), .mv, [(.t 1)], none⟩, ⟨(some 85), .mv, [(.t 3)], none⟩, ⟨(some 86), (.call 154), [(.t 83), (.t 84), (.t 85)], none⟩, ⟨(some 87), (.ext 0), [(.t 86)], none⟩, ⟨(some 88), (.ext 1), [(.t 86)], none⟩, ⟨(some 89), (.ext 2), [(.t 86)], none⟩, ⟨(some 8), .mv, [(.t 87)], none⟩, ⟨(some 9), .mv, [(.t 88)], none⟩, ⟨(some 10), .mv, [(.t 89)], none⟩]) .ret) .skip)))))) (.seq (.reg [⟨(some 90), (.bsl 1), [(.c (.int .u8 124)), (.c (.int .u8 38))], none⟩, ⟨(some 91), .mv, [(.t 2)], none⟩, ⟨(some 92), (.iadr 1), [(.t 90), (.t 91)], none⟩, ⟨(some 93), .ld1, [(.t 92)], none⟩, ⟨(some 16), .mv, [(.t 93)], none⟩]) (.seq (.reg [⟨(some 94), (.bsl 1), [(.c (.int .i64 6)), (.c (.int .i64 5))], none⟩, ⟨(some 95), .mv, [(.t 2)], none⟩, ⟨(some 96), (.iadr 1), [(.t 94), (.t 95)], none⟩, ⟨(some 97), .ld1, [(.t 96)], none⟩, ⟨(some 17), .mv, [(.t 97)], none⟩]) (.seq (.reg [⟨(some 99), .mv, [(.t 0)], none⟩, ⟨(some 100), .mv, [(.t 1)], none⟩, ⟨(some 101), .mv, [(.t 2)], none⟩, ⟨(some 102), (.bin .add), [(.t 101), (.c (.int .i64 1))], none⟩, ⟨(some 103), .mv, [(.t 3)], none⟩, ⟨(some 104), (.call 107), [(.t 99), (.t 100), (.t 102), (.t 103)], none⟩, ⟨(some 98), .mv, [(.t 104)], none⟩, ⟨(some 105), (.ext 0), [(.t 98)], none⟩, ⟨(some 106), (.ext 1), [(.t 98)], none⟩, ⟨(some 107), (.ext 2), [(.t 98)], none⟩, ⟨(some 18), .mv, [(.t 105)], none⟩, ⟨(some 19), .mv, [(.t 106)], none⟩, ⟨(some 20), .mv, [(.t 107)], none⟩]) (.seq (.block 1 (.loop (.seq (.seq (.reg [⟨(some 108), .mv, [(.t 20)], none⟩, ⟨(some 109), (.bin .eql), [(.t 108), (.c (.int .i64 0))], none⟩, ⟨(some 110), .mv, [(.t 109)], none⟩, ⟨(some 111), .mv, [(.t 19)], (some (110, true))⟩, ⟨(some 112), .mv, [(.t 0)], (some (110, true))⟩, ⟨(some 113), .lens, [(.t 112)], (some (110, true))⟩, ⟨(some 114), (.bin .lss), [(.t 111), (.t 113)], (some (110, true))⟩, ⟨(some 115), .pick, [(.t 110), (.t 114), (.c (.bool false))], none⟩, ⟨(some 116), .mv, [(.t 115)], none⟩, ⟨(some 117), .mv, [(.t 0)], (some (116, true))⟩, ⟨(some 118), .mv, [(.t 19)], (some (116, true))⟩, ⟨(some 119), .idx, [(.t 117), (.t 118)], (some (116, true))⟩, ⟨(some 120), .mv, [(.t 16)], (some (116, true))⟩, ⟨(some 121), (.bin .eql), [(.t 119), (.t 120)], (some (116, true))⟩, ⟨(some 122), .pick, [(.t 116), (.t 121), (.c (.bool false))], none⟩]) (.cond (.t 122) .skip (.exit 1))) (.block 2 (.seq (.reg [⟨(some 123), .mv, [(.t 18)], none⟩, ⟨(some 124), .len, [(.t 123)], none⟩, ⟨(some 125), (.bin .sub), [(.t 124), (.c (.int .i64 1))], none⟩, ⟨(some 21), .mv, [(.t 125)], none⟩]) (.seq (.reg [⟨(some 127), .mv, [(.t 0)], none⟩, ⟨(some 128), .mv, [(.t 19)], none⟩, ⟨(some 129), (.bin .add), [(.t 128), (.c (.int .i64 1))], none⟩, ⟨(some 130), .mv, [(.t 2)], none⟩, ⟨(some 131), (.bin .add), [(.t 130), (.c (.int .i64 1))], none⟩, ⟨(some 132), .mv, [(.t 18)], none⟩, ⟨(some 133), (.call 107), [(.t 127), (.t 129), (.t 131), (.t 132)], none⟩, ⟨(some 126), .mv, [(.t 133)], none⟩, ⟨(some 134), (.ext 0), [(.t 126)], none⟩, ⟨(some 135), (.ext 1), [(.t 126)], none⟩, ⟨(some 136), (.ext 2), [(.t 126)], none⟩, ⟨(some 18), .mv, [(.t 134)], none⟩, ⟨(some 19), .mv, [(.t 135)], none⟩, ⟨(some 20), .mv, [(.t 136)], none⟩]) (.seq (.reg [⟨(some 137), .mv, [(.t 20)], none⟩, ⟨(some 138), (.bin .eql), [(.t 137), (.c (.int .i64 0))], none⟩]) (.cond (.t 138) (.reg [⟨(some 139), .mv, [(.t 18)], none⟩, ⟨(some 140), .mv, [(.t 17)], none⟩, ⟨(some 141), .mv, [(.t 21)], none⟩, ⟨(some 142), .mv, [(.t 18)], none⟩, ⟨(some 143), .len, [(.t 142)], none⟩, ⟨(some 144), (.bin .sub), [(.t 143), (.c (.int .i64 1))], none⟩, ⟨(some 145), (.bld [(.int .i64 0), (.int .i64 0), (.int .i64 0)] [(0, 1), (1, 1), (2, 1)]), [(.t 140), (.t 141), (.t 144)], none⟩, ⟨(some 146), (.bslv 3), [(.t 145)], none⟩, ⟨(some 147), (.app 3 24), [(.t 139), (.t 146)], none⟩, ⟨(some 18), .mv, [(.t 147)], none⟩]) .skip)))))))) (.seq (.reg [⟨(some 148), .mv, [(.t 18)], none⟩, ⟨(some 149), .mv, [(.t 19)], none⟩, ⟨(some 150), .mv, [(.t 20)], none⟩, ⟨(some 8), .mv, [(.t 148)], none⟩, ⟨(some 9), .mv, [(.t 149)], none⟩, ⟨(some 10), .mv, [(.t 150)], none⟩]) .ret)))))))
theorem b_spec_l8Read : Body Try.prog 107 151 c_spec_l8Read [(.t 8), (.t 9), (.t 10)] := by
  have h1 : comp Try.prog 151 (Try.f107.body.getD .skip) = some c_spec_l8Read := by kernel_rfl
  have h2 : Try.f107.body = some (Try.f107.body.getD .skip) := by kernel_rfl
  have h3 : Try.f107.results.toList.map (cRes Try.prog) = [(some (.t 8)), (some (.t 9)), (some (.t 10))] := by kernel_rfl
  exact ⟨_, _, Try.func107, h2, Try.ntmps107, h1, h3, by decide⟩

def c_spec_l8Atom : ICode := (.seq (.reg [⟨(some 6), .mv, [(.c .snil)], none⟩, ⟨(some 7), .mv, [(.c (.int .i64 0))], none⟩, ⟨(some 8), .mv, [(.c (.int .i64 0))], none⟩]) (.seq (.seq (.reg [⟨(some 15), .mv, [(.t 1)], none⟩, ⟨(some 16), .mv, [(.t 0)], none⟩, ⟨(some 17), .lens, [(.t 16)], none⟩, ⟨(some 18), (.bin .geq), [(.t 15), (.t 17)], none⟩]) (.cond (.t 18) (.seq (.reg [⟨(some 19), .mv, [(.t 2)], none⟩, ⟨(some 20), .mv, [(.t 0)], none⟩, ⟨(some 21), .lens, [(.t 20)], none⟩, ⟨(some 6), .mv, [(.t 19)], none⟩, ⟨(some 7), .mv, [(.t 21)], none⟩, ⟨(some 8), .mv, [(.c (.int .i64 2))], none⟩]) .ret) .skip)) (.seq (.block 0 (.seq (.reg [⟨(some 23), .mv, [(.t 0)], none⟩, ⟨(some 24), .mv, [(.t 1)], none⟩, ⟨(some 25), .idx, [(.t 23), (.t 24)], none⟩, ⟨(some 26), (.bin .eql), [(.t 25), (.c (.int .u8 116))], none⟩, ⟨(some 22), .mv, [(.t 26)], none⟩]) (.cond (.t 22) (.seq (.reg [⟨(some 27), .mv, [(.t 2)], none⟩, ⟨(some 28), (.bld [(.int .i64 0), (.int .i64 0), (.int .i64 0)] [(0, 1)]), [(.c (.int .i64 1))], none⟩, ⟨(some 29), (.bslv 3), [(.t 28)], none⟩, ⟨(some 30), (.app 3 24), [(.t 27), (.t 29)], none⟩, ⟨(some 31), .mv, [(.t 1)], none⟩, ⟨(some 32), (.bin .add), [(.t 31), (.c (.int .i64 1))], none⟩, ⟨(some 6), .mv, [(.t 30)], none⟩, ⟨(some 7), .mv, [(.t 32)], none⟩, ⟨(some 8), .mv, [(.c (.int .i64 0))], none⟩]) .ret) (.seq (.reg [⟨(some 34), .mv, [(.t 0)], none⟩, ⟨(some 35), .mv, [(.t 1)], none⟩, ⟨(some 36), .idx, [(.t 34), (.t 35)], none⟩, ⟨(some 37), (.bin .eql), [(.t 36), (.c (.int .u8 102))], none⟩, ⟨(some 33), .mv, [(.t 37)], none⟩]) (.cond (.t 33) (.seq (.reg [⟨(some 38), .mv, [(.t 2)], none⟩, ⟨(some 39), (.bld [(.int .i64 0), (.int .i64 0), (.int .i64 0)] [(0, 1)]), [(.c (.int .i64 2))], none⟩, ⟨(some 40), (.bslv 3), [(.t 39)], none⟩, ⟨(some 41), (.app 3 24), [(.t 38), (.t 40)], none⟩, ⟨(some 42), .mv, [(.t 1)], none⟩, ⟨(some 43), (.bin .add), [(.t 42), (.c (.int .i64 1))], none⟩, ⟨(some 6), .mv, [(.t 41)], none⟩, ⟨(some 7), .mv, [(.t 43)], none⟩, ⟨(some 8), .mv, [(.c (.int .i64 0))], none⟩]) .ret) (.seq (.reg [⟨(some 45), .mv, [(.t 0)], none⟩, ⟨(some 46), .mv, [(.t 1)], none⟩, ⟨(some 47), .idx, [(.t 45), (.t 46)], none⟩, ⟨(some 48), (.bin .geq), [(.t 47), (.c (.int .u8 48))], none⟩, ⟨(some 49), .mv, [(.t 48)], none⟩, ⟨(some 50), .mv, [(.t 0)], (some (49, true))⟩, ⟨(some 51), .mv, [(.t 1)], (some (49, true))⟩, ⟨(some 52), .idx, [(.t 50), (.t 51)], (some (49, true))⟩, ⟨(some 53), (.cvt .i64), [(.t 52)], (some (49, true))⟩, ⟨(some 54), (.bin .lss), [(.t 53), (.c (.int .i64 51))], (some (49, true))⟩, ⟨(some 55), .pick, [(.t 49), (.t 54), (.c (.bool false))], none⟩, ⟨(some 44), .mv, [(.t 55)], none⟩]) (.cond (.t 44) (.seq (.reg [⟨(some 56), .mv, [(.t 2)], none⟩, ⟨(some 57), .mv, [(.t 0)], none⟩, ⟨(some 58), .mv, [(.t 1)], none⟩, ⟨(some 59), .idx, [(.t 57), (.t 58)], none⟩, ⟨(some 60), (.cvt .i64), [(.t 59)], none⟩, ⟨(some 61), (.bin .sub), [(.t 60), (.c (.int .i64 48))], none⟩, ⟨(some 62), (.bld [(.int .i64 0), (.int .i64 0), (.int .i64 0)] [(0, 1), (1, 1)]), [(.c (.int .i64 3)), (.t 61)], none⟩, ⟨(some 63), (.bslv 3), [(.t 62)], none⟩, ⟨(some 64), (.app 3 24), [(.t 56), (.t 63)], none⟩, ⟨(some 65), .mv, [(.t 1)], none⟩, ⟨(some 66), (.bin .add), [(.t 65), (.c (.int .i64 1))], none⟩, ⟨(some 6), .mv, [(.t 64)], none⟩, ⟨(some 7), .mv, [(.t 66)], none⟩, ⟨(some 8), .mv, [(.c (.int .i64 0))], none⟩]) .ret) (.seq (.reg [⟨(some 68), .mv, [(.t 0)], none⟩, ⟨(some 69), .mv, [(.t 1)], none⟩, ⟨(some 70), .idx, [(.t 68), (.t 69)], none⟩, ⟨(some 71), (.call 153), [(.t 70), (.c (.int .i64 1))], none⟩, ⟨(some 72), (.bin .gtr), [(.t 71), (.c (.int .i64 0))], none⟩, ⟨(some 67), .mv, [(.t 72)], none⟩]) (.cond (.t 67) (.seq (.reg [⟨(some 74), .mv, [(.t 0)], none⟩, ⟨(some 75), .mv, [(.t 1)], none⟩, ⟨(some 76), (.bin .add), [(.t 75), (.c (.int .i64 1))], none⟩, ⟨(some 77), .mv, [(.t 2)], none⟩, ⟨(some 78), (.call 154), [(.t 74), (.t 76), (.t 77)], none⟩, ⟨(some 73), .mv, [(.t 78)], none⟩, ⟨(some 79), (.ext 0), [(.t 73)], none⟩, ⟨(some 80), (.ext 1), [(.t 73)], none⟩, ⟨(some 81), (.ext 2), [(.t 73)], none⟩, ⟨(some 9), .mv, [(.t 79)], none⟩, ⟨(some 10), .mv, [(.t 80)], none⟩, ⟨(some 11), .mv, [(.t 81)], none⟩]) (.seq (.seq (.reg [⟨(some 82), .mv, [(.t 11)], none⟩, ⟨(some 83), (.bin .eql), [(.t 82), (.c (.int .i64 0))], none⟩]) (.cond (.t 83) (.reg [⟨(some 84), .mv, [(.t 9)], none⟩, ⟨(some 85), .mv, [(.t 0)], none⟩, ⟨(some 86), .mv, [(.t 1)], none⟩, ⟨(some 87), .idx, [(.t 85), (.t 86)], none⟩, ⟨(some 88), (.call 153), [(.t 87), (.c (.int .i64 1))], none⟩, ⟨(some 89), .mv, [(.t 9)], none⟩, ⟨(some 90), .len, [(.t 89)], none⟩, ⟨(some 91), (.bin .sub), [(.t 90), (.c (.int .i64 1))], none⟩, ⟨(some 92), (.bld [(.int .i64 0), (.int .i64 0), (.int .i64 0)] [(0, 1), (1, 1)]), [(.t 88), (.t 91)], none⟩, ⟨(some 93), (.bslv 3), [(.t 92)], none⟩, ⟨(some 94), (.app 3 24), [(.t 84), (.t 93)], none⟩, ⟨(some 9), .mv, [(.t 94)], none⟩]) .skip)) (.seq (.reg [⟨(some 95), .mv, [(.t 9)], none⟩, ⟨(some 96), .mv, [(.t 10)], none⟩, ⟨(some 97), .mv, [(.t 11)], none⟩, ⟨(some 6), .mv, [(.t 95)], none⟩, ⟨(some 7), .mv, [(.t 96)], none⟩, ⟨(some 8), .mv, [(.t 97)], none⟩]) .ret))) (.seq (.reg [⟨(some 99), .mv, [(.t 0)], none⟩, ⟨(some 100), .mv, [(.t 1)], none⟩, ⟨(some 101), .idx, [(.t 99), (.t 100)], none⟩, ⟨(some 102), (.bin .eql), [(.t 101), (.c (.int .u8 40))], none⟩, ⟨(some 98), .mv, [(.t 102)], none⟩]) (.cond (.t 98) (.seq (.reg [⟨(some 104), .mv, [(.t 0)], none⟩, ⟨(some 105), .mv, [(.t 1)], none⟩, ⟨(some 106), (.bin .add), [(.t 105), (.c (.int .i64 1))], none⟩, ⟨(some 107), .mv, [(.t 2)], none⟩, ⟨(some 108), (.call 107), [(.t 104), (.t 106), (.c (.int .i64 0)), (.t 107)], none⟩, ⟨(some 103), .mv, [(.t 108)], none⟩, ⟨(some 109), (.ext 0), [(.t 103)], none⟩, ⟨(some 110), (.ext 1), [(.t 103)], none⟩, ⟨(some 111), (.ext 2), [(.t 103)], none⟩, ⟨(some 12), .mv, [(.t 109)], none⟩, ⟨(some 13), .mv, [(.t 110)], none⟩, ⟨(some 14), .mv, [(.t 111)], none⟩]) (.seq (.block 1 (.seq (.reg [⟨(some 113), .mv, [(.t 14)], none⟩, ⟨(some 114), (.bin .neq), [(.t 113), (.c (.int .i64 0))], none⟩, ⟨(some 112), .mv, [(.t 114)], none⟩]) (.cond (.t 112) (.seq (.reg [⟨(some 115), .mv, [(.t 12)], none⟩, ⟨(some 116), .mv, [(.t 13)], none⟩, ⟨(some 117), .mv, [(.t 14)], none⟩, ⟨(some 6), .mv, [(.t 115)], none⟩, ⟨(some 7), .mv, [(.t 116)], none⟩, ⟨(some 8), .mv, [(.t 117)], none⟩]) .ret) (.seq (.reg [⟨(some 119), .mv, [(.t 13)], none⟩, ⟨(some 120), .mv, [(.t 0)], none⟩, ⟨(some 121), .lens, [(.t 120)], none⟩, ⟨(some 122), (.bin .geq), [(.t 119), (.t 121)], none⟩, ⟨(some 118), .mv, [(.t 122)], none⟩]) (.cond (.t 118) (.seq (.reg [⟨(some 123), .mv, [(.t 12)], none⟩, ⟨(some 124), .mv, [(.t 0)], none⟩, ⟨(some 125), .lens, [(.t 124)], none⟩, ⟨(some 6), .mv, [(.t 123)], none⟩, ⟨(some 7), .mv, [(.t 125)], none⟩, ⟨(some 8), .mv, [(.c (.int .i64 2))], none⟩]) .ret) (.seq (.reg [⟨(some 127), .mv, [(.t 0)], none⟩, ⟨(some 128), .mv, [(.t 13)], none⟩, ⟨(some 129), .idx, [(.t 127), (.t 128)], none⟩, ⟨(some 130), (.bin .neq), [(.t 129), (.c (.int .u8 41))], none⟩, ⟨(some 126), .mv, [(.t 130)], none⟩]) (.cond (.t 126) (.seq (.reg [⟨(some 131), .mv, [(.t 12)], none⟩, ⟨(some 132), .mv, [(.t 13)], none⟩, ⟨(some 6), .mv, [(.t 131)], none⟩, ⟨(some 7), .mv, [(.t 132)], none⟩, ⟨(some 8), .mv, [(.c (.int .i64 3))], none⟩]) .ret) .skip))))))) (.seq (.reg [⟨(some 133), .mv, [(.t 12)], none⟩, ⟨(some 134), .mv, [(.t 13)], none⟩, ⟨(some 135), (.bin .add), [(.t 134), (.c (.int .i64 1))], none⟩, ⟨(some 6), .mv, [(.t 133)], none⟩, ⟨(some 7), .mv, [(.t 135)], none⟩, ⟨(some 8), .mv, [(.c (.int .i64 0))], none⟩]) .ret))) .skip))))))))))) (.seq (.reg [⟨(some 136), .mv, [(.t 2)], none⟩, ⟨(some 137), .mv, [(.t 1)], none⟩, ⟨(some 6), .mv, [(.t 136)], none⟩, ⟨(some 7), .mv, [(.t 137)], none⟩, ⟨(some 8), .mv, [(.c (.int .i64 3))], none⟩]) .ret))))
theorem b_spec_l8Atom : Body Try.prog 154 138 c_spec_l8Atom [(.t 6), (.t 7), (.t 8)] := by
  have h1 : comp Try.prog 138 (Try.f154.body.getD .skip) = some c_spec_l8Atom := by kernel_rfl
  have h2 : Try.f154.body = some (Try.f154.body.getD .skip) := by kernel_rfl
  have h3 : Try.f154.results.toList.map (cRes Try.prog) = [(some (.t 6)), (some (.t 7)), (some (.t 8))] := by kernel_rfl
  exact ⟨_, _, Try.func154, h2, Try.ntmps154, h1, h3, by decide⟩

def c_spec_LtlParse : ICode := (.seq (.reg [⟨(some 2), .mv, [(.c .snil)], none⟩, ⟨(some 3), .mv, [(.c (.int .i64 0))], none⟩, ⟨(some 4), .mv, [(.c (.int .i64 0))], none⟩]) (.seq (.seq (.reg [⟨(some 8), .mv, [(.t 0)], none⟩, ⟨(some 9), .lens, [(.t 8)], none⟩, ⟨(some 10), (.bin .gtr), [(.t 9), (.c (.int .i64 200))], none⟩]) (.cond (.t 10) (.seq (.reg [⟨(some 11), .bsle, [], none⟩, ⟨(some 2), .mv, [(.t 11)], none⟩, ⟨(some 3), .mv, [(.c (.int .i64 0))], none⟩, ⟨(some 4), .mv, [(.c (.int .i64 1))], none⟩]) .ret) .skip)) (.seq (.reg [⟨(some 13), .mv, [(.t 0)], none⟩, ⟨(some 14), .bsle, [], none⟩, ⟨(some 15), (.call 107), [(.t 13), (.c (.int .i64 0)), (.c (.int .i64 0)), (.t 14)], none⟩, ⟨(some 12), .mv, [(.t 15)], none⟩, ⟨(some 16), (.ext 0), [(.t 12)], none⟩, ⟨(some 17), (.ext 1), [(.t 12)], none⟩, ⟨(some 18), (.ext 2), [(.t 12)], none⟩, ⟨(some 5), .mv, [(.t 16)], none⟩, ⟨(some 6), .mv, [(.t 17)], none⟩, ⟨(some 7), .mv, [(.t 18)], none⟩]) (.seq (.block 0 (.seq (.reg [⟨(some 20), .mv, [(.t 7)], none⟩, ⟨(some 21), (.bin .neq), [(.t 20), (.c (.int .i64 0))], none⟩, ⟨(some 19), .mv, [(.t 21)], none⟩]) (.cond (.t 19) (.seq (.reg [⟨(some 22), .bsle, [], none⟩, ⟨(some 23), .mv, [(.t 6)], none⟩, ⟨(some 24), .mv, [(.t 7)], none⟩, ⟨(some 2), .mv, [(.t 22)], none⟩, ⟨(some 3), .mv, [(.t 23)], none⟩, ⟨(some 4), .mv, [(.t 24)], none⟩]) .ret) (.seq (.reg [⟨(some 26), .mv, [(.t 6)], none⟩, ⟨(some 27), .mv, [(.t 0)], none⟩, ⟨(some 28), .lens, [(.t 27)], none⟩, ⟨(some 29), (.bin .lss), [(.t 26), (.t 28)], none⟩, ⟨(some 25), .mv, [(.t 29)], none⟩]) (.cond (.t 25) (.seq (.reg [⟨(some 30), .bsle, [], none⟩, ⟨(some 31), .mv, [(.t 6)], none⟩, ⟨(some 2), .mv, [(.t 30)], none⟩, ⟨(some 3), .mv, [(.t 31)], none⟩, ⟨(some 4), .mv, [(.c (.int .i64 5))], none⟩]) .ret) (.seq (.reg [⟨(some 33), .mv, [(.t 5)], none⟩, ⟨(some 34), .len, [(.t 33)], none⟩, ⟨(some 35), (.bin .gtr), [(.t 34), (.c (.int .i64 31))], none⟩, ⟨(some 32), .mv, [(.t 35)], none⟩]) (.cond (.t 32) (.seq (.reg [⟨(some 36), .bsle, [], none⟩, ⟨(some 2), .mv, [(.t 36)], none⟩, ⟨(some 3), .mv, [(.c (.int .i64 0))], none⟩, ⟨(some 4), .mv, [(.c (.int .i64 4))], none⟩]) .ret) .skip))))))) (.seq (.reg [⟨(some 37), .mv, [(.t 5)], none⟩, ⟨(some 38), .mv, [(.t 0)], none⟩, ⟨(some 39), .lens, [(.t 38)], none⟩, ⟨(some 2), .mv, [(.t 37)], none⟩, ⟨(some 3), .mv, [(.t 39)], none⟩, ⟨(some 4), .mv, [(.c (.int .i64 0))], none⟩]) .ret)))))
theorem b_spec_LtlParse : Body Try.prog 45 40 c_spec_LtlParse [(.t 2), (.t 3), (.t 4)] := by
  have h1 : comp Try.prog 40 (Try.f45.body.getD .skip) = some c_spec_LtlParse := by kernel_rfl
  have h2 : Try.f45.body = some (Try.f45.body.getD .skip) := by kernel_rfl
  have h3 : Try.f45.results.toList.map (cRes Try.prog) = [(some (.t 2)), (some (.t 3)), (some (.t 4))] := by kernel_rfl
  exact ⟨_, _, Try.func45, h2, Try.ntmps45, h1, h3, by decide⟩


/-- the kind of a sign of one part, or between two -/
def kindB (x : UInt8) (d : Int) : Int :=
  if d = 1 then (if x = 33 then 4 else if x = 88 then 7 else if x = 70 then 10 else if x = 71 then 11 else 0)
  else (if x = 85 then 8 else if x = 82 then 9 else 0)
def RKind (xs : List AV) (r : AV) (objs : List AObj) : Prop := ∃ (x : UInt8) (d : Int), xs = [.int .u8 x.toNat, .int .i64 d] ∧ r = .int .i64 (kindB x d) ∧ objs = []
theorem RKind_mk {x : UInt8} {d : Int} : RKind [.int .u8 (x.toNat : Int), .int .i64 d] (.int .i64 (kindB x d)) [] := ⟨x, d, rfl, rfl, rfl⟩
set_option maxHeartbeats 1000000 in
theorem s_spec_l8Kind : PureSound Try.prog 153 RKind := by
  have hR : Rely Try.prog (ctxOf []) := rely_nil mixed
  refine pure_of_aw b_spec_l8Kind ?_
  rintro xs r objs ⟨x, d, rfl, rfl, rfl⟩ -
  refine ⟨by simp, vc2_sound hR _ _ _ _ _ ?_⟩
  have h33 : (x.toNat : Int) = 33 → x = 33 := fun h => UInt8.toNat_inj.1 (show x.toNat = 33 by omega)
  have h88 : (x.toNat : Int) = 88 → x = 88 := fun h => UInt8.toNat_inj.1 (show x.toNat = 88 by omega)
  have h70 : (x.toNat : Int) = 70 → x = 70 := fun h => UInt8.toNat_inj.1 (show x.toNat = 70 by omega)
  have h71 : (x.toNat : Int) = 71 → x = 71 := fun h => UInt8.toNat_inj.1 (show x.toNat = 71 by omega)
  have h85 : (x.toNat : Int) = 85 → x = 85 := fun h => UInt8.toNat_inj.1 (show x.toNat = 85 by omega)
  have h82 : (x.toNat : Int) = 82 → x = 82 := fun h => UInt8.toNat_inj.1 (show x.toNat = 82 by omega)
  have n33 : ¬ (x.toNat : Int) = 33 → x ≠ 33 := fun h e => h (by rw [e]; rfl)
  have n88 : ¬ (x.toNat : Int) = 88 → x ≠ 88 := fun h e => h (by rw [e]; rfl)
  have n70 : ¬ (x.toNat : Int) = 70 → x ≠ 70 := fun h e => h (by rw [e]; rfl)
  have n71 : ¬ (x.toNat : Int) = 71 → x ≠ 71 := fun h e => h (by rw [e]; rfl)
  have n85 : ¬ (x.toNat : Int) = 85 → x ≠ 85 := fun h e => h (by rw [e]; rfl)
  have n82 : ¬ (x.toNat : Int) = 82 → x ≠ 82 := fun h e => h (by rw [e]; rfl)
  conv => whnf
  repeat' (first
    | (refine And.intro (fun hb => ?_) (fun hb => ?_)
       all_goals (try simp only [decide_eq_true_eq, decide_eq_false_iff_not, Bool.not_eq_true', Bool.not_eq_false', Bool.not_not, ne_eq, length_ints, List.length_map, beq_iff_eq, bne_iff_ne, beq_eq_false_iff_ne, bne_eq_false_iff_eq, Int.not_le, Int.not_lt, ge_iff_le, gt_iff_lt, reduceCtorEq, not_false_eq_true, not_true_eq_false, Bool.false_eq_true, Bool.true_eq_false] at hb)
       all_goals (try (exfalso; omega))
       all_goals conv => whnf)
    | (refine And.intro (live_all rfl) ?_; conv => whnf)
    | (refine And.intro rfl ?_; conv => whnf)
    | (refine ⟨_, IntWalk.i64_in _ (by omega), ?_⟩; conv => whnf)
    | (refine And.intro (okcs_all rfl) ?_; conv => whnf)
    | (refine And.intro (okvs_all rfl) ?_; conv => whnf)
    | (refine And.intro (frees_all rfl) ?_; conv => whnf)
    | (refine And.intro (bsl_all rfl) ?_; conv => whnf)
    | (refine And.intro (lens_all rfl) ?_; conv => whnf)
    | (refine And.intro (Nat.le_of_ble_eq_true rfl) ?_; conv => whnf)
    | (rw [ints_at (by omega)]; conv => whnf)
    | (rw [ints_at0 (by omega)]; conv => whnf)
    | (rw [ints_at' (by omega) (by omega)]; conv => whnf)
    | (refine And.intro (show (_ + 1) * _ ≤ _ by omega) ?_; conv => whnf)
    | (refine And.intro (show _ + 1 ≤ _ by omega) ?_; conv => whnf)
    | (refine And.intro (by first | omega | (simp only [length_ints]; omega)) ?_; conv => whnf)
    | fail)
  all_goals
    refine ⟨.inl rfl, ?_⟩
    conv => whnf
    refine ⟨[], ⟨rfl, trivial⟩, ?_, rfl, rfl⟩
    conv => whnf
    left
    conv => lhs; whnf
    refine congrArg (AV.int .i64) ?_
    unfold kindB
    first
    | (have := h33 (by omega); subst this; simp_all)
    | (have := h88 (by omega); subst this; simp_all)
    | (have := h70 (by omega); subst this; simp_all)
    | (have := h71 (by omega); subst this; simp_all)
    | (have := h85 (by omega); subst this; simp_all)
    | (have := h82 (by omega); subst this; simp_all)
    | (rw [if_pos (by omega), if_neg (n33 (by omega)), if_neg (n88 (by omega)), if_neg (n70 (by omega)), if_neg (n71 (by omega))])
    | (rw [if_neg (by omega), if_neg (n85 (by omega)), if_neg (n82 (by omega))])

def GS (b m : Nat) : GFun := fun xs objs Q => ∃ (s : List UInt8) (p : Nat) (l : List NodeD), xs = [.str s, .int .i64 ((p : Nat) : Int), .int .i64 ((m : Nat) : Int), .ref 0 0 l.length] ∧ objs = [.arr 3 (nodeRows l)] ∧ s.length ≤ 200 ∧ p ≤ s.length ∧ l.length ≤ p ∧ need s m p ≤ b ∧
  ∀ R, R = rd s b m ⟨p, 0, l⟩ → p ≤ R.p → R.p ≤ s.length → R.l.length + p ≤ l.length + R.p → Q (.tup [.ref 1 0 R.l.length, .int .i64 R.p, .int .i64 R.c]) [none, some (.arr 3 (nodeRows R.l))]
def GSLt (b : Nat) : GFun := fun xs objs Q => ∃ b' m, b' < b ∧ m ≤ 3 ∧ GS b' m xs objs Q
theorem GSLt_mk {b : Nat} (b' m : Nat) {s : List UInt8} {p : Nat} {l : List NodeD} {Q : AV → List (Option AObj) → Prop} (hb : b' < b) (h1 : s.length ≤ 200) (h2 : p ≤ s.length) (h3 : l.length ≤ p) (h4 : need s m p ≤ b')
    (hq : ∀ R, R = rd s b' m ⟨p, 0, l⟩ → p ≤ R.p → R.p ≤ s.length → R.l.length + p ≤ l.length + R.p → Q (.tup [.ref 1 0 R.l.length, .int .i64 R.p, .int .i64 R.c]) [none, some (.arr 3 (nodeRows R.l))]) (hm : m ≤ 3 := by omega) :
    GSLt b [.str s, .int .i64 ((p : Nat) : Int), .int .i64 ((m : Nat) : Int), .ref 0 0 l.length] [.arr 3 (nodeRows l)] Q := ⟨b', m, hb, hm, s, p, l, rfl, rfl, h1, h2, h3, h4, hq⟩
def GA (b : Nat) : GFun := fun xs objs Q => ∃ (s : List UInt8) (p : Nat) (l : List NodeD), xs = [.str s, .int .i64 ((p : Nat) : Int), .ref 0 0 l.length] ∧ objs = [.arr 3 (nodeRows l)] ∧ s.length ≤ 200 ∧ p ≤ s.length ∧ l.length ≤ p ∧ need s 3 p ≤ b ∧
  ∀ R, R = rd s b 3 ⟨p, 0, l⟩ → p ≤ R.p → R.p ≤ s.length → R.l.length + p ≤ l.length + R.p → Q (.tup [.ref 1 0 R.l.length, .int .i64 R.p, .int .i64 R.c]) [none, some (.arr 3 (nodeRows R.l))]
theorem GA_mk {b : Nat} {s : List UInt8} {p : Nat} {l : List NodeD} {Q : AV → List (Option AObj) → Prop} (h1 : s.length ≤ 200) (h2 : p ≤ s.length) (h3 : l.length ≤ p) (h4 : need s 3 p ≤ b)
    (hq : ∀ R, R = rd s b 3 ⟨p, 0, l⟩ → p ≤ R.p → R.p ≤ s.length → R.l.length + p ≤ l.length + R.p → Q (.tup [.ref 1 0 R.l.length, .int .i64 R.p, .int .i64 R.c]) [none, some (.arr 3 (nodeRows R.l))]) :
    GA b [.str s, .int .i64 ((p : Nat) : Int), .ref 0 0 l.length] [.arr 3 (nodeRows l)] Q := ⟨s, p, l, rfl, rfl, h1, h2, h3, h4, hq⟩

theorem two_ok {q : PR} {k f : Int} (h : q.c = 0) : q.two k f = ⟨q.p, 0, q.l ++ [⟨k, f, (q.l.length : Int) - 1⟩]⟩ := by unfold PR.two; rw [if_pos h]
theorem two_bad {q : PR} {k f : Int} (h : ¬ q.c = 0) : q.two k f = q := by unfold PR.two; rw [if_neg h]
theorem one_ok {q : PR} {k : Int} (h : q.c = 0) : q.one k = ⟨q.p, 0, q.l ++ [⟨k, (q.l.length : Int) - 1, 0⟩]⟩ := by unfold PR.one; rw [if_pos h]
theorem one_bad {q : PR} {k : Int} (h : ¬ q.c = 0) : q.one k = q := by unfold PR.one; rw [if_neg h]
theorem kind_two_of {x : UInt8} (h : ¬ kindB x 2 = 0) : (x = 85 ∧ kindB x 2 = 8) ∨ (x = 82 ∧ kindB x 2 = 9) := by
  unfold kindB at *
  rw [if_neg (by omega)] at *
  by_cases h1 : x = 85
  · subst h1; exact .inl ⟨rfl, rfl⟩
  · rw [if_neg h1] at *
    by_cases h2 : x = 82
    · subst h2; exact .inr ⟨rfl, rfl⟩
    · rw [if_neg h2] at h; omega
theorem kind_two_no {x : UInt8} (h : kindB x 2 = 0) : x ≠ 85 ∧ x ≠ 82 := by
  constructor <;> (intro e; subst e; revert h; decide)
theorem kind_one_of {x : UInt8} (h : 0 < kindB x 1) : (x = 33 ∧ kindB x 1 = 4) ∨ (x = 88 ∧ kindB x 1 = 7) ∨ (x = 70 ∧ kindB x 1 = 10) ∨ (x = 71 ∧ kindB x 1 = 11) := by
  unfold kindB at *
  rw [if_pos rfl] at *
  by_cases h1 : x = 33
  · subst h1; exact .inl ⟨rfl, rfl⟩
  rw [if_neg h1] at *
  by_cases h2 : x = 88
  · subst h2; exact .inr (.inl ⟨rfl, rfl⟩)
  rw [if_neg h2] at *
  by_cases h3 : x = 70
  · subst h3; exact .inr (.inr (.inl ⟨rfl, rfl⟩))
  rw [if_neg h3] at *
  by_cases h4 : x = 71
  · subst h4; exact .inr (.inr (.inr ⟨rfl, rfl⟩))
  rw [if_neg h4] at h; omega
theorem kind_one_no {x : UInt8} (h : kindB x 1 ≤ 0) : x ≠ 33 ∧ x ≠ 88 ∧ x ≠ 70 ∧ x ≠ 71 := by
  refine ⟨?_, ?_, ?_, ?_⟩ <;> (intro e; subst e; revert h; decide)
theorem kindB_le (x : UInt8) (d : Int) : 0 ≤ kindB x d ∧ kindB x d ≤ 11 := by
  unfold kindB
  (repeat' split) <;> omega

theorem rd_2k {s : List UInt8} {b : Nat} {r q : PR} (e : q = rd s b 3 r) (hc : q.c = 0) (hp : q.p < s.length) (hk : ¬ kindB (s.getD q.p 0) 2 = 0) : rd s (b + 1) 2 r = (rd s b 2 ⟨q.p + 1, 0, q.l⟩).two (kindB (s.getD q.p 0) 2) ((q.l.length : Int) - 1) := by
  have ha : q.adv = ⟨q.p + 1, 0, q.l⟩ := by unfold PR.adv; rw [hc]
  subst e
  rcases kind_two_of hk with ⟨h1, h2⟩ | ⟨h1, h2⟩
  · rw [rd_2u hc (isB_pos hp h1), ha, h2]
  · rw [rd_2r hc (isB_pos hp h1), ha, h2]
theorem rd_2s {s : List UInt8} {b : Nat} {r q : PR} (e : q = rd s b 3 r) (h : q.c ≠ 0 ∨ ¬ q.p < s.length ∨ kindB (s.getD q.p 0) 2 = 0) : q = rd s (b + 1) 2 r := by
  by_cases h0 : r.c = 0
  · by_cases hc : q.c = 0
    · have hn : ∀ y, y = 85 ∨ y = 82 → isB s q.p y = false := fun y hy => isB_neg (by
        rcases h with h | h | h
        · exact absurd hc h
        · exact .inl h
        · obtain ⟨k1, k2⟩ := kind_two_no h
          rcases hy with rfl | rfl
          · exact .inr k1
          · exact .inr k2)
      subst e
      simp only [rd]; rw [if_neg (by simp [h0]), if_neg (by simp [hc]), hn 85 (.inl rfl), hn 82 (.inr rfl)]; simp
    · subst e
      simp only [rd]; rw [if_neg (by simp [h0]), if_pos hc]
  · rw [rd_err h0] at e ⊢
    exact e
theorem rd_3k {s : List UInt8} {b : Nat} {r : PR} (hc : r.c = 0) (hp : r.p < s.length) (hk : 0 < kindB (s.getD r.p 0) 1) : rd s (b + 1) 3 r = (rd s b 3 ⟨r.p + 1, 0, r.l⟩).one (kindB (s.getD r.p 0) 1) := by
  have ha : r.adv = ⟨r.p + 1, 0, r.l⟩ := by unfold PR.adv; rw [hc]
  rw [rd_3_1 (x := s.getD r.p 0) (k := kindB (s.getD r.p 0) 1) (kind_one_of hk) hc (isB_pos hp rfl), ha]
theorem noOne_end {s : List UInt8} {r : PR} (h : ¬ r.p < s.length) : noOne s r := fun _ => ⟨isB_neg (.inl h), isB_neg (.inl h), isB_neg (.inl h), isB_neg (.inl h)⟩
theorem noOne_byte {s : List UInt8} {r : PR} (h : kindB (s.getD r.p 0) 1 ≤ 0) : noOne s r := fun _ => by
  obtain ⟨h1, h2, h3, h4⟩ := kind_one_no h
  exact ⟨isB_neg (.inr h1), isB_neg (.inr h2), isB_neg (.inr h3), isB_neg (.inr h4)⟩
theorem close_0 {s : List UInt8} {q : PR} (hc : q.c = 0) (hp : q.p < s.length) (hx : s.getD q.p 0 = 41) : q.close s = ⟨q.p + 1, 0, q.l⟩ := by
  unfold PR.close PR.adv
  rw [if_pos hc, if_pos (isB_pos hp hx), hc]
theorem close_end {s : List UInt8} {q : PR} (hc : q.c = 0) (hp : ¬ q.p < s.length) (h : q.p ≤ s.length) : q.close s = ⟨s.length, 2, q.l⟩ := by
  unfold PR.close PR.bad
  rw [if_pos hc, isB_neg (.inl hp), if_neg hp]
  simp
  omega
theorem close_word {s : List UInt8} {q : PR} (hc : q.c = 0) (hp : q.p < s.length) (hx : s.getD q.p 0 ≠ 41) : q.close s = ⟨q.p, 3, q.l⟩ := by
  unfold PR.close PR.bad
  rw [if_pos hc, isB_neg (.inr hx), if_pos hp]
  simp
theorem close_bad {s : List UInt8} {q : PR} (hc : ¬ q.c = 0) : q.close s = q := by
  unfold PR.close
  rw [if_neg hc]
theorem rd_3end {s : List UInt8} {b p : Nat} {l : List NodeD} (hp : ¬ p < s.length) (h : p ≤ s.length) : (PR.mk s.length 2 l) = rd s (b + 1) 3 ⟨p, 0, l⟩ := by
  have hn : ∀ y, isB s p y = false := fun y => isB_neg (.inl hp)
  simp only [rd, hn]
  simp [hp, PR.bad]
  omega
theorem rd_3word {s : List UInt8} {b p : Nat} {l : List NodeD} (hp : p < s.length) (h1 : kindB (s.getD p 0) 1 ≤ 0) (h2 : s.getD p 0 ≠ 40) (h3 : s.getD p 0 ≠ 116) (h4 : s.getD p 0 ≠ 102) (h5 : ¬ (48 ≤ (s.getD p 0).toNat ∧ (s.getD p 0).toNat < 51)) : (PR.mk p 3 l) = rd s (b + 1) 3 ⟨p, 0, l⟩ := by
  obtain ⟨k1, k2, k3, k4⟩ := kind_one_no h1
  simp only [rd, isB_neg (s := s) (p := p) (.inr k1), isB_neg (s := s) (p := p) (.inr k2), isB_neg (s := s) (p := p) (.inr k3), isB_neg (s := s) (p := p) (.inr k4), isB_neg (s := s) (p := p) (.inr h2), isB_neg (s := s) (p := p) (.inr h3), isB_neg (s := s) (p := p) (.inr h4)]
  rw [if_neg (by simp)]
  simp only [Bool.false_eq_true, ↓reduceIte]
  rw [if_neg (fun h => h5 h.2)]
  unfold PR.bad
  rw [if_pos hp]

end Go.Proofs.Ytpfbkblgefddlaa.Ct

