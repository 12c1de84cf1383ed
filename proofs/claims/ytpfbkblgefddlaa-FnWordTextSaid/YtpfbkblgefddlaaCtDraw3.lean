/- Draws of words. -/
import Derived.Test.YtpfbkblgefddlaaCtDraw2
namespace Go.Proofs.Ytpfbkblgefddlaa.Ct
set_option linter.unusedSimpArgs false
set_option linter.unusedVariables false
open Go Go.Proofs Go.Proofs.Ytpfbkblgefddlaa.Av

def c_spec_l3DrawRight : ICode := (.seq (.reg [⟨(some 4), (.alc [.snil, .snil]), [], none⟩]) (.seq (.reg [⟨(some 6), .mv, [(.t 0)], none⟩, ⟨(some 7), .mv, [(.t 1)], none⟩, ⟨(some 8), (.call 137), [(.t 6), (.c (.int .i64 4)), (.t 7)], none⟩, ⟨(some 9), .mv, [(.t 0)], none⟩, ⟨(some 10), .mv, [(.t 1)], none⟩, ⟨(some 11), (.call 137), [(.t 9), (.c (.int .i64 3)), (.t 10)], none⟩, ⟨(some 12), .mv, [(.t 0)], none⟩, ⟨(some 13), .mv, [(.t 1)], none⟩, ⟨(some 14), (.call 87), [(.t 12), (.t 13)], none⟩, ⟨(some 15), (.bslv 1), [(.t 14)], none⟩, ⟨(some 16), (.app 1 8), [(.t 11), (.t 15)], none⟩, ⟨(some 17), (.bld [.snil, .snil] [(0, 1), (1, 1)]), [(.t 8), (.t 16)], none⟩, ⟨(some 5), (.alc [.snil, .snil]), [], none⟩, ⟨none, (.st 2), [(.t 5), (.t 17)], none⟩]) (.seq (.seq (.reg [⟨(some 18), .mv, [(.t 0)], none⟩, ⟨(some 19), (.call 85), [(.t 18), (.c (.int .i64 6))], none⟩]) (.cond (.t 19) (.reg [⟨(some 21), (.ldn 2), [(.t 5)], none⟩, ⟨(some 22), (.call 138), [(.t 21), (.c (.int .i64 2))], none⟩, ⟨(some 20), .mv, [(.t 22)], none⟩, ⟨(some 23), (.ext 0), [(.t 20)], none⟩, ⟨(some 24), (.ext 1), [(.t 20)], none⟩, ⟨none, (.st 2), [(.t 5), (.t 23)], none⟩]) .skip)) (.seq (.seq (.reg [⟨(some 25), .mv, [(.t 0)], none⟩, ⟨(some 26), (.call 85), [(.t 25), (.c (.int .i64 6))], none⟩]) (.cond (.t 26) (.reg [⟨(some 28), (.ldn 2), [(.t 5)], none⟩, ⟨(some 29), (.call 139), [(.t 28)], none⟩, ⟨(some 27), .mv, [(.t 29)], none⟩, ⟨(some 30), (.ext 0), [(.t 27)], none⟩, ⟨(some 31), (.ext 1), [(.t 27)], none⟩, ⟨none, (.st 2), [(.t 5), (.t 30)], none⟩]) .skip)) (.seq (.reg [⟨(some 32), (.ldn 2), [(.t 5)], none⟩, ⟨none, (.st 2), [(.t 4), (.t 32)], none⟩]) .ret)))))
theorem b_spec_l3DrawRight : Body Try.prog 84 33 c_spec_l3DrawRight [(.cn 4 2)] := by
  have h1 : comp Try.prog 33 (Try.f84.body.getD .skip) = some c_spec_l3DrawRight := by kernel_rfl
  have h2 : Try.f84.body = some (Try.f84.body.getD .skip) := by kernel_rfl
  have h3 : Try.f84.results.toList.map (cRes Try.prog) = [(some (.cn 4 2))] := by kernel_rfl
  exact ⟨_, _, Try.func84, h2, Try.ntmps84, h1, h3, by decide⟩

def c_spec_l3DrawWord : ICode := (.seq (.reg [⟨(some 2), (.alc [.snil, .snil]), [], none⟩]) (.seq (.reg [⟨(some 4), .mv, [(.t 0)], none⟩, ⟨(some 5), .mv, [(.t 0)], none⟩, ⟨(some 6), (.bsl 1), [(.c (.int .i64 1)), (.c (.int .i64 2)), (.c (.int .i64 2)), (.c (.int .i64 3)), (.c (.int .i64 8))], none⟩, ⟨(some 7), (.call 136), [(.t 5), (.t 6)], none⟩, ⟨(some 8), (.call 84), [(.t 4), (.t 7)], none⟩, ⟨(some 3), (.alc [.snil, .snil]), [], none⟩, ⟨none, (.st 2), [(.t 3), (.t 8)], none⟩]) (.seq (.seq (.reg [⟨(some 9), .mv, [(.t 0)], none⟩, ⟨(some 10), (.call 87), [(.t 9), (.c (.int .i64 25))], none⟩]) (.block 0 (.seq (.reg [⟨(some 12), (.bin .eql), [(.t 10), (.c (.int .i64 0))], none⟩, ⟨(some 11), .mv, [(.t 12)], none⟩]) (.cond (.t 11) (.reg [⟨(some 13), (.fadr 1), [(.t 3)], none⟩, ⟨none, (.st 1), [(.t 13), (.c .snil)], none⟩]) (.seq (.reg [⟨(some 15), (.bin .eql), [(.t 10), (.c (.int .i64 1))], none⟩, ⟨(some 14), .mv, [(.t 15)], none⟩]) (.cond (.t 14) (.drw [⟨(some 16), (.fadr 0), [(.t 3)], none⟩, ⟨(some 17), .ld1, [(.t 16)], none⟩, ⟨(some 18), .mv, [(.t 0)], none⟩, ⟨(some 19), (.bsl 1), [(.c (.int .i64 (-1))), (.c (.int .i64 7)), (.c (.int .i64 8))], none⟩, ⟨(some 20), (.call 136), [(.t 18), (.t 19)], none⟩, ⟨(some 21), (.bslv 1), [(.t 20)], none⟩, ⟨(some 22), (.app 1 8), [(.t 17), (.t 21)], none⟩, ⟨(some 23), (.fadr 0), [(.t 3)], none⟩, ⟨none, (.st 1), [(.t 23), (.t 22)], none⟩] [[], [0], [], [], [2, 3], [2, 3, 4], [0, 1, 2, 3, 4, 5], [0, 1, 2, 3, 4, 5, 6], [0, 1, 2, 3, 4, 5, 6, 7]] false true) (.seq (.reg [⟨(some 25), (.bin .eql), [(.t 10), (.c (.int .i64 2))], none⟩, ⟨(some 24), .mv, [(.t 25)], none⟩]) (.cond (.t 24) (.reg [⟨(some 26), .mv, [(.t 0)], none⟩, ⟨(some 27), (.call 87), [(.t 26), (.c (.int .i64 2))], none⟩, ⟨(some 28), (.bin .add), [(.c (.int .i64 40)), (.t 27)], none⟩, ⟨(some 29), (.mks 1 8 [(.int .i64 0)]), [(.t 28), (.t 28)], none⟩, ⟨(some 30), (.fadr 0), [(.t 3)], none⟩, ⟨none, (.st 1), [(.t 30), (.t 29)], none⟩]) (.seq (.reg [⟨(some 32), (.bin .eql), [(.t 10), (.c (.int .i64 3))], none⟩, ⟨(some 31), .mv, [(.t 32)], none⟩]) (.cond (.t 31) (.reg [⟨(some 33), .mv, [(.t 0)], none⟩, ⟨(some 34), (.call 87), [(.t 33), (.c (.int .i64 2))], none⟩, ⟨(some 35), (.bin .add), [(.c (.int .i64 40)), (.t 34)], none⟩, ⟨(some 36), (.mks 1 8 [(.int .i64 0)]), [(.t 35), (.t 35)], none⟩, ⟨(some 37), (.fadr 1), [(.t 3)], none⟩, ⟨none, (.st 1), [(.t 37), (.t 36)], none⟩]) .skip)))))))))) (.seq (.reg [⟨(some 38), (.ldn 2), [(.t 3)], none⟩, ⟨none, (.st 2), [(.t 2), (.t 38)], none⟩]) .ret))))
theorem b_spec_l3DrawWord : Body Try.prog 81 39 c_spec_l3DrawWord [(.cn 2 2)] := by
  have h1 : comp Try.prog 39 (Try.f81.body.getD .skip) = some c_spec_l3DrawWord := by kernel_rfl
  have h2 : Try.f81.body = some (Try.f81.body.getD .skip) := by kernel_rfl
  have h3 : Try.f81.results.toList.map (cRes Try.prog) = [(some (.cn 2 2))] := by kernel_rfl
  exact ⟨_, _, Try.func81, h2, Try.ntmps81, h1, h3, by decide⟩

def c_spec_DrawWordText : ICode := (.seq (.reg [⟨(some 2), (.alc [.snil, .snil]), [], none⟩]) (.seq (.reg [⟨(some 3), .mv, [(.t 0)], none⟩, ⟨(some 4), (.call 82), [(.t 3)], none⟩, ⟨(some 5), (.call 81), [(.t 4)], none⟩, ⟨none, (.st 2), [(.t 2), (.t 5)], none⟩]) .ret))
theorem b_spec_DrawWordText : Body Try.prog 28 6 c_spec_DrawWordText [(.cn 2 2)] := by
  have h1 : comp Try.prog 6 (Try.f28.body.getD .skip) = some c_spec_DrawWordText := by kernel_rfl
  have h2 : Try.f28.body = some (Try.f28.body.getD .skip) := by kernel_rfl
  have h3 : Try.f28.results.toList.map (cRes Try.prog) = [(some (.cn 2 2))] := by kernel_rfl
  exact ⟨_, _, Try.func28, h2, Try.ntmps28, h1, h3, by decide⟩


theorem back_le (a b : List Int) (ok : Bool) : (wordBack a b ok).1.length ≤ 40 ∧ (wordBack a b ok).2.1.length ≤ 40 := by
  unfold wordBack
  split
  · rename_i h
    simp only [Bool.and_eq_true] at h
    obtain ⟨k1, _, k2, _⟩ := wordOk_parts h.2
    exact ⟨k1, k2⟩
  · simp

theorem powW_le (s l : List Int) : (powW s l).1.length ≤ 40 ∧ (powW s l).2.1.length ≤ 40 := back_le _ _ _
theorem turnW_le (s l : List Int) : (turnW s l).1.length ≤ 40 ∧ (turnW s l).2.1.length ≤ 40 := back_le _ _ _

def GDrawRight : GFun := fun xs objs Q => ∃ (code : List UInt8) (i : Nat) (h n : Int), xs = [.ptr 0 0 0, .int .i64 n] ∧ objs = [curO code i h] ∧ i ≤ code.length ∧ code.length ≤ 1048576 ∧ n ≤ 1000 ∧
  ∀ (s l : List Int) (i' : Nat) (h' : Int), s.length ≤ 100 → l.length ≤ 100 → i' ≤ code.length → Q (.agg [.ref 1 0 s.length, .ref 2 0 l.length]) [some (curO code i' h'), some (.arr 1 (ints s)), some (.arr 1 (ints l))]
theorem GDrawRight_mk {code : List UInt8} {i : Nat} {h n : Int} {Q : AV → List (Option AObj) → Prop} (h1 : i ≤ code.length) (h2 : code.length ≤ 1048576) (h3 : n ≤ 1000)
    (hq : ∀ (s l : List Int) (i' : Nat) (h' : Int), s.length ≤ 100 → l.length ≤ 100 → i' ≤ code.length → Q (.agg [.ref 1 0 s.length, .ref 2 0 l.length]) [some (curO code i' h'), some (.arr 1 (ints s)), some (.arr 1 (ints l))]) :
    GDrawRight [.ptr 0 0 0, .int .i64 n] [curO code i h] Q := ⟨code, i, h, n, rfl, rfl, h1, h2, h3, hq⟩

/-- a word under way: the cursor, the result's place, the word -/
abbrev drawL (_ : List Int × List Int × Nat × Int) : List (Nat × AV) := [(0, .ptr 0 0 0), (4, .ptr 1 0 0), (5, .ptr 2 0 0)]
abbrev drawO (code : List UInt8) (a : List Int × List Int × Nat × Int) : List (Option AObj) :=
  [some (curO code a.2.2.1 a.2.2.2), some (.box [.snil, .snil]), some (.box [.ref 3 0 a.1.length, .ref 4 0 a.2.1.length]), some (.arr 1 (ints a.1)), some (.arr 1 (ints a.2.1))]
abbrev drawI (code : List UInt8) (a : List Int × List Int × Nat × Int) : Prop := a.1.length ≤ 100 ∧ a.2.1.length ≤ 100 ∧ a.2.2.1 ≤ code.length

set_option maxHeartbeats 4000000 in
theorem s_spec_l3DrawRight : GenSound Try.prog 84 1 GDrawRight := by
  have hR : Rely Try.prog (ctxOf [(137, .gen 1 GLetters), (87, .gen 1 GBelow), (85, .gen 1 GOnce), (138, .pure RWordPower), (139, .pure RWordTurn)]) :=
    rely_cons b_spec_l3DrawLetters.has s_spec_l3DrawLetters (rely_cons b_spec_l1Below.has s_spec_l1Below (rely_cons b_spec_l1Once.has s_spec_l1Once (rely_cons b_spec_WordPower.has s_spec_WordPower (rely_cons b_spec_WordTurn.has s_spec_WordTurn (rely_nil mixed)))))
  refine gen_of_aw b_spec_l3DrawRight ?_
  rintro xs objs Q - ⟨code, i, h, n, rfl, rfl, h1, h2, h3, hq⟩ -
  refine ⟨by simp, ?_⟩
  refine Aw.meet (α := Unit) (fun _ => True) (fun _ => [(0, .ptr 0 0 0), (1, .int .i64 n), (4, .ptr 1 0 0)]) (fun _ => [some (curO code i h), some (.box [.snil, .snil])]) ?_ ?_
  · refine vc2_sound hR _ _ _ _ _ ?_
    conv => whnf
    repeat' (first
      | (refine And.intro (fun hb => ?_) (fun hb => ?_)
         all_goals (try simp only [decide_eq_true_eq, decide_eq_false_iff_not, Bool.not_eq_true', Bool.not_eq_false', Bool.not_not, ne_eq, length_ints, List.length_map, beq_iff_eq, bne_iff_ne, beq_eq_false_iff_ne, bne_eq_false_iff_eq, Int.not_le, Int.not_lt, ge_iff_le, gt_iff_lt, reduceCtorEq, not_false_eq_true, not_true_eq_false, Bool.false_eq_true, Bool.true_eq_false] at hb)
         all_goals (try (exfalso; omega))
         all_goals conv => whnf)
      | (refine And.intro (live_all rfl) ?_; conv => whnf)
      | (refine And.intro rfl ?_; conv => whnf)
      | (refine ⟨_, IntWalk.i64_in _ (by omega), ?_⟩; conv => whnf)
      | (refine And.intro (okcs_all rfl) ?_; conv => whnf)
      | (refine And.intro (okvs_all rfl) ?_; conv => whnf)
      | (refine And.intro (frees_all rfl) ?_; conv => whnf)
      | (refine And.intro (bsl_all rfl) ?_; conv => whnf)
      | (refine And.intro (lens_all rfl) ?_; conv => whnf)
      | (refine And.intro (Nat.le_of_ble_eq_true rfl) ?_; conv => whnf)
      | (rw [ints_at (by omega)]; conv => whnf)
      | (rw [ints_at0 (by omega)]; conv => whnf)
      | (rw [ints_at' (by omega) (by omega)]; conv => whnf)
      | (refine And.intro (show (_ + 1) * _ ≤ _ by omega) ?_; conv => whnf)
      | (refine And.intro (show _ + 1 ≤ _ by omega) ?_; conv => whnf)
      | (refine And.intro (by first | omega | (simp only [length_ints]; omega)) ?_; conv => whnf)
      | fail)
    refine ⟨(), trivial, [some 0, some 1], rfl, rfl, ?_, ?_⟩
    · repeat' (first | exact trivial | exact rfl | exact Or.inl rfl | refine And.intro ?_ ?_)
    · repeat' (first
        | exact trivial
        | refine ⟨?_, ?_⟩
        | fail)
      all_goals first
        | with_reducible rfl
        | (conv => whnf
           try left
           conv => lhs; whnf
           first
             | rfl
             | exact congrArg (AV.int .i64) (by omega)
             | skip)
  rintro _ -
  refine Aw.meet (α := List Int × List Int × Nat × Int) (drawI code) drawL (drawO code) ?_ ?_
  · refine vc2_sound hR _ _ _ _ _ ?_
    conv => whnf
    repeat' (first
      | (refine And.intro (fun hb => ?_) (fun hb => ?_)
         all_goals (try simp only [decide_eq_true_eq, decide_eq_false_iff_not, Bool.not_eq_true', Bool.not_eq_false', Bool.not_not, ne_eq, length_ints, List.length_map, beq_iff_eq, bne_iff_ne, beq_eq_false_iff_ne, bne_eq_false_iff_eq, Int.not_le, Int.not_lt, ge_iff_le, gt_iff_lt, reduceCtorEq, not_false_eq_true, not_true_eq_false, Bool.false_eq_true, Bool.true_eq_false] at hb)
         all_goals (try (exfalso; omega))
         all_goals conv => whnf)
      | (refine And.intro (live_all rfl) ?_; conv => whnf)
      | (refine And.intro rfl ?_; conv => whnf)
      | (refine ⟨_, IntWalk.i64_in _ (by omega), ?_⟩; conv => whnf)
      | (refine And.intro (okcs_all rfl) ?_; conv => whnf)
      | (refine And.intro (okvs_all rfl) ?_; conv => whnf)
      | (refine And.intro (frees_all rfl) ?_; conv => whnf)
      | (refine And.intro (bsl_all rfl) ?_; conv => whnf)
      | (refine And.intro (lens_all rfl) ?_; conv => whnf)
      | (refine And.intro (Nat.le_of_ble_eq_true rfl) ?_; conv => whnf)
      | (rw [ints_at (by omega)]; conv => whnf)
      | (rw [ints_at0 (by omega)]; conv => whnf)
      | (rw [ints_at' (by omega) (by omega)]; conv => whnf)
      | (refine And.intro (show (_ + 1) * _ ≤ _ by omega) ?_; conv => whnf)
      | (refine And.intro (show _ + 1 ≤ _ by omega) ?_; conv => whnf)
      | (refine And.intro (by first | omega | (simp only [length_ints]; omega)) ?_; conv => whnf)
      | (refine ⟨GLetters_mk (by omega) (by omega) (by omega) (by omega) (fun la i' h' hla hi' => ?_)⟩; conv => whnf)
      | (refine ⟨GBelow_mk (by omega) (by omega) (by omega) (fun x i' h' hx0 hx1 hi' => ?_)⟩; conv => whnf)
      | fail)
    rename_i la1 _ _ _ _ _ _ _
    refine ⟨(la1, la ++ [x], i', h'), ⟨by dsimp only; omega, by simp; omega, hi'⟩, [some 0, some 1, some 5, some 2, some 4], rfl, rfl, ?_, ?_⟩
    · refine And.intro (And.intro (.inl rfl) (And.intro (.inl rfl) (And.intro (.inl rfl) trivial))) (And.intro (And.intro (.inl rfl) (And.intro (.inl rfl) trivial)) (And.intro (And.intro rfl (And.intro ?_ trivial)) (And.intro (And.intro rfl rfl) (And.intro (And.intro rfl (app_step la x la.length rfl)) trivial))))
      show AV.ref 4 0 (la.length + 1) = AV.ref 4 0 (la ++ [x]).length
      simp
    · repeat' (first
        | exact trivial
        | refine ⟨?_, ?_⟩
        | fail)
      all_goals first
        | with_reducible rfl
        | (conv => whnf
           try left
           conv => lhs; whnf
           first
             | rfl
             | exact congrArg (AV.int .i64) (by omega)
             | skip)
  rintro ⟨s, l, i1, h1'⟩ ⟨hs, hl, hi1⟩
  dsimp only at hs hl hi1
  refine Aw.meet (α := List Int × List Int × Nat × Int) (drawI code) drawL (drawO code) ?_ ?_
  · refine vc2_sound hR _ _ _ _ _ ?_
    conv => whnf
    repeat' (first
      | (refine And.intro (fun hb => ?_) (fun hb => ?_)
         all_goals (try simp only [decide_eq_true_eq, decide_eq_false_iff_not, Bool.not_eq_true', Bool.not_eq_false', Bool.not_not, ne_eq, length_ints, List.length_map, beq_iff_eq, bne_iff_ne, beq_eq_false_iff_ne, bne_eq_false_iff_eq, Int.not_le, Int.not_lt, ge_iff_le, gt_iff_lt, reduceCtorEq, not_false_eq_true, not_true_eq_false, Bool.false_eq_true, Bool.true_eq_false] at hb)
         all_goals (try (exfalso; omega))
         all_goals conv => whnf)
      | (refine And.intro (live_all rfl) ?_; conv => whnf)
      | (refine And.intro rfl ?_; conv => whnf)
      | (refine ⟨_, IntWalk.i64_in _ (by omega), ?_⟩; conv => whnf)
      | (refine And.intro (okcs_all rfl) ?_; conv => whnf)
      | (refine And.intro (okvs_all rfl) ?_; conv => whnf)
      | (refine And.intro (frees_all rfl) ?_; conv => whnf)
      | (refine And.intro (bsl_all rfl) ?_; conv => whnf)
      | (refine And.intro (lens_all rfl) ?_; conv => whnf)
      | (refine And.intro (Nat.le_of_ble_eq_true rfl) ?_; conv => whnf)
      | (rw [ints_at (by omega)]; conv => whnf)
      | (rw [ints_at0 (by omega)]; conv => whnf)
      | (rw [ints_at' (by omega) (by omega)]; conv => whnf)
      | (refine And.intro (show (_ + 1) * _ ≤ _ by omega) ?_; conv => whnf)
      | (refine And.intro (show _ + 1 ≤ _ by omega) ?_; conv => whnf)
      | (refine And.intro (by first | omega | (simp only [length_ints]; omega)) ?_; conv => whnf)
      | (refine ⟨GOnce_mk (by omega) (by omega) (by omega) (fun b i' h' hi' => ?_)⟩; conv => whnf)
      | fail)
    · have hbk := powW_le s l
      refine ⟨_, _, RWordPower_eq (s := s) (l := l) (by repeat' (first | exact rfl | refine args_cons ?_ ?_ | refine snap_agg ?_ | refine cells_cons ?_ ?_ | exact snap1_all rfl (by first | (simp only [length_ints]; done) | simp [ints, marks]) | exact snap_all rfl (by first | (simp only [length_ints]; done) | simp [ints, marks]) | exact snap1_all2 rfl (by first | (simp only [length_ints]; done) | simp [ints, marks]) | fail)), ?_⟩
      conv => whnf
      repeat' (first
        | (refine And.intro (fun hb => ?_) (fun hb => ?_)
           all_goals (try simp only [decide_eq_true_eq, decide_eq_false_iff_not, Bool.not_eq_true', Bool.not_eq_false', Bool.not_not, ne_eq, length_ints, List.length_map, beq_iff_eq, bne_iff_ne, beq_eq_false_iff_ne, bne_eq_false_iff_eq, Int.not_le, Int.not_lt, ge_iff_le, gt_iff_lt, reduceCtorEq, not_false_eq_true, not_true_eq_false, Bool.false_eq_true, Bool.true_eq_false] at hb)
           all_goals (try (exfalso; omega))
           all_goals conv => whnf)
        | (refine And.intro (live_all rfl) ?_; conv => whnf)
        | (refine And.intro rfl ?_; conv => whnf)
        | (refine ⟨_, IntWalk.i64_in _ (by omega), ?_⟩; conv => whnf)
        | (refine And.intro (okcs_all rfl) ?_; conv => whnf)
        | (refine And.intro (okvs_all rfl) ?_; conv => whnf)
        | (refine And.intro (frees_all rfl) ?_; conv => whnf)
        | (refine And.intro (bsl_all rfl) ?_; conv => whnf)
        | (refine And.intro (lens_all rfl) ?_; conv => whnf)
        | (refine And.intro (Nat.le_of_ble_eq_true rfl) ?_; conv => whnf)
        | (rw [ints_at (by omega)]; conv => whnf)
        | (rw [ints_at0 (by omega)]; conv => whnf)
        | (rw [ints_at' (by omega) (by omega)]; conv => whnf)
        | (refine And.intro (show (_ + 1) * _ ≤ _ by omega) ?_; conv => whnf)
        | (refine And.intro (show _ + 1 ≤ _ by omega) ?_; conv => whnf)
        | (refine And.intro (by first | omega | (simp only [length_ints]; omega)) ?_; conv => whnf)
        | fail)
      all_goals
        refine ⟨((powW s l).1, (powW s l).2.1, i', h'), ⟨by dsimp only; omega, by dsimp only; omega, hi'⟩, [some 0, some 1, some 2, some 5, some 6], rfl, rfl, ?_, ?_⟩
        · exact And.intro (And.intro (.inl rfl) (And.intro (.inl rfl) (And.intro (.inl rfl) trivial))) (And.intro (And.intro (.inl rfl) (And.intro (.inl rfl) trivial)) (And.intro (And.intro rfl (And.intro rfl trivial)) (And.intro (And.intro rfl rfl) (And.intro (And.intro rfl rfl) trivial))))
        · repeat' (first
            | exact trivial
            | refine ⟨?_, ?_⟩
            | fail)
          all_goals first
            | with_reducible rfl
            | (conv => whnf
               try left
               conv => lhs; whnf
               first
                 | rfl
                 | exact congrArg (AV.int .i64) (by omega)
                 | skip)
    · refine ⟨(s, l, i', h'), ⟨hs, hl, hi'⟩, [some 0, some 1, some 2, some 3, some 4], rfl, rfl, ?_, ?_⟩
      · exact And.intro (And.intro (.inl rfl) (And.intro (.inl rfl) (And.intro (.inl rfl) trivial))) (And.intro (And.intro (.inl rfl) (And.intro (.inl rfl) trivial)) (And.intro (And.intro rfl (And.intro rfl trivial)) (And.intro (And.intro rfl rfl) (And.intro (And.intro rfl rfl) trivial))))
      · repeat' (first
          | exact trivial
          | refine ⟨?_, ?_⟩
          | fail)
        all_goals first
          | with_reducible rfl
          | (conv => whnf
             try left
             conv => lhs; whnf
             first
               | rfl
               | exact congrArg (AV.int .i64) (by omega)
               | skip)
  clear hs hl hi1 s l i1 h1'
  rintro ⟨s, l, i1, h1'⟩ ⟨hs, hl, hi1⟩
  dsimp only at hs hl hi1
  refine Aw.meet (α := List Int × List Int × Nat × Int) (drawI code) drawL (drawO code) ?_ ?_
  · refine vc2_sound hR _ _ _ _ _ ?_
    conv => whnf
    repeat' (first
      | (refine And.intro (fun hb => ?_) (fun hb => ?_)
         all_goals (try simp only [decide_eq_true_eq, decide_eq_false_iff_not, Bool.not_eq_true', Bool.not_eq_false', Bool.not_not, ne_eq, length_ints, List.length_map, beq_iff_eq, bne_iff_ne, beq_eq_false_iff_ne, bne_eq_false_iff_eq, Int.not_le, Int.not_lt, ge_iff_le, gt_iff_lt, reduceCtorEq, not_false_eq_true, not_true_eq_false, Bool.false_eq_true, Bool.true_eq_false] at hb)
         all_goals (try (exfalso; omega))
         all_goals conv => whnf)
      | (refine And.intro (live_all rfl) ?_; conv => whnf)
      | (refine And.intro rfl ?_; conv => whnf)
      | (refine ⟨_, IntWalk.i64_in _ (by omega), ?_⟩; conv => whnf)
      | (refine And.intro (okcs_all rfl) ?_; conv => whnf)
      | (refine And.intro (okvs_all rfl) ?_; conv => whnf)
      | (refine And.intro (frees_all rfl) ?_; conv => whnf)
      | (refine And.intro (bsl_all rfl) ?_; conv => whnf)
      | (refine And.intro (lens_all rfl) ?_; conv => whnf)
      | (refine And.intro (Nat.le_of_ble_eq_true rfl) ?_; conv => whnf)
      | (rw [ints_at (by omega)]; conv => whnf)
      | (rw [ints_at0 (by omega)]; conv => whnf)
      | (rw [ints_at' (by omega) (by omega)]; conv => whnf)
      | (refine And.intro (show (_ + 1) * _ ≤ _ by omega) ?_; conv => whnf)
      | (refine And.intro (show _ + 1 ≤ _ by omega) ?_; conv => whnf)
      | (refine And.intro (by first | omega | (simp only [length_ints]; omega)) ?_; conv => whnf)
      | (refine ⟨GOnce_mk (by omega) (by omega) (by omega) (fun b i' h' hi' => ?_)⟩; conv => whnf)
      | fail)
    · have hbk := turnW_le s l
      refine ⟨_, _, RWordTurn_eq (s := s) (l := l) (by repeat' (first | exact rfl | refine args_cons ?_ ?_ | refine snap_agg ?_ | refine cells_cons ?_ ?_ | exact snap1_all rfl (by first | (simp only [length_ints]; done) | simp [ints, marks]) | exact snap_all rfl (by first | (simp only [length_ints]; done) | simp [ints, marks]) | exact snap1_all2 rfl (by first | (simp only [length_ints]; done) | simp [ints, marks]) | fail)), ?_⟩
      conv => whnf
      repeat' (first
        | (refine And.intro (fun hb => ?_) (fun hb => ?_)
           all_goals (try simp only [decide_eq_true_eq, decide_eq_false_iff_not, Bool.not_eq_true', Bool.not_eq_false', Bool.not_not, ne_eq, length_ints, List.length_map, beq_iff_eq, bne_iff_ne, beq_eq_false_iff_ne, bne_eq_false_iff_eq, Int.not_le, Int.not_lt, ge_iff_le, gt_iff_lt, reduceCtorEq, not_false_eq_true, not_true_eq_false, Bool.false_eq_true, Bool.true_eq_false] at hb)
           all_goals (try (exfalso; omega))
           all_goals conv => whnf)
        | (refine And.intro (live_all rfl) ?_; conv => whnf)
        | (refine And.intro rfl ?_; conv => whnf)
        | (refine ⟨_, IntWalk.i64_in _ (by omega), ?_⟩; conv => whnf)
        | (refine And.intro (okcs_all rfl) ?_; conv => whnf)
        | (refine And.intro (okvs_all rfl) ?_; conv => whnf)
        | (refine And.intro (frees_all rfl) ?_; conv => whnf)
        | (refine And.intro (bsl_all rfl) ?_; conv => whnf)
        | (refine And.intro (lens_all rfl) ?_; conv => whnf)
        | (refine And.intro (Nat.le_of_ble_eq_true rfl) ?_; conv => whnf)
        | (rw [ints_at (by omega)]; conv => whnf)
        | (rw [ints_at0 (by omega)]; conv => whnf)
        | (rw [ints_at' (by omega) (by omega)]; conv => whnf)
        | (refine And.intro (show (_ + 1) * _ ≤ _ by omega) ?_; conv => whnf)
        | (refine And.intro (show _ + 1 ≤ _ by omega) ?_; conv => whnf)
        | (refine And.intro (by first | omega | (simp only [length_ints]; omega)) ?_; conv => whnf)
        | fail)
      all_goals
        refine ⟨((turnW s l).1, (turnW s l).2.1, i', h'), ⟨by dsimp only; omega, by dsimp only; omega, hi'⟩, [some 0, some 1, some 2, some 5, some 6], rfl, rfl, ?_, ?_⟩
        · exact And.intro (And.intro (.inl rfl) (And.intro (.inl rfl) (And.intro (.inl rfl) trivial))) (And.intro (And.intro (.inl rfl) (And.intro (.inl rfl) trivial)) (And.intro (And.intro rfl (And.intro rfl trivial)) (And.intro (And.intro rfl rfl) (And.intro (And.intro rfl rfl) trivial))))
        · repeat' (first
            | exact trivial
            | refine ⟨?_, ?_⟩
            | fail)
          all_goals first
            | with_reducible rfl
            | (conv => whnf
               try left
               conv => lhs; whnf
               first
                 | rfl
                 | exact congrArg (AV.int .i64) (by omega)
                 | skip)
    · refine ⟨(s, l, i', h'), ⟨hs, hl, hi'⟩, [some 0, some 1, some 2, some 3, some 4], rfl, rfl, ?_, ?_⟩
      · exact And.intro (And.intro (.inl rfl) (And.intro (.inl rfl) (And.intro (.inl rfl) trivial))) (And.intro (And.intro (.inl rfl) (And.intro (.inl rfl) trivial)) (And.intro (And.intro rfl (And.intro rfl trivial)) (And.intro (And.intro rfl rfl) (And.intro (And.intro rfl rfl) trivial))))
      · repeat' (first
          | exact trivial
          | refine ⟨?_, ?_⟩
          | fail)
        all_goals first
          | with_reducible rfl
          | (conv => whnf
             try left
             conv => lhs; whnf
             first
               | rfl
               | exact congrArg (AV.int .i64) (by omega)
               | skip)
  clear hs hl hi1 s l i1 h1'
  rintro ⟨s, l, i1, h1'⟩ ⟨hs, hl, hi1⟩
  dsimp only at hs hl hi1
  refine vc2_sound hR _ _ _ _ _ ?_
  conv => whnf
  repeat' (first
    | (refine And.intro (fun hb => ?_) (fun hb => ?_)
       all_goals (try simp only [decide_eq_true_eq, decide_eq_false_iff_not, Bool.not_eq_true', Bool.not_eq_false', Bool.not_not, ne_eq, length_ints, List.length_map, beq_iff_eq, bne_iff_ne, beq_eq_false_iff_ne, bne_eq_false_iff_eq, Int.not_le, Int.not_lt, ge_iff_le, gt_iff_lt, reduceCtorEq, not_false_eq_true, not_true_eq_false, Bool.false_eq_true, Bool.true_eq_false] at hb)
       all_goals (try (exfalso; omega))
       all_goals conv => whnf)
    | (refine And.intro (live_all rfl) ?_; conv => whnf)
    | (refine And.intro rfl ?_; conv => whnf)
    | (refine ⟨_, IntWalk.i64_in _ (by omega), ?_⟩; conv => whnf)
    | (refine And.intro (okcs_all rfl) ?_; conv => whnf)
    | (refine And.intro (okvs_all rfl) ?_; conv => whnf)
    | (refine And.intro (frees_all rfl) ?_; conv => whnf)
    | (refine And.intro (bsl_all rfl) ?_; conv => whnf)
    | (refine And.intro (lens_all rfl) ?_; conv => whnf)
    | (refine And.intro (Nat.le_of_ble_eq_true rfl) ?_; conv => whnf)
    | (rw [ints_at (by omega)]; conv => whnf)
    | (rw [ints_at0 (by omega)]; conv => whnf)
    | (rw [ints_at' (by omega) (by omega)]; conv => whnf)
    | (refine And.intro (show (_ + 1) * _ ≤ _ by omega) ?_; conv => whnf)
    | (refine And.intro (show _ + 1 ≤ _ by omega) ?_; conv => whnf)
    | (refine And.intro (by first | omega | (simp only [length_ints]; omega)) ?_; conv => whnf)
    | fail)
  refine ⟨.inl rfl, ?_⟩
  conv => whnf
  refine And.intro (Nat.le_of_ble_eq_true rfl) ?_
  conv => whnf
  exact ⟨[some 0, some 3, some 4], .agg [.ref 1 0 s.length, .ref 2 0 l.length], [some (curO code i1 h1'), some (.arr 1 (ints s)), some (.arr 1 (ints l))],
    ⟨rfl, And.intro (And.intro (.inl rfl) (And.intro (.inl rfl) (And.intro (.inl rfl) trivial))) (And.intro (And.intro rfl rfl) (And.intro (And.intro rfl rfl) trivial))⟩, And.intro rfl (And.intro rfl trivial), rfl, hq s l i1 h1' hs hl hi1⟩

def GDrawWord : GFun := fun xs objs Q => ∃ (code : List UInt8) (i : Nat) (h : Int), xs = [.ptr 0 0 0] ∧ objs = [curO code i h] ∧ i ≤ code.length ∧ code.length ≤ 1048576 ∧
  ∀ (s l : List Int) (i' : Nat) (h' : Int), s.length ≤ 201 → l.length ≤ 201 → i' ≤ code.length → Q (.agg [.ref 1 0 s.length, .ref 2 0 l.length]) [some (curO code i' h'), some (.arr 1 (ints s)), some (.arr 1 (ints l))]
theorem GDrawWord_mk {code : List UInt8} {i : Nat} {h : Int} {Q : AV → List (Option AObj) → Prop} (h1 : i ≤ code.length) (h2 : code.length ≤ 1048576)
    (hq : ∀ (s l : List Int) (i' : Nat) (h' : Int), s.length ≤ 201 → l.length ≤ 201 → i' ≤ code.length → Q (.agg [.ref 1 0 s.length, .ref 2 0 l.length]) [some (curO code i' h'), some (.arr 1 (ints s)), some (.arr 1 (ints l))]) :
    GDrawWord [.ptr 0 0 0] [curO code i h] Q := ⟨code, i, h, rfl, rfl, h1, h2, hq⟩

theorem GPickInt_nv (xs : List AV) (objs : List AObj) (Q : AV → List (Option AObj) → Prop) (h : GPickInt xs objs Q) : ∃ r out, Q r out := by
  obtain ⟨code, i, h, l, _, _, _, _, h3, _, hq⟩ := h
  exact ⟨_, _, hq 0 0 0 h3 (Nat.zero_le _)⟩
theorem GDrawRight_nv (xs : List AV) (objs : List AObj) (Q : AV → List (Option AObj) → Prop) (h : GDrawRight xs objs Q) : ∃ r out, Q r out := by
  obtain ⟨code, i, h, n, _, _, _, _, _, hq⟩ := h
  exact ⟨_, _, hq [] [] 0 0 (by simp) (by simp) (Nat.zero_le _)⟩

theorem pick5 (j : Nat) : ([1, 2, 2, 3, 8] : List Int).getD j 0 ≤ 8 := by
  rcases j with _ | _ | _ | _ | _ | j <;> simp

abbrev drawL2 (_ : List Int × List Int × Nat × Int) : List (Nat × AV) := [(0, .ptr 0 0 0), (2, .ptr 1 0 0), (3, .ptr 2 0 0)]
abbrev drawI2 (code : List UInt8) (a : List Int × List Int × Nat × Int) : Prop := a.1.length ≤ 200 ∧ a.2.1.length ≤ 200 ∧ a.2.2.1 ≤ code.length

theorem zeros_ints (n : Nat) : List.replicate n [AV.int .i64 0] = ints (List.replicate n 0) := by simp [ints]

set_option maxHeartbeats 4000000 in
theorem s_spec_l3DrawWord : GenSound Try.prog 81 1 GDrawWord := by
  have hR : Rely Try.prog (ctxOf [(136, .gen 2 GPickInt), (87, .gen 1 GBelow), (84, .gen 1 GDrawRight)]) :=
    rely_cons b_spec_l1PickInt.has s_spec_l1PickInt (rely_cons b_spec_l1Below.has s_spec_l1Below (rely_cons b_spec_l3DrawRight.has s_spec_l3DrawRight (rely_nil mixed)))
  have hV : CtxNV (ctxOf [(136, .gen 2 GPickInt), (87, .gen 1 GBelow), (84, .gen 1 GDrawRight)]) := nv_gen GPickInt_nv (nv_gen GBelow_nv (nv_gen GDrawRight_nv nvNil))
  refine gen_of_aw b_spec_l3DrawWord ?_
  rintro xs objs Q - ⟨code, i, h, rfl, rfl, h1, h2, hq⟩ -
  refine ⟨by simp, ?_⟩
  refine Aw.meet (α := Unit) (fun _ => True) (fun _ => [(0, .ptr 0 0 0), (2, .ptr 1 0 0)]) (fun _ => [some (curO code i h), some (.box [.snil, .snil])]) ?_ ?_
  · refine vc2_sound hR _ _ _ _ _ ?_
    conv => whnf
    repeat' (first
      | (refine And.intro (fun hb => ?_) (fun hb => ?_)
         all_goals (try simp only [decide_eq_true_eq, decide_eq_false_iff_not, Bool.not_eq_true', Bool.not_eq_false', Bool.not_not, ne_eq, length_ints, List.length_map, beq_iff_eq, bne_iff_ne, beq_eq_false_iff_ne, bne_eq_false_iff_eq, Int.not_le, Int.not_lt, ge_iff_le, gt_iff_lt, reduceCtorEq, not_false_eq_true, not_true_eq_false, Bool.false_eq_true, Bool.true_eq_false] at hb)
         all_goals (try (exfalso; omega))
         all_goals conv => whnf)
      | (refine And.intro (live_all rfl) ?_; conv => whnf)
      | (refine And.intro rfl ?_; conv => whnf)
      | (refine ⟨_, IntWalk.i64_in _ (by omega), ?_⟩; conv => whnf)
      | (refine And.intro (okcs_all rfl) ?_; conv => whnf)
      | (refine And.intro (okvs_all rfl) ?_; conv => whnf)
      | (refine And.intro (frees_all rfl) ?_; conv => whnf)
      | (refine And.intro (bsl_all rfl) ?_; conv => whnf)
      | (refine And.intro (lens_all rfl) ?_; conv => whnf)
      | (refine And.intro (Nat.le_of_ble_eq_true rfl) ?_; conv => whnf)
      | (rw [ints_at (by omega)]; conv => whnf)
      | (rw [ints_at0 (by omega)]; conv => whnf)
      | (rw [ints_at' (by omega) (by omega)]; conv => whnf)
      | (refine And.intro (show (_ + 1) * _ ≤ _ by omega) ?_; conv => whnf)
      | (refine And.intro (show _ + 1 ≤ _ by omega) ?_; conv => whnf)
      | (refine And.intro (by first | omega | (simp only [length_ints]; omega)) ?_; conv => whnf)
      | fail)
    refine ⟨(), trivial, [some 0, some 1], rfl, rfl, ?_, ?_⟩
    · repeat' (first | exact trivial | exact rfl | exact Or.inl rfl | refine And.intro ?_ ?_)
    · repeat' (first
        | exact trivial
        | refine ⟨?_, ?_⟩
        | fail)
      all_goals first
        | with_reducible rfl
        | (conv => whnf
           try left
           conv => lhs; whnf
           first
             | rfl
             | exact congrArg (AV.int .i64) (by omega)
             | skip)
  rintro _ -
  refine Aw.meet (α := List Int × List Int × Nat × Int) (drawI2 code) drawL2 (drawO code) ?_ ?_
  · refine vc2_sound hR _ _ _ _ _ ?_
    have p5 := pick5
    conv => whnf
    repeat' (first
      | (refine And.intro (fun hb => ?_) (fun hb => ?_)
         all_goals (try simp only [decide_eq_true_eq, decide_eq_false_iff_not, Bool.not_eq_true', Bool.not_eq_false', Bool.not_not, ne_eq, length_ints, List.length_map, beq_iff_eq, bne_iff_ne, beq_eq_false_iff_ne, bne_eq_false_iff_eq, Int.not_le, Int.not_lt, ge_iff_le, gt_iff_lt, reduceCtorEq, not_false_eq_true, not_true_eq_false, Bool.false_eq_true, Bool.true_eq_false] at hb)
         all_goals (try (exfalso; omega))
         all_goals conv => whnf)
      | (refine And.intro (live_all rfl) ?_; conv => whnf)
      | (refine And.intro rfl ?_; conv => whnf)
      | (refine ⟨_, IntWalk.i64_in _ (by omega), ?_⟩; conv => whnf)
      | (refine And.intro (okcs_all rfl) ?_; conv => whnf)
      | (refine And.intro (okvs_all rfl) ?_; conv => whnf)
      | (refine And.intro (frees_all rfl) ?_; conv => whnf)
      | (refine And.intro (bsl_all rfl) ?_; conv => whnf)
      | (refine And.intro (lens_all rfl) ?_; conv => whnf)
      | (refine And.intro (Nat.le_of_ble_eq_true rfl) ?_; conv => whnf)
      | (rw [ints_at (by omega)]; conv => whnf)
      | (rw [ints_at0 (by omega)]; conv => whnf)
      | (rw [ints_at' (by omega) (by omega)]; conv => whnf)
      | (refine And.intro (show (_ + 1) * _ ≤ _ by omega) ?_; conv => whnf)
      | (refine And.intro (show _ + 1 ≤ _ by omega) ?_; conv => whnf)
      | (refine And.intro (by first | omega | (simp only [length_ints]; omega)) ?_; conv => whnf)
      | (refine ⟨GPickInt_mk (l := [1, 2, 2, 3, 8]) (by omega) (by omega) (by simp) (by simp) (fun j i' h' hj hi' => ?_)⟩; conv => whnf)
      | (refine ⟨GDrawRight_mk (by omega) (by omega) (Int.le_trans (pick5 _) (by omega)) (fun s l i' h' hs hl hi' => ?_)⟩; conv => whnf)
      | fail)
    refine ⟨(s, l, i', h'), ⟨by dsimp only; omega, by dsimp only; omega, hi'⟩, [some 0, some 1, some 5, some 3, some 4], rfl, rfl, ?_, ?_⟩
    · exact And.intro (And.intro (.inl rfl) (And.intro (.inl rfl) (And.intro (.inl rfl) trivial))) (And.intro (And.intro (.inl rfl) (And.intro (.inl rfl) trivial)) (And.intro (And.intro rfl (And.intro rfl trivial)) (And.intro (And.intro rfl rfl) (And.intro (And.intro rfl rfl) trivial))))
    · repeat' (first
        | exact trivial
        | refine ⟨?_, ?_⟩
        | fail)
      all_goals first
        | with_reducible rfl
        | (conv => whnf
           try left
           conv => lhs; whnf
           first
             | rfl
             | exact congrArg (AV.int .i64) (by omega)
             | skip)
  rintro ⟨s, l, i1, h1'⟩ ⟨hs, hl, hi1⟩
  dsimp only at hs hl hi1 ⊢
  refine Aw.meet (α := List Int × List Int × Nat × Int) (fun a => a.1.length ≤ 201 ∧ a.2.1.length ≤ 201 ∧ a.2.2.1 ≤ code.length) drawL2 (drawO code) ?_ ?_
  · refine vc3_sound hR hV _ _ _ _ _ ?_
    conv => whnf
    repeat' (first
      | (refine And.intro (fun hb => ?_) (fun hb => ?_)
         all_goals (try simp only [decide_eq_true_eq, decide_eq_false_iff_not, Bool.not_eq_true', Bool.not_eq_false', Bool.not_not, ne_eq, length_ints, List.length_map, beq_iff_eq, bne_iff_ne, beq_eq_false_iff_ne, bne_eq_false_iff_eq, Int.not_le, Int.not_lt, ge_iff_le, gt_iff_lt, reduceCtorEq, not_false_eq_true, not_true_eq_false, Bool.false_eq_true, Bool.true_eq_false] at hb)
         all_goals (try (exfalso; omega))
         all_goals conv => whnf)
      | (refine And.intro (live_all rfl) ?_; conv => whnf)
      | (refine And.intro rfl ?_; conv => whnf)
      | (refine ⟨_, IntWalk.i64_in _ (by omega), ?_⟩; conv => whnf)
      | (refine And.intro (okcs_all rfl) ?_; conv => whnf)
      | (refine And.intro (okvs_all rfl) ?_; conv => whnf)
      | (refine And.intro (frees_all rfl) ?_; conv => whnf)
      | (refine And.intro (bsl_all rfl) ?_; conv => whnf)
      | (refine And.intro (lens_all rfl) ?_; conv => whnf)
      | (refine And.intro (Nat.le_of_ble_eq_true rfl) ?_; conv => whnf)
      | (rw [ints_at (by omega)]; conv => whnf)
      | (rw [ints_at0 (by omega)]; conv => whnf)
      | (rw [ints_at' (by omega) (by omega)]; conv => whnf)
      | (refine And.intro (show (_ + 1) * _ ≤ _ by omega) ?_; conv => whnf)
      | (refine And.intro (show _ + 1 ≤ _ by omega) ?_; conv => whnf)
      | (refine And.intro (by first | omega | (simp only [length_ints]; omega)) ?_; conv => whnf)
      | (refine And.intro (show (s.length + 1) * 8 ≤ 140737488355328 by omega) ?_; conv => whnf)
      | (refine And.intro (show s.length + 1 ≤ 140737488355328 by omega) ?_; conv => whnf)
      | (refine And.intro (show s.length ≤ (ints s).length by rw [length_ints]; exact Nat.le_refl _) ?_; conv => whnf)
      | (refine ⟨GPickInt_mk (l := [-1, 7, 8]) (by omega) (by omega) (by simp) (by simp) (fun j i' h' hj hi' => ?_)⟩; conv => whnf)
      | (refine ⟨GBelow_mk (by omega) (by omega) (by omega) (fun x i' h' hx0 hx1 hi' => ?_)⟩; conv => whnf)
      | fail)
    · refine ⟨(s, [], i', h'), ⟨by dsimp only; omega, by simp, hi'⟩, [some 0, some 1, some 2, some 3, none], rfl, rfl, ?_, ?_⟩
      · exact And.intro (And.intro (.inl rfl) (And.intro (.inl rfl) (And.intro (.inl rfl) trivial))) (And.intro (And.intro (.inl rfl) (And.intro (.inl rfl) trivial)) (And.intro (And.intro rfl (And.intro ⟨rfl, rfl, rfl⟩ trivial)) (And.intro (And.intro rfl rfl) (And.intro rfl trivial))))
      · repeat' (first
          | exact trivial
          | refine ⟨?_, ?_⟩
          | fail)
        all_goals first
          | with_reducible rfl
          | (conv => whnf
             try left
             conv => lhs; whnf
             first
               | rfl
               | exact congrArg (AV.int .i64) (by omega)
               | skip)
    · refine ⟨(s ++ [([-1, 7, 8] : List Int).getD j 0], l, i', h'), ⟨by simp; omega, by dsimp only; omega, hi'⟩, [some 0, some 1, some 2, some 6, some 4], rfl, rfl, ?_, ?_⟩
      · refine And.intro (And.intro (.inl rfl) (And.intro (.inl rfl) (And.intro (.inl rfl) trivial))) (And.intro (And.intro (.inl rfl) (And.intro (.inl rfl) trivial)) (And.intro (And.intro ?_ (And.intro rfl trivial)) (And.intro (And.intro rfl (app_step s _ s.length rfl)) (And.intro (And.intro rfl rfl) trivial))))
        show AV.ref 6 0 (s.length + 1) = AV.ref 6 0 (s ++ [([-1, 7, 8] : List Int).getD j 0]).length
        simp
      · repeat' (first
          | exact trivial
          | refine ⟨?_, ?_⟩
          | fail)
        all_goals first
          | with_reducible rfl
          | (conv => whnf
             try left
             conv => lhs; whnf
             first
               | rfl
               | exact congrArg (AV.int .i64) (by omega)
               | skip)
    · refine ⟨(List.replicate (40 + x).toNat 0, l, i', h'), ⟨by simp; omega, by dsimp only; omega, hi'⟩, [some 0, some 1, some 2, some 5, some 4], rfl, rfl, ?_, ?_⟩
      · refine And.intro (And.intro (.inl rfl) (And.intro (.inl rfl) (And.intro (.inl rfl) trivial))) (And.intro (And.intro (.inl rfl) (And.intro (.inl rfl) trivial)) (And.intro (And.intro ?_ (And.intro rfl trivial)) (And.intro (And.intro rfl (zeros_ints _)) (And.intro (And.intro rfl rfl) trivial))))
        show AV.ref 5 0 (40 + x).toNat = AV.ref 5 0 (List.replicate (40 + x).toNat (0 : Int)).length
        simp
      · repeat' (first
          | exact trivial
          | refine ⟨?_, ?_⟩
          | fail)
        all_goals first
          | with_reducible rfl
          | (conv => whnf
             try left
             conv => lhs; whnf
             first
               | rfl
               | exact congrArg (AV.int .i64) (by omega)
               | skip)
    · refine ⟨(s, List.replicate (40 + x).toNat 0, i', h'), ⟨by dsimp only; omega, by simp; omega, hi'⟩, [some 0, some 1, some 2, some 3, some 5], rfl, rfl, ?_, ?_⟩
      · refine And.intro (And.intro (.inl rfl) (And.intro (.inl rfl) (And.intro (.inl rfl) trivial))) (And.intro (And.intro (.inl rfl) (And.intro (.inl rfl) trivial)) (And.intro (And.intro rfl (And.intro ?_ trivial)) (And.intro (And.intro rfl rfl) (And.intro (And.intro rfl (zeros_ints _)) trivial))))
        show AV.ref 5 0 (40 + x).toNat = AV.ref 5 0 (List.replicate (40 + x).toNat (0 : Int)).length
        simp
      · repeat' (first
          | exact trivial
          | refine ⟨?_, ?_⟩
          | fail)
        all_goals first
          | with_reducible rfl
          | (conv => whnf
             try left
             conv => lhs; whnf
             first
               | rfl
               | exact congrArg (AV.int .i64) (by omega)
               | skip)
    · refine ⟨(s, l, i', h'), ⟨by dsimp only; omega, by dsimp only; omega, hi'⟩, [some 0, some 1, some 2, some 3, some 4], rfl, rfl, ?_, ?_⟩
      · exact And.intro (And.intro (.inl rfl) (And.intro (.inl rfl) (And.intro (.inl rfl) trivial))) (And.intro (And.intro (.inl rfl) (And.intro (.inl rfl) trivial)) (And.intro (And.intro rfl (And.intro rfl trivial)) (And.intro (And.intro rfl rfl) (And.intro (And.intro rfl rfl) trivial))))
      · repeat' (first
          | exact trivial
          | refine ⟨?_, ?_⟩
          | fail)
        all_goals first
          | with_reducible rfl
          | (conv => whnf
             try left
             conv => lhs; whnf
             first
               | rfl
               | exact congrArg (AV.int .i64) (by omega)
               | skip)
  clear hs hl hi1 s l i1 h1'
  rintro ⟨s, l, i1, h1'⟩ ⟨hs, hl, hi1⟩
  dsimp only at hs hl hi1 ⊢
  refine vc2_sound hR _ _ _ _ _ ?_
  conv => whnf
  repeat' (first
    | (refine And.intro (fun hb => ?_) (fun hb => ?_)
       all_goals (try simp only [decide_eq_true_eq, decide_eq_false_iff_not, Bool.not_eq_true', Bool.not_eq_false', Bool.not_not, ne_eq, length_ints, List.length_map, beq_iff_eq, bne_iff_ne, beq_eq_false_iff_ne, bne_eq_false_iff_eq, Int.not_le, Int.not_lt, ge_iff_le, gt_iff_lt, reduceCtorEq, not_false_eq_true, not_true_eq_false, Bool.false_eq_true, Bool.true_eq_false] at hb)
       all_goals (try (exfalso; omega))
       all_goals conv => whnf)
    | (refine And.intro (live_all rfl) ?_; conv => whnf)
    | (refine And.intro rfl ?_; conv => whnf)
    | (refine ⟨_, IntWalk.i64_in _ (by omega), ?_⟩; conv => whnf)
    | (refine And.intro (okcs_all rfl) ?_; conv => whnf)
    | (refine And.intro (okvs_all rfl) ?_; conv => whnf)
    | (refine And.intro (frees_all rfl) ?_; conv => whnf)
    | (refine And.intro (bsl_all rfl) ?_; conv => whnf)
    | (refine And.intro (lens_all rfl) ?_; conv => whnf)
    | (refine And.intro (Nat.le_of_ble_eq_true rfl) ?_; conv => whnf)
    | (rw [ints_at (by omega)]; conv => whnf)
    | (rw [ints_at0 (by omega)]; conv => whnf)
    | (rw [ints_at' (by omega) (by omega)]; conv => whnf)
    | (refine And.intro (show (_ + 1) * _ ≤ _ by omega) ?_; conv => whnf)
    | (refine And.intro (show _ + 1 ≤ _ by omega) ?_; conv => whnf)
    | (refine And.intro (by first | omega | (simp only [length_ints]; omega)) ?_; conv => whnf)
    | fail)
  refine ⟨.inl rfl, ?_⟩
  conv => whnf
  refine And.intro (Nat.le_of_ble_eq_true rfl) ?_
  conv => whnf
  exact ⟨[some 0, some 3, some 4], .agg [.ref 1 0 s.length, .ref 2 0 l.length], [some (curO code i1 h1'), some (.arr 1 (ints s)), some (.arr 1 (ints l))],
    ⟨rfl, And.intro (And.intro (.inl rfl) (And.intro (.inl rfl) (And.intro (.inl rfl) trivial))) (And.intro (And.intro rfl rfl) (And.intro (And.intro rfl rfl) trivial))⟩, And.intro rfl (And.intro rfl trivial), rfl, hq s l i1 h1' (by omega) (by omega) hi1⟩

/-- a word drawn of a code: of any letters, not too long -/
def GDrawText : GFun := fun xs objs Q => ∃ (code : List UInt8), xs = [.val (code.map byteRow)] ∧ objs = [] ∧ code.length ≤ 1048576 ∧
  ∀ (s l : List Int), s.length ≤ 201 → l.length ≤ 201 → Q (.agg [.ref 0 0 s.length, .ref 1 0 l.length]) [some (.arr 1 (ints s)), some (.arr 1 (ints l))]
theorem GDrawText_mk {code : List UInt8} {Q : AV → List (Option AObj) → Prop} (h2 : code.length ≤ 1048576)
    (hq : ∀ (s l : List Int), s.length ≤ 201 → l.length ≤ 201 → Q (.agg [.ref 0 0 s.length, .ref 1 0 l.length]) [some (.arr 1 (ints s)), some (.arr 1 (ints l))]) :
    GDrawText [.val (code.map byteRow)] [] Q := ⟨code, rfl, rfl, h2, hq⟩

set_option maxHeartbeats 1000000 in
theorem s_spec_DrawWordText : GenSound Try.prog 28 0 GDrawText := by
  have hR : Rely Try.prog (ctxOf [(82, .gen 0 GNew), (81, .gen 1 GDrawWord)]) := rely_cons b_spec_l1New.has s_spec_l1New (rely_cons b_spec_l3DrawWord.has s_spec_l3DrawWord (rely_nil mixed))
  refine gen_of_aw b_spec_DrawWordText ?_
  rintro xs objs Q - ⟨code, rfl, rfl, h2, hq⟩ -
  refine ⟨by simp, vc2_sound hR _ _ _ _ _ ?_⟩
  conv => whnf
  repeat' (first
    | (refine And.intro (fun hb => ?_) (fun hb => ?_)
       all_goals (try simp only [decide_eq_true_eq, decide_eq_false_iff_not, Bool.not_eq_true', Bool.not_eq_false', Bool.not_not, ne_eq, length_ints, List.length_map, beq_iff_eq, bne_iff_ne, beq_eq_false_iff_ne, bne_eq_false_iff_eq, Int.not_le, Int.not_lt, ge_iff_le, gt_iff_lt, reduceCtorEq, not_false_eq_true, not_true_eq_false, Bool.false_eq_true, Bool.true_eq_false] at hb)
       all_goals (try (exfalso; omega))
       all_goals conv => whnf)
    | (refine And.intro (live_all rfl) ?_; conv => whnf)
    | (refine And.intro rfl ?_; conv => whnf)
    | (refine ⟨_, IntWalk.i64_in _ (by omega), ?_⟩; conv => whnf)
    | (refine And.intro (okcs_all rfl) ?_; conv => whnf)
    | (refine And.intro (okvs_all rfl) ?_; conv => whnf)
    | (refine And.intro (frees_all rfl) ?_; conv => whnf)
    | (refine And.intro (bsl_all rfl) ?_; conv => whnf)
    | (refine And.intro (lens_all rfl) ?_; conv => whnf)
    | (refine And.intro (Nat.le_of_ble_eq_true rfl) ?_; conv => whnf)
    | (rw [ints_at (by omega)]; conv => whnf)
    | (rw [ints_at0 (by omega)]; conv => whnf)
    | (rw [ints_at' (by omega) (by omega)]; conv => whnf)
    | (refine And.intro (show (_ + 1) * _ ≤ _ by omega) ?_; conv => whnf)
    | (refine And.intro (show _ + 1 ≤ _ by omega) ?_; conv => whnf)
    | (refine And.intro (by first | omega | (simp only [length_ints]; omega)) ?_; conv => whnf)
    | (refine ⟨GNew_mk h2 (fun h => ?_)⟩; conv => whnf)
    | (refine ⟨GDrawWord_mk (by omega) (by omega) (fun s l i' h' hs hl hi' => ?_)⟩; conv => whnf)
    | fail)
  refine ⟨.inl rfl, ?_⟩
  conv => whnf
  refine And.intro (Nat.le_of_ble_eq_true rfl) ?_
  conv => whnf
  exact ⟨[some 2, some 3], .agg [.ref 0 0 s.length, .ref 1 0 l.length], [some (.arr 1 (ints s)), some (.arr 1 (ints l))],
    ⟨rfl, And.intro (And.intro rfl rfl) (And.intro (And.intro rfl rfl) trivial)⟩, And.intro rfl (And.intro rfl trivial), rfl, hq s l (by omega) (by omega)⟩

end Go.Proofs.Ytpfbkblgefddlaa.Ct
