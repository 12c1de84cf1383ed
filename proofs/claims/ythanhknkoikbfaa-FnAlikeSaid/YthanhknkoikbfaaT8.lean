/- Part 8 of the proof of FnAlikeSaid: CtDrawT to CtLawAlike. Conditions: none. -/
import Derived.Test.YthanhknkoikbfaaT7
set_option linter.unusedSimpArgs false
set_option linter.unusedVariables false
namespace Go.Proofs.Ythanhknkoikbfaa.Ct
open Go Go.Proofs Go.Proofs.Ythanhknkoikbfaa.Av
def c_spec_l6DrawTaken : ICode := (.seq (.reg [O0 4 (.alc [(.int .i64 0), (.int .i64 0), (.int .i64 0), .snil]), O0 5 (.alc [.snil, .snil])]) (.seq (.reg [O1 9 .mv 0, O1 10 .mv 1, O2 11 (.call 138) 9 10, O0 6 (.alc [(.int .i64 0), (.int .i64 0), (.int .i64 0), .snil]), S2 (.st 4) 6 11]) (.seq (.seq (.reg [O1 12 (.ldn 4) 6, O1 13 (.call 38) 12, O1 14 .not 13]) (.cond (.t 14) (.seq (.drw [O1 15 (.ldn 4) 6, O1 16 .mv 0, O1 17 (.call 147) 16, S2 (.st 4) 4 15, S2 (.st 2) 5 17] (unB [0, 0, 2, 7, 15] 0) true true) .ret) .skip)) (.seq (.reg [O1 18 .mv 0, O1 19 (.fadr 0) 6, O1 20 .ld1 19, O2 21 (.call 148) 18 20, O0 7 (.alc [.snil, .snil]), S2 (.st 2) 7 21]) (.seq (.seq (.reg [Ol 8 .mv [ci 0]]) (.block 0 (.loop (.seq (.seq (.reg [O1 22 .mv 8, Ol 23 (.bin .lss) [.t 22, ci 4], O1 24 .mv 23, Og 25 (.ldn 4) [.t 6] 24 true, Og 26 (.ldn 2) [.t 7] 24 true, Og 27 (.call 40) [.t 25, .t 26] 24 true, Og 28 .not [.t 27] 24 true, Ol 29 .pick [.t 24, .t 28, cb false], O1 30 .mv 29, Og 31 .mv [.t 0] 30 true, Og 32 (.call 139) [.t 31, ci 3] 30 true, Og 33 .not [.t 32] 30 true, Ol 34 .pick [.t 30, .t 33, cb false]]) (.cond (.t 34) .skip (.exit 0))) (.seq (.block 1 (.reg [O1 37 .mv 0, O1 38 (.fadr 0) 6, O1 39 .ld1 38, O2 40 (.call 148) 37 39, S2 (.st 2) 7 40])) (.reg [O1 35 .mv 8, Ol 36 (.bin .add) [.t 35, ci 1], O1 8 .mv 36])))))) (.seq (.seq (.reg [O1 41 .mv 0, Ol 42 (.call 139) [.t 41, ci 15]]) (.cond (.t 42) (.reg [O1 43 .mv 0, O1 44 (.call 147) 43, S2 (.st 2) 7 44]) .skip)) (.seq (.drw [O1 45 (.ldn 4) 6, O1 46 (.ldn 2) 7, S2 (.st 4) 4 45, S2 (.st 2) 5 46] (unB [0, 0, 1, 7] 0) false true) .ret)))))))
theorem b_spec_l6DrawTaken : Body Try.prog 109 47 c_spec_l6DrawTaken [(.cn 4 4), (.cn 5 2)] := body_mk Try.func109 (by kernel_rfl) (by decide)
theorem snap_woT {h : Heap} {i j n m : Nat} {s l : List Int} (hi : h i = some (.arr 1 (ints s))) (hj : h j = some (.arr 1 (ints l))) (hn : s.length = n) (hm : l.length = m) : (AV.agg [.ref i 0 n, .ref j 0 m]).snap h = wordV s l :=
  snap_agg (cells_cons (snap1_all hi (by rw [length_ints, hn])) (cells_cons (snap1_all hj (by rw [length_ints, hm])) rfl))
theorem GDrawWord_nv (xs : List AV) (objs : List AObj) (Q : AV → List (Option AObj) → Prop) (h : GDrawWord xs objs Q) : ∃ r out, Q r out := by
  obtain ⟨code, i, h, _, _, _, _, hq⟩ := h
  exact ⟨_, _, hq [] [] 0 0 (by simp) (by simp) (Nat.zero_le _)⟩
theorem GDrawAuto_nv (xs : List AV) (objs : List AObj) (Q : AV → List (Option AObj) → Prop) (h : GDrawAuto xs objs Q) : ∃ r out, Q r out := by
  obtain ⟨code, i, h, n, _, _, _, _, _, hq⟩ := h
  exact ⟨_, _, hq zeroAuto 0 0 (by simp [zeroAuto]) (Nat.zero_le _)⟩
def takenR (o : Nat) (a : AutoD) (s l : List Int) : AV := .tup [.agg (autoRef o a), .agg [.ref (o + 1) 0 s.length, .ref (o + 2) 0 l.length]]
def GTaken : GFun := fun xs objs Q => ∃ (code : List UInt8) (i : Nat) (h n : Int), xs = [.ptr 0 0 0, .int .i64 n] ∧ objs = [curO code i h] ∧ i ≤ code.length ∧ code.length ≤ 1048576 ∧ (1 ≤ n ∧ n ≤ 30) ∧
  ∀ (a : AutoD) (s l : List Int) (i' : Nat) (h' : Int), a.edges.length ≤ 7689 → s.length ≤ 201 → l.length ≤ 201 → i' ≤ code.length → Q (takenR 1 a s l) [some (curO code i' h'), some (.arr 4 (edgeRows a.edges)), some (.arr 1 (ints s)), some (.arr 1 (ints l))]
abbrev takL (_ : List Int × List Int × Nat × Int) : List (Nat × AV) := [(0, .ptr 0 0 0), (4, .ptr 1 0 0), (5, .ptr 2 0 0), (6, .ptr 3 0 0), (7, .ptr 5 0 0)]
abbrev takO (code : List UInt8) (a : AutoD) (c : List Int × List Int × Nat × Int) : List (Option AObj) :=
  [some (curO code c.2.2.1 c.2.2.2), some (.box [.int .i64 0, .int .i64 0, .int .i64 0, .snil]), some (.box [.snil, .snil]), some (.box (autoRef 4 a)), some (.arr 4 (edgeRows a.edges)), some (.box [.ref 6 0 c.1.length, .ref 7 0 c.2.1.length]), some (.arr 1 (ints c.1)), some (.arr 1 (ints c.2.1))]
abbrev takI (code : List UInt8) (B : Nat) (c : List Int × List Int × Nat × Int) : Prop := c.1.length ≤ B ∧ c.2.1.length ≤ B ∧ c.2.2.1 ≤ code.length
open Classical in
set_option maxHeartbeats 4000000 in
theorem s_spec_l6DrawTaken : GenSound Try.prog 109 1 GTaken := by
  have hR : Rely Try.prog (ctxOf [(139, .gen 1 GOnce), (138, .gen 1 GDrawAuto), (148, .gen 1 GDrawRight), (147, .gen 1 GDrawWord), (38, .pure RAutoOk), (40, .pure RTakesA)]) :=
    rely_cons b_spec_l1Once.has s_spec_l1Once (rely_cons b_spec_l4DrawAuto.has s_spec_l4DrawAuto (rely_cons b_spec_l3DrawRight.has s_spec_l3DrawRight (rely_cons b_spec_l3DrawWord.has s_spec_l3DrawWord (rely_cons b_spec_AutoOk.has s_spec_AutoOk (rely_cons b_spec_AutoTakes.has s_spec_AutoTakes (rely_nil mixed))))))
  have hV : CtxNV (ctxOf [(139, .gen 1 GOnce), (138, .gen 1 GDrawAuto), (148, .gen 1 GDrawRight), (147, .gen 1 GDrawWord), (38, .pure RAutoOk), (40, .pure RTakesA)]) :=
    nv_gen GOnce_nv (nv_gen GDrawAuto_nv (nv_gen GDrawRight_nv (nv_gen GDrawWord_nv (nv_pure (nv_pure nvNil)))))
  refine gen_of_aw b_spec_l6DrawTaken ?_
  rintro xs objs Q - ⟨code, i, h, n, rfl, rfl, h1, h2, h4, hq⟩ -
  refine ⟨by simp, ?_⟩
  refine Aw.meet (α := Unit) (fun _ => True) (fun _ => [(0, .ptr 0 0 0), (1, .int .i64 n), (4, .ptr 1 0 0), (5, .ptr 2 0 0)]) (fun _ => [some (curO code i h), some (.box [.int .i64 0, .int .i64 0, .int .i64 0, .snil]), some (.box [.snil, .snil])]) ?_ ?_
  · refine vc2_sound hR _ _ _ _ _ ?_
    conv => whnf
    repeat' ((first | (refine And.intro (fun hb => ?_) (fun hb => ?_) <;> ((try simp only [SB, reduceCtorEq] at hb); try (exfalso; omega))) | refine G2 ?_ | rw [ints_at (by omega)] | rw [ints_at0 (by omega)] | rw [ints_at' (by omega) (by omega)] | refine G1 ?_ | fail) <;> conv => whnf)
    refine ⟨(), trivial, [some 0, some 1, some 2], rfl, rfl, ?_, ?_⟩
    · repeat' (first | exact trivial | exact rfl | exact Or.inl rfl | refine And.intro ?_ ?_)
    · repeat' (first
        | exact trivial
        | refine ⟨?_, ?_⟩
        | fail)
      all_goals first
        | with_reducible rfl
        | (conv => whnf
           try left
           conv => lhs; whnf
           first
             | rfl
             | exact congrArg (AV.int .i64) (by omega)
             | skip)
  rintro _ -
  refine Aw.meet (α := AutoD × Nat × Int) (autI code 7689) (fun _ => [(0, .ptr 0 0 0), (4, .ptr 1 0 0), (5, .ptr 2 0 0), (6, .ptr 3 0 0)]) (fun a => [some (curO code a.2.1 a.2.2), some (.box [.int .i64 0, .int .i64 0, .int .i64 0, .snil]), some (.box [.snil, .snil]), some (.box (autoRef 4 a.1)), some (.arr 4 (edgeRows a.1.edges))]) ?_ ?_
  · refine vc2_sound hR _ _ _ _ _ ?_
    conv => whnf
    repeat' ((first | (refine And.intro (fun hb => ?_) (fun hb => ?_) <;> ((try simp only [SB, reduceCtorEq] at hb); try (exfalso; omega))) | refine G2 ?_ | rw [ints_at (by omega)] | rw [ints_at0 (by omega)] | rw [ints_at' (by omega) (by omega)] | refine G1 ?_ | refine ⟨GDrawAuto_mk (by omega) (by omega) h4 (fun a i' h' ha hi' => ?_)⟩ | fail) <;> conv => whnf)
    refine ⟨(a, i', h'), ⟨ha, hi'⟩, [some 0, some 1, some 2, some 4, some 3], rfl, rfl, ?_, ?_⟩
    · exact And.intro (And.intro (.inl rfl) (And.intro (.inl rfl) (And.intro (.inl rfl) trivial))) (And.intro (And.intro (.inl rfl) (And.intro (.inl rfl) (And.intro (.inl rfl) (And.intro (.inl rfl) trivial)))) (And.intro (And.intro (.inl rfl) (And.intro (.inl rfl) trivial)) (And.intro (And.intro (.inl rfl) (And.intro (.inl rfl) (And.intro (.inl rfl) (And.intro rfl trivial)))) (And.intro (And.intro rfl rfl) trivial))))
    · repeat' (first
        | exact trivial
        | refine ⟨?_, ?_⟩
        | fail)
      all_goals first
        | with_reducible rfl
        | (conv => whnf
           try left
           conv => lhs; whnf
           first
             | rfl
             | exact congrArg (AV.int .i64) (by omega)
             | skip)
  rintro ⟨a, i1, h1'⟩ ⟨ha, hi1⟩
  dsimp only at ha hi1 ⊢
  refine vc3_sound hR hV _ _ _ _ _ ?_
  by_cases hok : AutoOk a
  rotate_left
  · have hok' : decide (AutoOk a) = false := decide_eq_false hok
    conv => whnf
    repeat' ((first | (refine And.intro (fun hb => ?_) (fun hb => ?_) <;> ((try simp only [SB, reduceCtorEq] at hb); try (exfalso; omega))) | refine G2 ?_ | rw [ints_at (by omega)] | rw [ints_at0 (by omega)] | rw [ints_at' (by omega) (by omega)] | refine G1 ?_ | refine ⟨_, _, RAutoOk_is (args_cons (snap_auto rfl) rfl) hok', ?_⟩ | refine ⟨GDrawWord_mk (by omega) (by omega) (fun s l i' h' hs hl hi' => ?_)⟩ | fail) <;> conv => whnf)
    refine ⟨.inl rfl, ?_⟩
    conv => whnf
    refine And.intro (Nat.le_of_ble_eq_true rfl) ?_
    conv => whnf
    refine And.intro (Nat.le_of_ble_eq_true rfl) ?_
    conv => whnf
    exact ⟨[some 0, some 4, some 5, some 6], takenR 1 a s l, [some (curO code i' h'), some (.arr 4 (edgeRows a.edges)), some (.arr 1 (ints s)), some (.arr 1 (ints l))], ⟨rfl, And.intro (And.intro (.inl rfl) (And.intro (.inl rfl) (And.intro (.inl rfl) trivial))) (And.intro (And.intro rfl rfl) (And.intro (And.intro rfl rfl) (And.intro (And.intro rfl rfl) trivial)))⟩,
      And.intro (And.intro (.inl rfl) (And.intro (.inl rfl) (And.intro (.inl rfl) (And.intro rfl trivial)))) (And.intro (And.intro rfl (And.intro rfl trivial)) trivial), rfl, hq a s l i' h' ha hs hl hi'⟩
  have hok' : decide (AutoOk a) = true := decide_eq_true hok
  have hl8 : a.letters ≤ 8 := hok.1.1.2
  conv => whnf
  repeat' ((first | (refine And.intro (fun hb => ?_) (fun hb => ?_) <;> ((try simp only [SB, reduceCtorEq] at hb); try (exfalso; omega))) | refine G2 ?_ | rw [ints_at (by omega)] | rw [ints_at0 (by omega)] | rw [ints_at' (by omega) (by omega)] | refine G1 ?_ | refine ⟨_, _, RAutoOk_is (args_cons (snap_auto rfl) rfl) hok', ?_⟩ | refine ⟨GDrawRight_mk (by omega) (by omega) (by omega) (fun s l i' h' hs hl hi' => ?_)⟩ | fail) <;> conv => whnf)
  refine Lp.intro (α := (List Int × List Int × Nat × Int) × Nat) (fun c => takI code 100 c.1 ∧ c.2 ≤ 4) (fun c => 4 - c.2) (fun c => (8, .int .i64 ((c.2 : Nat) : Int)) :: takL c.1) (fun c => takO code a c.1) ?_ ?_
  · refine ⟨((s, l, i', h'), 0), ⟨⟨hs, hl, hi'⟩, Nat.zero_le _⟩, [some 0, some 1, some 2, some 3, some 4, some 7, some 5, some 6], rfl, rfl, ?_, ?_⟩
    · exact And.intro (And.intro (.inl rfl) (And.intro (.inl rfl) (And.intro (.inl rfl) trivial))) (And.intro (And.intro (.inl rfl) (And.intro (.inl rfl) (And.intro (.inl rfl) (And.intro (.inl rfl) trivial)))) (And.intro (And.intro (.inl rfl) (And.intro (.inl rfl) trivial)) (And.intro (And.intro (.inl rfl) (And.intro (.inl rfl) (And.intro (.inl rfl) (And.intro rfl trivial)))) (And.intro (And.intro rfl rfl) (And.intro (And.intro rfl (And.intro rfl trivial)) (And.intro (And.intro rfl rfl) (And.intro (And.intro rfl rfl) trivial)))))))
    · repeat' (first
        | exact trivial
        | refine ⟨?_, ?_⟩
        | fail)
      all_goals first
        | with_reducible rfl
        | (conv => whnf
           try left
           conv => lhs; whnf
           first
             | rfl
             | exact congrArg (AV.int .i64) (by omega)
             | skip)
  rintro ⟨⟨s, l, i2, h2'⟩, k⟩ ⟨⟨hs, hl, hi2⟩, hk⟩
  dsimp only at hs hl hi2 hk ⊢
  refine vc3_sound hR hV _ _ _ _ _ ?_
  cases hT : decide (TakesA a s l) with
  | true =>
    have hT' : true = true ↔ TakesA a s l := ⟨fun _ => of_decide_eq_true hT, fun _ => rfl⟩
    conv => whnf
    repeat' ((first | (refine And.intro (fun hb => ?_) (fun hb => ?_) <;> ((try simp only [SB, reduceCtorEq] at hb); try (exfalso; omega))) | refine G2 ?_ | rw [ints_at (by omega)] | rw [ints_at0 (by omega)] | rw [ints_at' (by omega) (by omega)] | refine G1 ?_ | refine ⟨_, _, RTakesA_is (args_cons (snap_auto rfl) (args_cons (snap_woT rfl rfl rfl rfl) rfl)) hT', ?_⟩ | refine ⟨GOnce_mk (by omega) (by omega) (by omega) (fun b i' h' hi' => ?_)⟩ | refine ⟨GDrawWord_mk (by omega) (by omega) (fun s l i' h' hs hl hi' => ?_)⟩ | fail) <;> conv => whnf)
    all_goals
      refine ⟨.inl rfl, ?_⟩
      conv => whnf
      refine And.intro (Nat.le_of_ble_eq_true rfl) ?_
      conv => whnf
      refine And.intro (Nat.le_of_ble_eq_true rfl) ?_
      conv => whnf
      first
      | exact ⟨[some 0, some 4, some 6, some 7], takenR 1 a s l, [some (curO code i' h'), some (.arr 4 (edgeRows a.edges)), some (.arr 1 (ints s)), some (.arr 1 (ints l))], ⟨rfl, And.intro (And.intro (.inl rfl) (And.intro (.inl rfl) (And.intro (.inl rfl) trivial))) (And.intro (And.intro rfl rfl) (And.intro (And.intro rfl rfl) (And.intro (And.intro rfl rfl) trivial)))⟩,
          And.intro (And.intro (.inl rfl) (And.intro (.inl rfl) (And.intro (.inl rfl) (And.intro rfl trivial)))) (And.intro (And.intro rfl (And.intro rfl trivial)) trivial), rfl, hq a s l i' h' ha (by omega) (by omega) hi'⟩
      | exact ⟨[some 0, some 4, some 8, some 9], takenR 1 a s l, [some (curO code i' h'), some (.arr 4 (edgeRows a.edges)), some (.arr 1 (ints s)), some (.arr 1 (ints l))], ⟨rfl, And.intro (And.intro (.inl rfl) (And.intro (.inl rfl) (And.intro (.inl rfl) trivial))) (And.intro (And.intro rfl rfl) (And.intro (And.intro rfl rfl) (And.intro (And.intro rfl rfl) trivial)))⟩,
          And.intro (And.intro (.inl rfl) (And.intro (.inl rfl) (And.intro (.inl rfl) (And.intro rfl trivial)))) (And.intro (And.intro rfl (And.intro rfl trivial)) trivial), rfl, hq a s l i' h' ha (by omega) (by omega) hi'⟩
  | false =>
    have hT' : false = true ↔ TakesA a s l := ⟨fun h => (by cases h), fun h => absurd h (of_decide_eq_false hT)⟩
    conv => whnf
    repeat' ((first | (refine And.intro (fun hb => ?_) (fun hb => ?_) <;> ((try simp only [SB, reduceCtorEq] at hb); try (exfalso; omega))) | refine G2 ?_ | rw [ints_at (by omega)] | rw [ints_at0 (by omega)] | rw [ints_at' (by omega) (by omega)] | refine G1 ?_ | refine ⟨_, _, RTakesA_is (args_cons (snap_auto rfl) (args_cons (snap_woT rfl rfl rfl rfl) rfl)) hT', ?_⟩ | refine ⟨GOnce_mk (by omega) (by omega) (by omega) (fun b i' h' hi' => ?_)⟩ | refine ⟨GDrawRight_mk (by omega) (by omega) (by omega) (fun s l i' h' hs hl hi' => ?_)⟩ | refine ⟨GDrawWord_mk (by omega) (by omega) (fun s l i' h' hs hl hi' => ?_)⟩ | fail) <;> conv => whnf)
    all_goals first
    | (refine ⟨((s, l, i', h'), k + 1), ⟨⟨hs, hl, hi'⟩, by dsimp only; omega⟩, by dsimp only; omega, [some 0, some 1, some 2, some 3, some 4, some 5, some 8, some 9], rfl, rfl, ?_, ?_⟩
       · exact And.intro (And.intro (.inl rfl) (And.intro (.inl rfl) (And.intro (.inl rfl) trivial))) (And.intro (And.intro (.inl rfl) (And.intro (.inl rfl) (And.intro (.inl rfl) (And.intro (.inl rfl) trivial)))) (And.intro (And.intro (.inl rfl) (And.intro (.inl rfl) trivial)) (And.intro (And.intro (.inl rfl) (And.intro (.inl rfl) (And.intro (.inl rfl) (And.intro rfl trivial)))) (And.intro (And.intro rfl rfl) (And.intro (And.intro rfl (And.intro rfl trivial)) (And.intro (And.intro rfl rfl) (And.intro (And.intro rfl rfl) trivial)))))))
       · exact ⟨.inl (congrArg (AV.int .i64) (by omega)), rfl, rfl, rfl, rfl, rfl, trivial⟩)
    | skip
    all_goals
      refine ⟨.inl rfl, ?_⟩
      conv => whnf
      refine And.intro (Nat.le_of_ble_eq_true rfl) ?_
      conv => whnf
      refine And.intro (Nat.le_of_ble_eq_true rfl) ?_
      conv => whnf
      first
      | exact ⟨[some 0, some 4, some 6, some 7], takenR 1 a s l, [some (curO code i' h'), some (.arr 4 (edgeRows a.edges)), some (.arr 1 (ints s)), some (.arr 1 (ints l))], ⟨rfl, And.intro (And.intro (.inl rfl) (And.intro (.inl rfl) (And.intro (.inl rfl) trivial))) (And.intro (And.intro rfl rfl) (And.intro (And.intro rfl rfl) (And.intro (And.intro rfl rfl) trivial)))⟩,
          And.intro (And.intro (.inl rfl) (And.intro (.inl rfl) (And.intro (.inl rfl) (And.intro rfl trivial)))) (And.intro (And.intro rfl (And.intro rfl trivial)) trivial), rfl, hq a s l i' h' ha (by omega) (by omega) hi'⟩
      | exact ⟨[some 0, some 4, some 8, some 9], takenR 1 a s l, [some (curO code i' h'), some (.arr 4 (edgeRows a.edges)), some (.arr 1 (ints s)), some (.arr 1 (ints l))], ⟨rfl, And.intro (And.intro (.inl rfl) (And.intro (.inl rfl) (And.intro (.inl rfl) trivial))) (And.intro (And.intro rfl rfl) (And.intro (And.intro rfl rfl) (And.intro (And.intro rfl rfl) trivial)))⟩,
          And.intro (And.intro (.inl rfl) (And.intro (.inl rfl) (And.intro (.inl rfl) (And.intro rfl trivial)))) (And.intro (And.intro rfl (And.intro rfl trivial)) trivial), rfl, hq a s l i' h' ha (by omega) (by omega) hi'⟩
def c_spec_DrawAutoTakes : ICode := (.seq (.reg [O0 2 (.alc [(.int .i64 0), (.int .i64 0), (.int .i64 0), .snil]), O0 3 (.alc [.snil, .snil])]) (.seq (.reg [O1 7 .mv 0, O1 8 (.call 110) 7, Ol 9 (.call 109) [.t 8, ci 6], O1 6 .mv 9, O1 10 (.ext 0) 6, O1 11 (.ext 1) 6, O0 4 (.alc [(.int .i64 0), (.int .i64 0), (.int .i64 0), .snil]), O0 5 (.alc [.snil, .snil]), S2 (.st 4) 4 10, S2 (.st 2) 5 11]) (.seq (.drw [O1 12 (.ldn 4) 4, O1 13 (.ldn 2) 5, S2 (.st 4) 2 12, S2 (.st 2) 3 13] (unB [0, 0, 1, 7] 0) false true) .ret)))
theorem b_spec_DrawAutoTakes : Body Try.prog 36 14 c_spec_DrawAutoTakes [(.cn 2 4), (.cn 3 2)] := body_mk Try.func36 (by kernel_rfl) (by decide)
theorem GTaken_mk {code : List UInt8} {i : Nat} {h n : Int} {Q : AV → List (Option AObj) → Prop} (h1 : i ≤ code.length) (h2 : code.length ≤ 1048576) (h4 : 1 ≤ n ∧ n ≤ 30)
    (hq : ∀ (a : AutoD) (s l : List Int) (i' : Nat) (h' : Int), a.edges.length ≤ 7689 → s.length ≤ 201 → l.length ≤ 201 → i' ≤ code.length → Q (takenR 1 a s l) [some (curO code i' h'), some (.arr 4 (edgeRows a.edges)), some (.arr 1 (ints s)), some (.arr 1 (ints l))]) :
    GTaken [.ptr 0 0 0, .int .i64 n] [curO code i h] Q := ⟨code, i, h, n, rfl, rfl, h1, h2, h4, hq⟩
theorem GTaken_nv (xs : List AV) (objs : List AObj) (Q : AV → List (Option AObj) → Prop) (h : GTaken xs objs Q) : ∃ r out, Q r out := by
  obtain ⟨code, i, h, n, _, _, _, _, _, hq⟩ := h
  exact ⟨_, _, hq zeroAuto [] [] 0 0 (by simp [zeroAuto]) (by simp) (by simp) (Nat.zero_le _)⟩
theorem GNew_nv (xs : List AV) (objs : List AObj) (Q : AV → List (Option AObj) → Prop) (h : GNew xs objs Q) : ∃ r out, Q r out := by
  obtain ⟨code, _, _, _, hq⟩ := h
  exact ⟨_, _, hq 0⟩
def GDrawAW : GFun := fun xs objs Q => ∃ (code : List UInt8), xs = [.val (code.map byteRow)] ∧ objs = [] ∧ code.length ≤ 1048576 ∧
  ∀ (a : AutoD) (s l : List Int), a.edges.length ≤ 7689 → s.length ≤ 201 → l.length ≤ 201 → Q (takenR 0 a s l) [some (.arr 4 (edgeRows a.edges)), some (.arr 1 (ints s)), some (.arr 1 (ints l))]
theorem GDrawAW_mk {code : List UInt8} {Q : AV → List (Option AObj) → Prop} (h2 : code.length ≤ 1048576)
    (hq : ∀ (a : AutoD) (s l : List Int), a.edges.length ≤ 7689 → s.length ≤ 201 → l.length ≤ 201 → Q (takenR 0 a s l) [some (.arr 4 (edgeRows a.edges)), some (.arr 1 (ints s)), some (.arr 1 (ints l))]) : GDrawAW [.val (code.map byteRow)] [] Q := ⟨code, rfl, rfl, h2, hq⟩
set_option maxHeartbeats 1000000 in
theorem s_spec_DrawAutoTakes : GenSound Try.prog 36 0 GDrawAW := by
  have hR : Rely Try.prog (ctxOf [(110, .gen 0 GNew), (109, .gen 1 GTaken)]) := rely_cons b_spec_l1New.has s_spec_l1New (rely_cons b_spec_l6DrawTaken.has s_spec_l6DrawTaken (rely_nil mixed))
  have hV : CtxNV (ctxOf [(110, .gen 0 GNew), (109, .gen 1 GTaken)]) := nv_gen GNew_nv (nv_gen GTaken_nv nvNil)
  refine gen_of_aw b_spec_DrawAutoTakes ?_
  rintro xs objs Q - ⟨code, rfl, rfl, h2, hq⟩ -
  refine ⟨by simp, vc3_sound hR hV _ _ _ _ _ ?_⟩
  conv => whnf
  repeat' ((first | (refine And.intro (fun hb => ?_) (fun hb => ?_) <;> ((try simp only [SB, reduceCtorEq] at hb); try (exfalso; omega))) | refine G2 ?_ | rw [ints_at (by omega)] | rw [ints_at0 (by omega)] | rw [ints_at' (by omega) (by omega)] | refine G1 ?_ | refine ⟨GNew_mk h2 (fun h => ?_)⟩ | refine ⟨GTaken_mk (by omega) (by omega) (by omega) (fun a s l i' h' ha hs hl hi' => ?_)⟩ | fail) <;> conv => whnf)
  refine ⟨.inl rfl, ?_⟩
  conv => whnf
  refine And.intro (Nat.le_of_ble_eq_true rfl) ?_
  conv => whnf
  refine And.intro (Nat.le_of_ble_eq_true rfl) ?_
  conv => whnf
  exact ⟨[some 3, some 4, some 5], takenR 0 a s l, [some (.arr 4 (edgeRows a.edges)), some (.arr 1 (ints s)), some (.arr 1 (ints l))], ⟨rfl, And.intro (And.intro rfl rfl) (And.intro (And.intro rfl rfl) (And.intro (And.intro rfl rfl) trivial))⟩,
    And.intro (And.intro (.inl rfl) (And.intro (.inl rfl) (And.intro (.inl rfl) (And.intro rfl trivial)))) (And.intro (And.intro rfl (And.intro rfl trivial)) trivial), rfl, hq a s l ha hs hl⟩
def c_laws_big : ICode := (.seq (.reg [Ol 2 .mv [cb false]]) (.seq (.reg [O1 3 .mv 0, O1 4 .len 3, Ol 5 (.bin .gtr) [.t 4, ci 1048576], O1 2 .mv 5]) .ret))
theorem b_laws_big : Body Try.prog 35 6 c_laws_big [(.t 2)] := body_mk Try.func35 (by kernel_rfl) (by decide)
def RBig (xs : List AV) (r : AV) (objs : List AObj) : Prop := ∃ code : List UInt8, xs = [.val (code.map byteRow)] ∧ r = .bool (decide (1048576 < code.length)) ∧ objs = []
theorem RBig_mk {code : List UInt8} : RBig [.val (code.map byteRow)] (.bool (decide (1048576 < code.length))) [] := ⟨code, rfl, rfl, rfl⟩
theorem s_laws_big : PureSound Try.prog 35 RBig := by
  have hR : Rely Try.prog (ctxOf []) := rely_nil mixed
  refine pure_of_aw b_laws_big ?_
  rintro xs r objs ⟨code, rfl, rfl, rfl⟩ -
  have hbl : (code.map byteRow).length = code.length := by simp
  refine ⟨by simp, vc2_sound hR _ _ _ _ _ ?_⟩
  conv => whnf
  repeat' ((first | (refine And.intro (fun hb => ?_) (fun hb => ?_) <;> ((try simp only [SB, reduceCtorEq] at hb); try (exfalso; omega))) | refine G2 ?_ | rw [ints_at (by omega)] | rw [ints_at0 (by omega)] | rw [ints_at' (by omega) (by omega)] | refine G1 ?_ | fail) <;> conv => whnf)
  · refine ⟨.inl rfl, ?_⟩
    conv => whnf
    refine ⟨[], ⟨rfl, trivial⟩, ?_, rfl, rfl⟩
    conv => whnf
    left
    conv => lhs; whnf
    exact congrArg AV.bool (decide_eq_true (by omega)).symm
  · refine ⟨.inl rfl, ?_⟩
    conv => whnf
    refine ⟨[], ⟨rfl, trivial⟩, ?_, rfl, rfl⟩
    conv => whnf
    left
    conv => lhs; whnf
    exact congrArg AV.bool (decide_eq_false (by omega)).symm
def RTrueCode (xs : List AV) (r : AV) (objs : List AObj) : Prop := ∃ code : List UInt8, xs = [.val (code.map byteRow)] ∧ r = .bool true ∧ objs = []
end Go.Proofs.Ythanhknkoikbfaa.Ct
namespace Go.Proofs.Ythanhknkoikbfaa.Ct
open Go Go.Proofs Go.Proofs.Ythanhknkoikbfaa.Av Go.Proofs.Ythanhknkoikbfaa.Pl
def c_laws_FnAlike : ICode := (.seq (.reg [Ol 2 .mv [cb false]]) (.seq (.seq (.reg [O1 11 .mv 0, O1 12 (.call 35) 11]) (.cond (.t 12) (.seq (.reg [Ol 2 .mv [cb true]]) .ret) .skip)) (.seq (.reg [O1 14 .mv 0, O1 15 (.call 36) 14, O1 13 .mv 15, O1 16 (.ext 0) 13, O1 17 (.ext 1) 13, O0 3 (.alc [(.int .i64 0), (.int .i64 0), (.int .i64 0), .snil]), O0 4 (.alc [.snil, .snil]), S2 (.st 4) 3 16, S2 (.st 2) 4 17]) (.seq (.reg [O1 18 (.ldn 4) 3, O1 19 (.ldn 2) 4, O2 20 (.call 39) 18 19, O1 5 .mv 20]) (.seq (.seq (.reg [O1 21 .mv 5, O1 22 (.ldn 4) 3, O1 23 (.ldn 2) 4, O2 24 (.call 40) 22 23, O2 25 (.beq true) 21 24]) (.cond (.t 25) (.seq (.reg [Ol 2 .mv [cb false]]) .ret) .skip)) (.seq (.seq (.reg [O1 26 (.ldn 4) 3, O1 27 (.call 38) 26, O1 28 .not 27, O1 29 .mv 28, Og 30 (.ldn 2) [.t 4] 29 false, Og 31 (.fadr 0) [.t 3] 29 false, Og 32 .ld1 [.t 31] 29 false, Og 33 (.call 47) [.t 30, .t 32] 29 false, Og 34 .not [.t 33] 29 false, Ol 35 .pick [.t 29, cb true, .t 34]]) (.cond (.t 35) (.seq (.reg [O1 36 .mv 5, O1 37 .not 36, O1 2 .mv 37]) .ret) .skip)) (.seq (.reg [O1 39 (.ldn 4) 3, O1 40 (.call 48) 39, O1 38 .mv 40, O1 41 (.ext 0) 38, O1 42 (.ext 1) 38, O0 6 (.alc [(.int .i64 0), (.int .i64 0), (.int .i64 0), .snil]), S2 (.st 4) 6 41, O1 7 .mv 42]) (.seq (.reg [O1 43 (.ldn 2) 4, O1 44 (.call 49) 43, O0 8 (.alc [.snil, .snil]), S2 (.st 2) 8 44]) (.seq (.reg [O1 46 (.ldn 2) 4, Ol 47 (.call 50) [.t 46, ci 2], O1 45 .mv 47, O1 48 (.ext 0) 45, O1 49 (.ext 1) 45, O0 9 (.alc [.snil, .snil]), S2 (.st 2) 9 48, O1 10 .mv 49]) (.seq (.drw [O1 50 (.ldn 4) 6, O1 51 (.ldn 2) 4, O2 52 (.call 39) 50 51, O1 53 .mv 5, O2 54 (.beq false) 52 53, O1 55 .mv 54, Og 56 (.ldn 4) [.t 3] 55 true, Og 57 (.ldn 2) [.t 8] 55 true, Og 58 (.call 39) [.t 56, .t 57] 55 true, Og 59 .mv [.t 5] 55 true, Og 60 (.beq false) [.t 58, .t 59] 55 true, Ol 61 .pick [.t 55, .t 60, cb false], O1 62 .mv 61, Og 63 .mv [.t 10] 62 true, Og 64 .not [.t 63] 62 true, Og 65 .mv [.t 64] 62 true, Og 66 (.ldn 4) [.t 3] 65 false, Og 67 (.ldn 2) [.t 9] 65 false, Og 68 (.call 39) [.t 66, .t 67] 65 false, Og 69 .mv [.t 5] 65 false, Og 70 (.beq false) [.t 68, .t 69] 65 false, Og 71 .pick [.t 65, cb true, .t 70] 62 true, Ol 72 .pick [.t 62, .t 71, cb false], O1 73 .mv 72, Og 74 (.fadr 0) [.t 3] 73 true, Og 75 .ld1 [.t 74] 73 true, Og 76 (.call 51) [.t 75] 73 true, Og 77 (.ldn 2) [.t 4] 73 true, Og 78 (.call 39) [.t 76, .t 77] 73 true, Ol 79 .pick [.t 73, .t 78, cb false], O1 2 .mv 79] (unB [0, 0, 3, 0, 15, 31, 63, 63, 255, 63, 1023, 2047, 4095, 8191, 16383, 32767, 65535, 65535, 262143, 65535, 1048575, 2097151, 4194303, 8388607, 16777215, 33554431, 67108863, 16777215, 268435455, 536870911, 1073741823] 0) true true) .ret))))))))))
theorem b_laws_FnAlike : Body Try.prog 8 80 c_laws_FnAlike [(.t 2)] := body_mk Try.func8 (by kernel_rfl) (by decide)
theorem wordOk_to8 {s l : List Int} {n : Int} (h : wordOk s l n = true) : wordOk s l 8 = true := by
  obtain ⟨h0, h1, h2, h4, h5⟩ := wordOk_un h
  exact wordOk_mk (by omega) h1 h2.1 h2.2 (fun x hx => by have := h4 x hx; omega) (fun x hx => by have := h5 x hx; omega)
set_option maxRecDepth 4000 in
set_option maxHeartbeats 16000000 in
theorem s_laws_FnAlike : PureSound Try.prog 8 RTrueCode := by
  have hR : Rely Try.prog (ctxOf [(35, .pure RBig), (36, .gen 0 GDrawAW), (39, .pure RTakesA), (40, .pure RTakesA), (38, .pure RAutoOk), (47, .pure RWordOk), (48, .pure RTrim), (49, .loose RCanonW), (50, .loose RPower2), (51, .pure RAllA)]) :=
    rely_cons b_laws_big.has s_laws_big (rely_cons b_spec_DrawAutoTakes.has s_spec_DrawAutoTakes (rely_cons b_impl_AutoTakes.has s_impl_AutoTakes (rely_cons b_spec_AutoTakes.has s_spec_AutoTakes (rely_cons b_spec_AutoOk.has s_spec_AutoOk (rely_cons b_spec_WordOk.has s_spec_WordOk (rely_cons b_impl_AutoTrim.has s_impl_AutoTrim (rely_cons b_impl_WordCanon.has s_impl_WordCanon (rely_cons b_impl_WordPower.has s_impl_WordPower (rely_cons b_impl_AutoAll.has s_impl_AutoAll (rely_nil mixed))))))))))
  refine pure_of_aw b_laws_FnAlike ?_
  rintro xs r objs ⟨code, rfl, rfl, rfl⟩ -
  refine ⟨by simp, vcS_sound hR [14] _ _ _ _ _ ?_⟩
  conv => whnf
  repeat' ((first | (refine And.intro (fun hb => ?_) (fun hb => ?_) <;> ((try simp only [SB, reduceCtorEq] at hb); try (exfalso; omega))) | refine G2 ?_ | rw [ints_at (by omega)] | rw [ints_at0 (by omega)] | rw [ints_at' (by omega) (by omega)] | refine G1 ?_ | refine ⟨_, _, RBig_mk, ?_⟩ | fail) <;> conv => whnf)
  · refine ⟨.inl rfl, ?_⟩
    conv => whnf
    refine ⟨[], ⟨rfl, trivial⟩, ?_, rfl, rfl⟩
    conv => whnf
    left
    conv => lhs; whnf
  have h2 : code.length ≤ 1048576 := by omega
  refine Rg.split hR 2 ?_
  conv => whnf
  repeat' ((first | (refine And.intro (fun hb => ?_) (fun hb => ?_) <;> ((try simp only [SB, reduceCtorEq] at hb); try (exfalso; omega))) | refine G2 ?_ | rw [ints_at (by omega)] | rw [ints_at0 (by omega)] | rw [ints_at' (by omega) (by omega)] | refine G1 ?_ | refine ⟨GDrawAW_mk h2 (fun a s l k1 k2 k3 => ?_)⟩ | fail) <;> conv => whnf)
  refine ⟨[], [(0, .val (code.map byteRow)), (2, .bool false), (15, .tup [.agg (autoRow a), wordV s l])], [], ⟨rfl, rfl, trivial, ?_⟩, ?_⟩
  · exact ⟨.inl rfl, .inl rfl, And.intro (And.intro (.inl rfl) (And.intro (.inl rfl) (And.intro (.inl rfl) (And.intro (.inr (snap_all rfl (length_edgeRows _))) trivial)))) (And.intro (And.intro (.inr (snap_all rfl (length_ints _))) (And.intro (.inr (snap_all rfl (length_ints _))) trivial)) trivial), trivial⟩
  by_cases ha : AutoOk a
  rotate_left
  · have ha' : decide (AutoOk a) = false := decide_eq_false ha
    have hN : false = true ↔ TakesA a s l := ⟨fun h => (by cases h), fun h => absurd h.1 ha⟩
    conv => whnf
    repeat' ((first | contradiction | (refine And.intro (fun hb => ?_) (fun hb => ?_) <;> first | contradiction | ((try simp only [SB, reduceCtorEq] at hb); try (exfalso; first | contradiction | omega))) | refine G2 ?_ | rw [ints_at (by omega)] | rw [ints_at0 (by omega)] | rw [ints_at' (by omega) (by omega)] | refine G1 ?_ | refine ⟨_, _, RTakesA_b rfl hN, ?_⟩ | refine ⟨_, _, RAutoOk_b rfl ha', ?_⟩ | fail) <;> conv => whnf)
    refine ⟨.inl rfl, ?_⟩
    conv => whnf
    refine ⟨[], ⟨rfl, trivial⟩, ?_, rfl, rfl⟩
    conv => whnf
    left
    conv => lhs; whnf
  have ha' : decide (AutoOk a) = true := decide_eq_true ha
  cases hw : wordOk s l a.letters with
  | false =>
    have hN : false = true ↔ TakesA a s l := ⟨fun h => (by cases h), fun h => by have := (takesA_iff.1 h).2.1; rw [hw] at this; cases this⟩
    conv => whnf
    repeat' ((first | contradiction | (refine And.intro (fun hb => ?_) (fun hb => ?_) <;> first | contradiction | ((try simp only [SB, reduceCtorEq] at hb); try (exfalso; first | contradiction | omega))) | refine G2 ?_ | rw [ints_at (by omega)] | rw [ints_at0 (by omega)] | rw [ints_at' (by omega) (by omega)] | refine G1 ?_ | refine ⟨_, _, RTakesA_b rfl hN, ?_⟩ | refine ⟨_, _, RAutoOk_b rfl ha', ?_⟩ | refine ⟨_, _, RWordOk_is rfl hw, ?_⟩ | fail) <;> conv => whnf)
    refine ⟨.inl rfl, ?_⟩
    conv => whnf
    refine ⟨[], ⟨rfl, trivial⟩, ?_, rfl, rfl⟩
    conv => whnf
    left
    conv => lhs; whnf
  | true =>
    have hw8 := wordOk_to8 hw
    have hPt := trim_takes ha (s := s) (l := l)
    have hCt := canon_takes (a := a) hw
    have hAt := all_takes hw
    have hL8 := (wordOk_un hw).1
    have hAk : true = true ↔ TakesA (allD a.letters) s l := ⟨fun _ => hAt, fun _ => rfl⟩
    have htr : ∀ xs, xs = [.agg (autoRow a)] → RTrim xs (keptR a (trimX a)) (keptO a (trimX a)) := fun xs h => RTrim_eq h ha
    unfold keptR keptO at htr
    have hpw : ∀ xs, xs = [wordV s l, .int .i64 2] → RPower2 xs (powerR s (l ++ l)) [] := fun xs h => RPower2_eq h hw8
    unfold powerR at hpw
    generalize keepD a (trimX a) = T at *
    generalize bitL (trimX a) a.states.toNat = L at *
    have hcn : ∀ xs, xs = [wordV s l] → RCanonW xs (wordV (canonW s l).1 (canonW s l).2) [] := fun xs h => RCanonW_eq h hw8
    generalize (canonW s l).1 = s1 at *
    generalize (canonW s l).2 = l1 at *
    obtain ⟨b, hA⟩ : ∃ b : Bool, (b = true ↔ TakesA a s l) := by
      by_cases hT : TakesA a s l
      · exact ⟨true, fun _ => hT, fun _ => rfl⟩
      · exact ⟨false, fun h => (by cases h), fun h => absurd h hT⟩
    have hT := hA.trans hPt.symm
    have hC := hA.trans hCt.symm
    cases h8 : wordOk s (l ++ l) 8 with
    | true =>
      have hP := hA.trans (twice_takes (a := a) hw h8).symm
      rw [if_pos h8] at hpw
      generalize l ++ l = ll at *
      cases b
      all_goals
        conv => whnf
        repeat' ((first | contradiction | (refine And.intro (fun hb => ?_) (fun hb => ?_) <;> first | contradiction | ((try simp only [SB, reduceCtorEq] at hb); try (exfalso; first | contradiction | omega))) | refine G2 ?_ | rw [ints_at (by omega)] | rw [ints_at0 (by omega)] | rw [ints_at' (by omega) (by omega)] | refine G1 ?_ | refine ⟨_, _, RTakesA_b (a := a) (s := s) (l := l) rfl hA, ?_⟩ | refine ⟨_, _, RAutoOk_b rfl ha', ?_⟩ | refine ⟨_, _, RWordOk_is rfl hw, ?_⟩ | refine ⟨_, _, htr _ rfl, ?_⟩ | refine ⟨_, _, hcn _ rfl, ?_⟩ | refine ⟨_, _, hpw _ rfl, ?_⟩ | refine ⟨_, _, RTakesA_b (args_cons (snap_auto (a := T) (id := 2) rfl) rfl) hT, ?_⟩ | refine ⟨_, _, RTakesA_b (a := a) (s := s1) (l := l1) rfl hC, ?_⟩ | refine ⟨_, _, RTakesA_b (a := a) (s := s) (l := ll) rfl hP, ?_⟩ | refine ⟨_, _, RAllA_eq rfl hL8, ?_⟩ | refine ⟨_, _, RTakesA_b (args_cons (snap_auto2 (a := allD a.letters) (id := 0) rfl) rfl) hAk, ?_⟩ | fail) <;> conv => whnf)
        refine ⟨.inl rfl, ?_⟩
        conv => whnf
        refine ⟨[], ⟨rfl, trivial⟩, ?_, rfl, rfl⟩
        conv => whnf
        left
        conv => lhs; whnf
    | false =>
      rw [if_neg (by rw [h8]; decide)] at hpw
      cases b
      all_goals
        conv => whnf
        repeat' ((first | contradiction | (refine And.intro (fun hb => ?_) (fun hb => ?_) <;> first | contradiction | ((try simp only [SB, reduceCtorEq] at hb); try (exfalso; first | contradiction | omega))) | refine G2 ?_ | rw [ints_at (by omega)] | rw [ints_at0 (by omega)] | rw [ints_at' (by omega) (by omega)] | refine G1 ?_ | refine ⟨_, _, RTakesA_b (a := a) (s := s) (l := l) rfl hA, ?_⟩ | refine ⟨_, _, RAutoOk_b rfl ha', ?_⟩ | refine ⟨_, _, RWordOk_is rfl hw, ?_⟩ | refine ⟨_, _, htr _ rfl, ?_⟩ | refine ⟨_, _, hcn _ rfl, ?_⟩ | refine ⟨_, _, hpw _ rfl, ?_⟩ | refine ⟨_, _, RTakesA_b (args_cons (snap_auto (a := T) (id := 2) rfl) rfl) hT, ?_⟩ | refine ⟨_, _, RTakesA_b (a := a) (s := s1) (l := l1) rfl hC, ?_⟩ | refine ⟨_, _, RAllA_eq rfl hL8, ?_⟩ | refine ⟨_, _, RTakesA_b (args_cons (snap_auto2 (a := allD a.letters) (id := 0) rfl) rfl) hAk, ?_⟩ | fail) <;> conv => whnf)
        refine ⟨.inl rfl, ?_⟩
        conv => whnf
        refine ⟨[], ⟨rfl, trivial⟩, ?_, rfl, rfl⟩
        conv => whnf
        left
        conv => lhs; whnf
end Go.Proofs.Ythanhknkoikbfaa.Ct
