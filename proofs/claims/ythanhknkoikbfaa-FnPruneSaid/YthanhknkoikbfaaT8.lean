/- Part 8 of the proof of FnPruneSaid: CtLawPrune. Conditions: none. -/
import Derived.Test.YthanhknkoikbfaaT7
set_option linter.unusedSimpArgs false
set_option linter.unusedVariables false
namespace Go.Proofs.Ythanhknkoikbfaa.Ct
open Go Go.Proofs Go.Proofs.Ythanhknkoikbfaa.Av Go.Proofs.Ythanhknkoikbfaa.Pl
def c_laws_FnPrune : ICode := (.seq (.reg [Ol 2 .mv [cb false]]) (.seq (.seq (.reg [O1 11 .mv 0, O1 12 (.call 35) 11]) (.cond (.t 12) (.seq (.reg [Ol 2 .mv [cb true]]) .ret) .skip)) (.seq (.reg [O1 14 .mv 0, O1 15 (.call 36) 14, O1 13 .mv 15, O1 16 (.ext 0) 13, O1 17 (.ext 1) 13, O0 3 (.alc [(.int .i64 0), (.int .i64 0), (.int .i64 0), .snil]), O0 4 (.alc [.snil, .snil]), S2 (.st 4) 3 16, S2 (.st 2) 4 17]) (.seq (.reg [O1 19 (.ldn 4) 3, O1 20 (.call 37) 19, O1 18 .mv 20, O1 21 (.ext 0) 18, O1 22 (.ext 1) 18, O0 5 (.alc [(.int .i64 0), (.int .i64 0), (.int .i64 0), .snil]), S2 (.st 4) 5 21, O1 6 .mv 22]) (.seq (.seq (.reg [O1 23 (.ldn 4) 3, O1 24 (.call 38) 23, O1 25 .not 24]) (.cond (.t 25) (.seq (.reg [O1 26 (.fadr 0) 5, O1 27 .ld1 26, Ol 28 (.bin .eql) [.t 27, ci 0], O1 29 .mv 28, Og 30 .mv [.t 6] 29 true, Og 31 .len [.t 30] 29 true, Og 32 (.bin .eql) [.t 31, ci 0] 29 true, Ol 33 .pick [.t 29, .t 32, cb false], O1 2 .mv 33]) .ret) .skip)) (.seq (.seq (.drw [O1 34 .mv 6, O1 35 .len 34, O1 36 (.fadr 1) 5, O1 37 .ld1 36, O2 38 (.bin .neq) 35 37, O1 39 .mv 38, Og 40 (.ldn 4) [.t 5] 39 false, Og 41 (.ldn 2) [.t 4] 39 false, Og 42 (.call 39) [.t 40, .t 41] 39 false, Og 43 (.ldn 4) [.t 3] 39 false, Og 44 (.ldn 2) [.t 4] 39 false, Og 45 (.call 40) [.t 43, .t 44] 39 false, Og 46 (.beq true) [.t 42, .t 45] 39 false, Ol 47 .pick [.t 39, cb true, .t 46], O1 48 .mv 47, Og 49 (.ldn 4) [.t 5] 48 false, Og 50 (.call 42) [.t 49] 48 false, Og 51 (.call 41) [.t 50] 48 false, Og 52 (.fadr 1) [.t 5] 48 false, Og 53 .ld1 [.t 52] 48 false, Og 54 (.bin .neq) [.t 51, .t 53] 48 false, Ol 55 .pick [.t 48, cb true, .t 54]] (unB [0, 1, 0, 4, 15, 31, 63, 63, 255, 63, 63, 2047, 4095, 8191, 16383, 32767, 65535, 131071, 32767, 294911, 1048575, 2097151] 0) true true) (.cond (.t 55) (.seq (.reg [Ol 2 .mv [cb false]]) .ret) .skip)) (.seq (.seq (.drw [O1 56 (.ldn 4) 5, O1 57 (.fadr 2) 5, O1 58 .ld1 57, O2 59 (.call 43) 56 58, O1 60 (.call 41) 59, O1 61 (.fadr 1) 5, O1 62 .ld1 61, O2 63 (.bin .neq) 60 62] (unB [0, 0, 2, 7, 15, 0, 32, 127] 0) true true) (.cond (.t 63) (.seq (.reg [Ol 2 .mv [cb false]]) .ret) .skip)) (.seq (.reg [O1 64 (.ldn 4) 3, O1 65 (.call 44) 64, O1 7 .mv 65]) (.seq (.seq (.reg [Ol 8 .mv [ci 0]]) (.block 0 (.loop (.seq (.seq (.reg [O1 66 .mv 8, O1 67 (.fadr 1) 3, O1 68 .ld1 67, O2 69 (.bin .lss) 66 68]) (.cond (.t 69) .skip (.exit 0))) (.seq (.block 1 (.seq (.seq (.drw [O1 72 .mv 7, O1 73 .len 72, O1 74 (.fadr 1) 3, O1 75 .ld1 74, O2 76 (.bin .neq) 73 75, O1 77 .mv 76, Og 78 .mv [.t 7] 77 false, Og 79 .mv [.t 8] 77 false, Og 80 (.iadr 1) [.t 78, .t 79] 77 false, Og 81 .ld1 [.t 80] 77 false, Og 82 .mv [.t 8] 77 false, Og 83 (.bin .gtr) [.t 81, .t 82] 77 false, Ol 84 .pick [.t 77, cb true, .t 83], O1 85 .mv 84, Og 86 .mv [.t 7] 85 false, Og 87 .mv [.t 8] 85 false, Og 88 (.iadr 1) [.t 86, .t 87] 85 false, Og 89 .ld1 [.t 88] 85 false, Og 90 (.bin .lss) [.t 89, ci 0] 85 false, Ol 91 .pick [.t 85, cb true, .t 90], O1 92 .mv 91, Og 93 .mv [.t 7] 92 false, Og 94 .mv [.t 7] 92 false, Og 95 .mv [.t 8] 92 false, Og 96 (.iadr 1) [.t 94, .t 95] 92 false, Og 97 .ld1 [.t 96] 92 false, Og 98 (.iadr 1) [.t 93, .t 97] 92 false, Og 99 .ld1 [.t 98] 92 false, Og 100 .mv [.t 7] 92 false, Og 101 .mv [.t 8] 92 false, Og 102 (.iadr 1) [.t 100, .t 101] 92 false, Og 103 .ld1 [.t 102] 92 false, Og 104 (.bin .neq) [.t 99, .t 103] 92 false, Ol 105 .pick [.t 92, cb true, .t 104]] (unB [0, 1, 0, 4, 15, 31, 63, 63, 255, 511, 63, 2047, 4095, 8191, 16383, 16383, 65535, 131071, 262143, 524287, 1048575, 2097151, 2097151, 2097151, 14680063, 31457279, 67108863, 134217727, 2097151, 2097151, 807403519, 1881145343, 4294967295, 8589934591] 0) true true) (.cond (.t 105) (.seq (.reg [Ol 2 .mv [cb false]]) .ret) .skip)) (.seq (.reg [O1 107 .mv 8, O1 108 (.bsl 1) 107, O1 109 (.call 45) 108, O1 106 .mv 109, O1 110 (.ext 0) 106, O1 111 (.ext 1) 106, O1 9 .mv 110, O1 10 .mv 111]) (.seq (.drw [O1 112 (.ldn 4) 3, O1 113 .mv 9, O2 114 (.call 43) 112 113, O1 115 .mv 7, O1 116 .mv 8, O2 117 (.iadr 1) 115 116, O1 118 .ld1 117, O2 119 (.call 46) 114 118, O1 120 .not 119] (unB [0, 0, 3, 0, 0, 24, 56, 127, 255] 0) true true) (.cond (.t 120) (.seq (.reg [Ol 2 .mv [cb false]]) .ret) .skip))))) (.reg [O1 70 .mv 8, Ol 71 (.bin .add) [.t 70, ci 1], O1 8 .mv 71])))))) (.seq (.reg [Ol 2 .mv [cb true]]) .ret))))))))))
theorem b_laws_FnPrune : Body Try.prog 7 121 c_laws_FnPrune [(.t 2)] := body_mk Try.func7 (by kernel_rfl) (by decide)
set_option maxRecDepth 4000 in
set_option maxHeartbeats 16000000 in
theorem s_laws_FnPrune : PureSound Try.prog 7 RTrueCode := by
  have hR : Rely Try.prog (ctxOf [(35, .pure RBig), (36, .gen 0 GDrawAW), (37, .pure RPrune), (38, .pure RAutoOk), (39, .pure RTakesA), (40, .pure RTakesA), (42, .pure RLiveA), (41, .pure RCnt), (43, .pure RReachA), (44, .pure RScc), (45, .pure RSetOf1), (46, .pure RHasI)]) :=
    rely_cons b_laws_big.has s_laws_big (rely_cons b_spec_DrawAutoTakes.has s_spec_DrawAutoTakes (rely_cons b_impl_AutoPrune.has s_impl_AutoPrune (rely_cons b_spec_AutoOk.has s_spec_AutoOk (rely_cons b_impl_AutoTakes.has s_impl_AutoTakes (rely_cons b_spec_AutoTakes.has s_spec_AutoTakes (rely_cons b_impl_AutoLive.has s_impl_AutoLive (rely_cons b_impl_SetCount.has s_impl_SetCount (rely_cons b_impl_AutoReach.has s_impl_AutoReach (rely_cons b_impl_AutoScc.has s_impl_AutoScc (rely_cons b_spec_SetOf.has s_spec_SetOf (rely_cons b_impl_SetHas.has s_impl_SetHas (rely_nil mixed))))))))))))
  refine pure_of_aw b_laws_FnPrune ?_
  rintro xs r objs ⟨code, rfl, rfl, rfl⟩ -
  refine ⟨by simp, vcS_sound hR [14] _ _ _ _ _ ?_⟩
  conv => whnf
  repeat' ((first | (refine And.intro (fun hb => ?_) (fun hb => ?_) <;> ((try simp only [SB, reduceCtorEq] at hb); try (exfalso; omega))) | refine G2 ?_ | rw [ints_at (by omega)] | rw [ints_at0 (by omega)] | rw [ints_at' (by omega) (by omega)] | refine G1 ?_ | refine ⟨_, _, RBig_mk, ?_⟩ | fail) <;> conv => whnf)
  · refine ⟨.inl rfl, ?_⟩
    conv => whnf
    refine ⟨[], ⟨rfl, trivial⟩, ?_, rfl, rfl⟩
    conv => whnf
    left
    conv => lhs; whnf
  have h2 : code.length ≤ 1048576 := by omega
  refine Rg.split hR 2 ?_
  conv => whnf
  repeat' ((first | (refine And.intro (fun hb => ?_) (fun hb => ?_) <;> ((try simp only [SB, reduceCtorEq] at hb); try (exfalso; omega))) | refine G2 ?_ | rw [ints_at (by omega)] | rw [ints_at0 (by omega)] | rw [ints_at' (by omega) (by omega)] | refine G1 ?_ | refine ⟨GDrawAW_mk h2 (fun a s l k1 k2 k3 => ?_)⟩ | fail) <;> conv => whnf)
  refine ⟨[some 0, some 1, some 2], [(0, .val (code.map byteRow)), (2, .bool false), (15, takenR 0 a s l)], [some (.arr 4 (edgeRows a.edges)), some (.arr 1 (ints s)), some (.arr 1 (ints l))], ⟨rfl, rfl, And.intro (And.intro rfl rfl) (And.intro (And.intro rfl rfl) (And.intro (And.intro rfl rfl) trivial)), ?_⟩, ?_⟩
  · exact ⟨.inl rfl, .inl rfl, And.intro (And.intro (.inl rfl) (And.intro (.inl rfl) (And.intro (.inl rfl) (And.intro rfl trivial)))) (And.intro (And.intro rfl (And.intro rfl trivial)) trivial), trivial⟩
  by_cases ha : AutoOk a
  rotate_left
  · have ha' : decide (AutoOk a) = false := decide_eq_false ha
    have hpr : ∀ xs, xs = [.agg (autoRow a)] → RPrune xs (.tup [.agg (autoRef 0 zeroAuto), .ref 1 0 0]) [.arr 4 (edgeRows []), .arr 1 (ints [])] := fun xs h => by
      have := RPrune_eq h
      unfold pruneR pruneO at this
      rwa [if_neg ha, if_neg ha] at this
    conv => whnf
    repeat' ((first | contradiction | (refine And.intro (fun hb => ?_) (fun hb => ?_) <;> first | contradiction | ((try simp only [SB, reduceCtorEq] at hb); try (exfalso; first | contradiction | omega))) | refine G2 ?_ | rw [ints_at (by omega)] | rw [ints_at0 (by omega)] | rw [ints_at' (by omega) (by omega)] | refine G1 ?_ | refine ⟨_, _, hpr _ (args_cons (snap_auto rfl) rfl), ?_⟩ | refine ⟨_, _, RAutoOk_b (args_cons (snap_auto rfl) rfl) ha', ?_⟩ | fail) <;> conv => whnf)
    refine ⟨.inl rfl, ?_⟩
    conv => whnf
    refine ⟨[], ⟨rfl, trivial⟩, ?_, rfl, rfl⟩
    conv => whnf
    left
    conv => lhs; whnf
  have ha' : decide (AutoOk a) = true := decide_eq_true ha
  have hs := ha.1.2.1
  have hpr : ∀ xs, xs = [.agg (autoRow a)] → RPrune xs (keptR a (pruneX a)) (keptO a (pruneX a)) := fun xs h => by
    have := RPrune_eq h
    unfold pruneR pruneO at this
    rwa [if_pos ha, if_pos ha] at this
  unfold keptR keptO at hpr
  have hPk := keep_ok (X := pruneX a) ha
  have hPt := prune_takes ha (s := s) (l := l)
  have hPl := prune_liveN ha
  have hPr := prune_reachN ha
  have hm31 : (bitL (pruneX a) a.states.toNat).length ≤ a.states.toNat := bitL_len
  have hPs : (keepD a (pruneX a)).states = (((bitL (pruneX a) a.states.toNat).length : Nat) : Int) := rfl
  have hLl := length_ints (natsI (bitL (pruneX a) a.states.toNat))
  rw [length_natsI] at hLl
  generalize keepD a (pruneX a) = P at *
  generalize bitL (pruneX a) a.states.toNat = L at *
  obtain ⟨m, hm⟩ : ∃ m, m = L.length := ⟨_, rfl⟩
  rw [← hm] at hPl hPr hm31 hPs hLl hpr
  have hPst := hPk.1.2.2
  have hPe : P.start = ((P.start.toNat : Nat) : Int) := by omega
  have hP31 := lt31 hPk (start_lt2 hPk)
  have hlv : ∀ xs, xs = [.agg (autoRow P)] → RLiveA xs (.int .i64 ((liveN P : Nat) : Int)) [] := fun xs h => by
    have := RLiveA_eq h
    rwa [if_pos hPk] at this
  have hsl : (sccL a).length = a.states.toNat := sccF_len _
  have hsi := (length_ints (sccL a)).trans hsl
  obtain ⟨b, hA, hA2⟩ : ∃ b : Bool, (b = true ↔ TakesA a s l) ∧ (b = true ↔ TakesA P s l) := by
    by_cases hT : TakesA a s l
    · exact ⟨true, ⟨fun _ => hT, fun _ => rfl⟩, ⟨fun _ => hPt.2 hT, fun _ => rfl⟩⟩
    · exact ⟨false, ⟨fun h => (by cases h), fun h => absurd h hT⟩, ⟨fun h => (by cases h), fun h => absurd (hPt.1 h) hT⟩⟩
  cases b
  all_goals
    conv => whnf
    repeat' ((first | contradiction | (refine And.intro (fun hb => ?_) (fun hb => ?_) <;> first | contradiction | ((try simp only [SB, reduceCtorEq] at hb); try (exfalso; first | contradiction | omega))) | refine G2 ?_ | rw [ints_at (by omega)] | rw [ints_at0 (by omega)] | rw [ints_at' (by omega) (by omega)] | refine G1 ?_ | refine ⟨_, _, hpr _ (args_cons (snap_auto rfl) rfl), ?_⟩ | refine ⟨_, _, RAutoOk_b (args_cons (snap_auto rfl) rfl) ha', ?_⟩ | refine ⟨_, _, RTakesA_b (args_cons (snap_auto (a := P) (id := 5) rfl) (args_cons (snap_woT rfl rfl rfl rfl) rfl)) hA2, ?_⟩ | refine ⟨_, _, RTakesA_b (args_cons (snap_auto (a := a) (id := 0) rfl) (args_cons (snap_woT rfl rfl rfl rfl) rfl)) hA, ?_⟩ | refine ⟨_, _, hlv _ (args_cons (snap_auto (a := P) (id := 5) rfl) rfl), ?_⟩ | refine ⟨_, _, RReachA_eq (args_cons (snap_auto (a := P) (id := 5) rfl) (args_cons (congrArg (AV.int .i64) hPe) rfl)) hPk hP31, ?_⟩ | refine ⟨_, _, RCnt_is (n := m) (by omega) hPl, ?_⟩ | refine ⟨_, _, RCnt_is (n := m) (by omega) hPr, ?_⟩ | refine ⟨_, _, RScc_eq (args_cons (snap_auto (a := a) (id := 0) rfl) rfl) ha, ?_⟩ | fail) <;> conv => whnf)
    refine Lp.intro (α := Nat) (fun i => i ≤ a.states.toNat) (fun i => a.states.toNat - i) (fun i => [(3, .ptr 1 0 0), (7, .ref 2 0 a.states.toNat), (8, .int .i64 i)]) (fun _ => [some (.arr 4 (edgeRows a.edges)), some (.box (autoRef 0 a)), some (.arr 1 (ints (sccL a)))]) ?_ ?_
    · refine ⟨0, Nat.zero_le _, [some 0, some 3, some 8], rfl, rfl, And.intro ⟨rfl, rfl⟩ (And.intro ⟨.inl rfl, .inl rfl, .inl rfl, rfl, trivial⟩ (And.intro ⟨rfl, rfl⟩ trivial)), ?_⟩
      exact ⟨rfl, rfl, .inl rfl, trivial⟩
    intro i hi
    have hes : a.states = ((a.states.toNat : Nat) : Int) := by omega
    refine vcS_sound hR [14] _ _ _ _ _ ?_
    by_cases hlt : i < a.states.toNat
    · have hle := sccN_le a i
      have hat1 : (ints (sccL a))[0 + ((i : Nat) : Int).toNat]? = some [.int .i64 ((sccN a i : Nat) : Int)] := by
        rw [ints_at0 (by omega)]
        unfold sccL
        rw [sccF_at hlt hlt]
      have hat2 : (ints (sccL a))[0 + ((sccN a i : Nat) : Int).toNat]? = some [.int .i64 ((sccN a i : Nat) : Int)] := by
        rw [ints_at0 (by omega)]
        unfold sccL
        rw [sccF_at (by omega) (by omega), sccN_two]
      have hh := scc_has ha hlt
      have hp2 : 2 ^ i < 2 ^ 31 := Nat.pow_lt_pow_right (by decide) (by omega)
      generalize sccN a i = v at *
      conv => whnf
      repeat' ((first | contradiction | (refine And.intro (fun hb => ?_) (fun hb => ?_) <;> first | contradiction | ((try simp only [SB, reduceCtorEq] at hb); try (exfalso; first | contradiction | omega))) | rw [hat1] | rw [hat2] | refine G2 ?_ | rw [ints_at (by omega)] | rw [ints_at0 (by omega)] | rw [ints_at' (by omega) (by omega)] | refine G1 ?_ | refine ⟨_, _, RSetOf1_eq (s := i) (by omega) (args_cons (snap_all rfl rfl) rfl), ?_⟩ | refine ⟨_, _, RReachA_eq (args_cons (snap_auto (a := a) (id := 0) rfl) (args_cons rfl rfl)) ha hp2, ?_⟩ | refine ⟨_, _, RHasI_is (args_cons rfl (args_cons rfl rfl)) autoR_lt hh, ?_⟩ | fail) <;> conv => whnf)
      refine ⟨i + 1, hlt, by omega, [some 0, some 1, some 2], rfl, rfl, And.intro ⟨rfl, rfl⟩ (And.intro ⟨.inl rfl, .inl rfl, .inl rfl, rfl, trivial⟩ (And.intro ⟨rfl, rfl⟩ trivial)), ?_⟩
      exact ⟨rfl, rfl, .inl rfl, trivial⟩
    · conv => whnf
      repeat' ((first | contradiction | (refine And.intro (fun hb => ?_) (fun hb => ?_) <;> first | contradiction | ((try simp only [SB, reduceCtorEq] at hb); try (exfalso; first | contradiction | omega))) | refine G2 ?_ | rw [ints_at (by omega)] | rw [ints_at0 (by omega)] | rw [ints_at' (by omega) (by omega)] | refine G1 ?_ | fail) <;> conv => whnf)
      refine ⟨.inl rfl, ?_⟩
      conv => whnf
      refine ⟨[], ⟨rfl, trivial⟩, ?_, rfl, rfl⟩
      conv => whnf
      left
      conv => lhs; whnf
end Go.Proofs.Ythanhknkoikbfaa.Ct
