/- Part 8 of the proof of FnRunSaid: CtEdge to CtLawRun. Conditions: none. -/
import Derived.Test.YthanhknkoikbfaaT7
import Derived.Test.YthanhknkoikbfaaT5
import Derived.Test.YthanhknkoikbfaaT4
set_option linter.unusedSimpArgs false
set_option linter.unusedVariables false
namespace Go.Proofs.Ythanhknkoikbfaa.Ct
open Go Go.Proofs Go.Proofs.Ythanhknkoikbfaa.Av Go.Proofs.Ythanhknkoikbfaa.Pl
def c_impl_isMember : ICode := (.seq (.reg [Ol 2 .mv [cb false]]) (.seq (.reg [O1 3 .mv 0, Ol 4 (.call 130) [.t 3, ci 0, ci 30], O1 2 .mv 4]) .ret))
theorem b_impl_isMember : Body Try.prog 124 5 c_impl_isMember [(.t 2)] := body_mk Try.func124 (by kernel_rfl) (by decide)
def c_impl_SetHas : ICode := (.seq (.reg [Ol 4 .mv [cb false]]) (.seq (.reg [O1 5 .mv 0, O1 6 (.call 119) 5, O1 7 .mv 6, Og 8 .mv [.t 1] 7 true, Og 9 (.call 124) [.t 8] 7 true, Ol 10 .pick [.t 7, .t 9, cb false], O1 11 .mv 10, Og 12 .mv [.t 0] 11 true, Og 13 .mv [.t 1] 11 true, Og 14 (.call 125) [.t 12, .t 13] 11 true, Ol 15 .pick [.t 11, .t 14, cb false], O1 4 .mv 15]) .ret))
theorem b_impl_SetHas : Body Try.prog 46 16 c_impl_SetHas [(.t 4)] := body_mk Try.func46 (by kernel_rfl) (by decide)
def c_impl_AutoEdge : ICode := (.seq (.reg [O1 4 (.box 4) 0, Ol 8 .mv [cb false], Ol 9 .mv [cb false]]) (.seq (.seq (.reg [O1 12 (.ldn 4) 4, O1 13 (.call 70) 12, O1 14 .not 13]) (.cond (.t 14) (.seq (.reg [Ol 8 .mv [cb false], Ol 9 .mv [cb false]]) .ret) .skip)) (.seq (.seq (.reg [O1 15 (.fadr 3) 4, O1 16 .ld1 15, O1 17 .len 16, Ol 18 .mv [ci 0]]) (.block 0 (.loop (.seq (.reg [O2 19 (.bin .lss) 18 17]) (.seq (.cond (.t 19) .skip (.exit 0)) (.seq (.block 1 (.seq (.reg [O2 20 (.iadr 4) 16 18, O1 21 (.ldn 4) 20, O0 11 (.alc [(.int .i64 0), (.int .i64 0), (.int .i64 0), (.bool false)]), S2 (.st 4) 11 21]) (.seq (.reg [O1 22 (.fadr 0) 11, O1 23 .ld1 22, O1 24 .mv 1, O2 25 (.bin .eql) 23 24, O1 26 .mv 25, Og 27 (.fadr 1) [.t 11] 26 true, Og 28 .ld1 [.t 27] 26 true, Og 29 .mv [.t 2] 26 true, Og 30 (.bin .eql) [.t 28, .t 29] 26 true, Ol 31 .pick [.t 26, .t 30, cb false], O1 32 .mv 31, Og 33 (.fadr 2) [.t 11] 32 true, Og 34 .ld1 [.t 33] 32 true, Og 35 .mv [.t 3] 32 true, Og 36 (.bin .eql) [.t 34, .t 35] 32 true, Ol 37 .pick [.t 32, .t 36, cb false]]) (.cond (.t 37) (.seq (.reg [O1 38 (.fadr 3) 11, O1 39 .ld1 38, O1 8 .mv 39, Ol 9 .mv [cb true]]) .ret) .skip)))) (.reg [Ol 40 (.bin .add) [.t 18, ci 1], O1 18 .mv 40]))))))) (.seq (.reg [Ol 8 .mv [cb false], Ol 9 .mv [cb false]]) .ret))))
theorem b_impl_AutoEdge : Body Try.prog 134 41 c_impl_AutoEdge [(.t 8), (.t 9)] := body_mk Try.func134 (by kernel_rfl) (by decide)
def c_impl_Word_placeOf : ICode := (.seq (.reg [Ol 4 .mv [ci 0]]) (.seq (.seq (.reg [O1 5 .mv 1, O1 6 .mv 0, O1 7 .nck 6, O1 8 (.fadr 0) 7, O1 9 .ld1 8, O1 10 .len 9, O2 11 (.bin .lss) 5 10]) (.cond (.t 11) (.seq (.reg [O1 12 .mv 1, O1 4 .mv 12]) .ret) .skip)) (.seq (.drw [O1 13 .mv 0, O1 14 .nck 13, O1 15 (.fadr 0) 14, O1 16 .ld1 15, O1 17 .len 16, O1 18 .mv 1, O1 19 .mv 0, O1 20 .nck 19, O1 21 (.fadr 0) 20, O1 22 .ld1 21, O1 23 .len 22, O2 24 (.bin .sub) 18 23, O1 25 .mv 0, O1 26 .nck 25, O1 27 (.fadr 1) 26, O1 28 .ld1 27, O1 29 .len 28, O2 30 (.bin .rem) 24 29, O2 31 (.bin .add) 17 30, O1 4 .mv 31] (unB [0, 1, 3, 7, 15, 0, 0, 64, 192, 448, 960, 2016, 0, 4096, 12288, 28672, 61440, 131040, 262143, 524287] 0) true true) .ret)))
theorem b_impl_Word_placeOf : Body Try.prog 135 32 c_impl_Word_placeOf [(.t 4)] := body_mk Try.func135 (by kernel_rfl) (by decide)
def RMem (xs : List AV) (r : AV) (objs : List AObj) : Prop := ∃ i, xs = [.int .i64 i] ∧ r = .bool (decide (0 ≤ i ∧ i ≤ 30)) ∧ objs = []
theorem RMem_mk {i : Int} : RMem [.int .i64 i] (.bool (decide (0 ≤ i ∧ i ≤ 30))) [] := ⟨i, rfl, rfl, rfl⟩
theorem s_impl_isMember : PureSound Try.prog 124 RMem := by
  have hR : Rely Try.prog (ctxOf [(130, .pure RIn)]) := rely_cons b_impl_inRange.has s_impl_inRange (rely_nil mixed)
  refine pure_of_aw b_impl_isMember ?_
  rintro xs r objs ⟨i, rfl, rfl, rfl⟩ -
  refine ⟨by simp, vc2_sound hR _ _ _ _ _ ?_⟩
  conv => whnf
  repeat' ((first | contradiction | (refine And.intro (fun hb => ?_) (fun hb => ?_) <;> first | contradiction | ((try simp only [SB, reduceCtorEq] at hb); try (exfalso; first | contradiction | omega))) | refine G2 ?_ | rw [ints_at (by omega)] | rw [ints_at0 (by omega)] | rw [ints_at' (by omega) (by omega)] | refine G1 ?_ | refine ⟨_, _, RIn_mk, ?_⟩ | fail) <;> conv => whnf)
  · refine ⟨.inl rfl, ?_⟩
    conv => whnf
    refine ⟨[], ⟨rfl, trivial⟩, ?_, rfl, rfl⟩
    conv => whnf
    left
    conv => lhs; whnf
    exact congrArg AV.bool (decide_eq_true (by assumption)).symm
  · refine ⟨.inl rfl, ?_⟩
    conv => whnf
    refine ⟨[], ⟨rfl, trivial⟩, ?_, rfl, rfl⟩
    conv => whnf
    left
    conv => lhs; whnf
    exact congrArg AV.bool (decide_eq_false (by assumption)).symm
def hasI (X : Nat) (i : Int) : Bool := decide (0 ≤ i ∧ i ≤ 30) && X.testBit i.toNat
def RHasI (xs : List AV) (r : AV) (objs : List AObj) : Prop := ∃ (X : Nat) (i : Int), xs = [.int .i64 ((X : Nat) : Int), .int .i64 i] ∧ X < 2 ^ 31 ∧ r = .bool (hasI X i) ∧ objs = []
theorem RHasI_is {xs : List AV} {X : Nat} {i : Int} {b : Bool} (hx : xs = [.int .i64 ((X : Nat) : Int), .int .i64 i]) (h : X < 2 ^ 31) (hb : hasI X i = b) : RHasI xs (.bool b) [] := ⟨X, i, hx, h, by rw [hb], rfl⟩
theorem s_impl_SetHas : PureSound Try.prog 46 RHasI := by
  have hR : Rely Try.prog (ctxOf [(119, .pure RSetOk), (124, .pure RMem), (125, .pure RHas)]) := rely_cons b_impl_SetOk.has s_impl_SetOk (rely_cons b_impl_isMember.has s_impl_isMember (rely_cons b_impl_has.has s_impl_has (rely_nil mixed)))
  refine pure_of_aw b_impl_SetHas ?_
  rintro xs r objs ⟨X, i, rfl, hX, rfl, rfl⟩ -
  refine ⟨by simp, vc2_sound hR _ _ _ _ _ ?_⟩
  unfold hasI
  by_cases hi : 0 ≤ i ∧ i ≤ 30
  · rw [decide_eq_true hi, Bool.true_and]
    conv => whnf
    repeat' ((first | contradiction | (refine And.intro (fun hb => ?_) (fun hb => ?_) <;> first | contradiction | ((try simp only [SB, reduceCtorEq] at hb); try (exfalso; first | contradiction | omega))) | refine G2 ?_ | rw [ints_at (by omega)] | rw [ints_at0 (by omega)] | rw [ints_at' (by omega) (by omega)] | refine G1 ?_ | refine ⟨_, _, RSetOk_mk, ?_⟩ | refine ⟨_, _, RMem_mk, ?_⟩ | refine ⟨_, _, RHas_mk hX hi.1 hi.2, ?_⟩ | fail) <;> conv => whnf)
    · refine ⟨.inl rfl, ?_⟩
      conv => whnf
      refine ⟨[], ⟨rfl, trivial⟩, ?_, rfl, rfl⟩
      conv => whnf
      left
      conv => lhs; whnf
      exact congrArg AV.bool (Eq.symm (by assumption))
    · refine ⟨.inl rfl, ?_⟩
      conv => whnf
      refine ⟨[], ⟨rfl, trivial⟩, ?_, rfl, rfl⟩
      conv => whnf
      left
      conv => lhs; whnf
      exact congrArg AV.bool (Eq.symm (by assumption))
  · rw [decide_eq_false hi, Bool.false_and]
    conv => whnf
    repeat' ((first | contradiction | (refine And.intro (fun hb => ?_) (fun hb => ?_) <;> first | contradiction | ((try simp only [SB, reduceCtorEq] at hb); try (exfalso; first | contradiction | omega))) | refine G2 ?_ | rw [ints_at (by omega)] | rw [ints_at0 (by omega)] | rw [ints_at' (by omega) (by omega)] | refine G1 ?_ | refine ⟨_, _, RSetOk_mk, ?_⟩ | refine ⟨_, _, RMem_mk, ?_⟩ | fail) <;> conv => whnf)
    refine ⟨.inl rfl, ?_⟩
    conv => whnf
    refine ⟨[], ⟨rfl, trivial⟩, ?_, rfl, rfl⟩
    conv => whnf
    left
    conv => lhs; whnf
theorem h_spec_l1Has : PureSound Try.prog 73 RHasI := by
  have hR : Rely Try.prog (ctxOf [(114, .pure RIn), (123, .pure RBit)]) := rely_cons b_spec_l1In.has s_spec_l1In (rely_cons b_spec_l1Bit.has s_spec_l1Bit (rely_nil mixed))
  refine pure_of_aw b_spec_l1Has ?_
  rintro xs r objs ⟨X, i, rfl, hX, rfl, rfl⟩ -
  refine ⟨by simp, vc2_sound hR _ _ _ _ _ ?_⟩
  unfold hasI
  by_cases hi : 0 ≤ i ∧ i ≤ 30
  · rw [decide_eq_true hi, Bool.true_and]
    conv => whnf
    repeat' ((first | contradiction | (refine And.intro (fun hb => ?_) (fun hb => ?_) <;> first | contradiction | ((try simp only [SB, reduceCtorEq] at hb); try (exfalso; first | contradiction | omega))) | refine G2 ?_ | rw [ints_at (by omega)] | rw [ints_at0 (by omega)] | rw [ints_at' (by omega) (by omega)] | refine G1 ?_ | refine ⟨_, _, RIn_mk, ?_⟩ | refine ⟨_, _, RBit_mk hi.1 hi.2, ?_⟩ | fail) <;> conv => whnf)
    · refine ⟨.inl rfl, ?_⟩
      conv => whnf
      refine ⟨[], ⟨rfl, trivial⟩, ?_, rfl, rfl⟩
      conv => whnf
      left
      conv => lhs; whnf
      refine congrArg AV.bool ?_
      exact (and_bit_ne.1 (by rw [← and_bit hX hi.1 hi.2]; assumption)).symm
    · refine ⟨.inl rfl, ?_⟩
      conv => whnf
      refine ⟨[], ⟨rfl, trivial⟩, ?_, rfl, rfl⟩
      conv => whnf
      left
      conv => lhs; whnf
      refine congrArg AV.bool ?_
      symm
      cases hb2 : X.testBit i.toNat with
      | false => rfl
      | true => exact absurd (by rw [← and_bit hX hi.1 hi.2]; assumption) (and_bit_ne.2 hb2)
  · rw [decide_eq_false hi, Bool.false_and]
    conv => whnf
    repeat' ((first | contradiction | (refine And.intro (fun hb => ?_) (fun hb => ?_) <;> first | contradiction | ((try simp only [SB, reduceCtorEq] at hb); try (exfalso; first | contradiction | omega))) | refine G2 ?_ | rw [ints_at (by omega)] | rw [ints_at0 (by omega)] | rw [ints_at' (by omega) (by omega)] | refine G1 ?_ | refine ⟨_, _, RIn_mk, ?_⟩ | fail) <;> conv => whnf)
    refine ⟨.inl rfl, ?_⟩
    conv => whnf
    refine ⟨[], ⟨rfl, trivial⟩, ?_, rfl, rfl⟩
    conv => whnf
    left
    conv => lhs; whnf
def KeyE (e : EdgeD) (f x t : Int) : Prop := e.src = f ∧ e.letter = x ∧ e.dst = t
def REdgeT (xs : List AV) (r : AV) (objs : List AObj) : Prop := ∃ (a : AutoD) (f x t : Int) (g e : Bool), xs = [.agg (autoRow a), .int .i64 f, .int .i64 x, .int .i64 t] ∧ AutoOk a ∧ (e = true ↔ ∃ d ∈ a.edges, KeyE d f x t) ∧ (g = true ↔ ∃ d ∈ a.edges, KeyE d f x t ∧ d.mark = true) ∧ r = .tup [.bool g, .bool e] ∧ objs = []
theorem REdgeT_is {xs : List AV} {a : AutoD} {f x t : Int} {g e : Bool} (hx : xs = [.agg (autoRow a), .int .i64 f, .int .i64 x, .int .i64 t]) (h : AutoOk a) (he : e = true ↔ ∃ d ∈ a.edges, KeyE d f x t) (hg : g = true ↔ ∃ d ∈ a.edges, KeyE d f x t ∧ d.mark = true) : REdgeT xs (.tup [.bool g, .bool e]) [] := ⟨a, f, x, t, g, e, hx, h, he, hg, rfl, rfl⟩
set_option maxHeartbeats 2000000 in
theorem s_impl_AutoEdge : PureSound Try.prog 134 REdgeT := by
  have hR : Rely Try.prog (ctxOf [(70, .pure RAutoOk)]) := rely_cons b_impl_AutoOk.has s_impl_AutoOk (rely_nil mixed)
  refine pure_of_aw b_impl_AutoEdge ?_
  rintro xs r objs ⟨a, f, x, t, g, e, rfl, ha, he, hg, rfl, rfl⟩ -
  have hle := length_edgeRows a.edges
  have hl := ha.2.1
  refine ⟨by simp, vc2_sound hR _ _ _ _ _ ?_⟩
  conv => whnf
  repeat' ((first | contradiction | (refine And.intro (fun hb => ?_) (fun hb => ?_) <;> first | contradiction | ((try simp only [SB, reduceCtorEq] at hb); try (exfalso; first | contradiction | omega))) | refine G2 ?_ | rw [ints_at (by omega)] | rw [ints_at0 (by omega)] | rw [ints_at' (by omega) (by omega)] | refine G1 ?_ | refine ⟨_, _, RAutoOk_mk, ?_⟩ | fail) <;> conv => whnf)
  refine Lp.intro (α := Nat) (fun i => i ≤ a.edges.length ∧ ∀ j, j < i → ¬ KeyE (a.edges.getD j default) f x t) (fun i => a.edges.length - i) (fun i => [(1, .int .i64 f), (2, .int .i64 x), (3, .int .i64 t), (16, .val (edgeRows a.edges)), (17, .int .i64 a.edges.length), (18, .int .i64 i)]) (fun _ => []) ?_ ?_
  · refine ⟨0, ⟨Nat.zero_le _, fun j hj => by omega⟩, [], rfl, rfl, trivial, ?_⟩
    exact ⟨.inl rfl, .inl rfl, .inl rfl, .inl rfl, .inl (congrArg (fun x : Nat => AV.int .i64 x) hle), .inl rfl, trivial⟩
  rintro i ⟨hi, hno⟩
  refine vc2_sound hR _ _ _ _ _ ?_
  by_cases hlt : i < a.edges.length
  · have hat := edge_at hlt
    have hmem : a.edges.getD i default ∈ a.edges := getD_mem' hlt
    have hnext : ¬ KeyE (a.edges.getD i default) f x t → ∀ j, j < i + 1 → ¬ KeyE (a.edges.getD j default) f x t := fun h j hj => by
      by_cases hji : j = i
      · subst hji; exact h
      · exact hno j (by omega)
    conv => whnf
    repeat' ((first | contradiction | (refine And.intro (fun hb => ?_) (fun hb => ?_) <;> first | contradiction | ((try simp only [SB, reduceCtorEq] at hb); try (exfalso; first | contradiction | omega))) | rw [hat] | refine G2 ?_ | rw [ints_at (by omega)] | rw [ints_at0 (by omega)] | rw [ints_at' (by omega) (by omega)] | refine G1 ?_ | fail) <;> conv => whnf)
    · have hk : KeyE (a.edges.getD i default) f x t := ⟨by assumption, by assumption, by assumption⟩
      obtain rfl : e = true := he.2 ⟨_, hmem, hk⟩
      have hgm : g = (a.edges.getD i default).mark := by
        rw [Bool.eq_iff_iff, hg]
        constructor
        · rintro ⟨d, hd, k1, k2⟩
          rwa [edge_same ha hmem hd (by rw [hk.1, k1.1]) (by rw [hk.2.1, k1.2.1]) (by rw [hk.2.2, k1.2.2])]
        · exact fun h => ⟨_, hmem, hk, h⟩
      subst hgm
      refine ⟨.inl rfl, ?_⟩
      conv => whnf
      refine ⟨[], ⟨rfl, trivial⟩, ?_, rfl, rfl⟩
      repeat' (first | exact trivial | refine And.intro ?_ ?_)
      all_goals
        conv => whnf
        left
        conv => lhs; whnf
      exact congrArg AV.bool (Eq.symm (by assumption))
    · have hk : KeyE (a.edges.getD i default) f x t := ⟨by assumption, by assumption, by assumption⟩
      obtain rfl : e = true := he.2 ⟨_, hmem, hk⟩
      have hgm : g = (a.edges.getD i default).mark := by
        rw [Bool.eq_iff_iff, hg]
        constructor
        · rintro ⟨d, hd, k1, k2⟩
          rwa [edge_same ha hmem hd (by rw [hk.1, k1.1]) (by rw [hk.2.1, k1.2.1]) (by rw [hk.2.2, k1.2.2])]
        · exact fun h => ⟨_, hmem, hk, h⟩
      subst hgm
      refine ⟨.inl rfl, ?_⟩
      conv => whnf
      refine ⟨[], ⟨rfl, trivial⟩, ?_, rfl, rfl⟩
      repeat' (first | exact trivial | refine And.intro ?_ ?_)
      all_goals
        conv => whnf
        left
        conv => lhs; whnf
      exact congrArg AV.bool (Eq.symm (by assumption))
    all_goals
      refine ⟨i + 1, ⟨hlt, hnext (fun h => ?_)⟩, by omega, [], rfl, rfl, trivial, ?_⟩
      · first
        | exact absurd h.1 (by assumption)
        | exact absurd h.2.1 (by assumption)
        | exact absurd h.2.2 (by assumption)
      · exact ⟨.inl rfl, .inl rfl, .inl rfl, .inl rfl, .inl rfl, .inl rfl, trivial⟩
  · have hall : ∀ d ∈ a.edges, ¬ KeyE d f x t := fun d hd => by
      obtain ⟨j, hj, rfl⟩ := mem_at hd
      exact hno j (by omega)
    obtain rfl : e = false := Bool.eq_false_iff.2 fun h => by
      obtain ⟨d, hd, k⟩ := he.1 h
      exact hall d hd k
    obtain rfl : g = false := Bool.eq_false_iff.2 fun h => by
      obtain ⟨d, hd, k, _⟩ := hg.1 h
      exact hall d hd k
    conv => whnf
    repeat' ((first | contradiction | (refine And.intro (fun hb => ?_) (fun hb => ?_) <;> first | contradiction | ((try simp only [SB, reduceCtorEq] at hb); try (exfalso; first | contradiction | omega))) | refine G2 ?_ | rw [ints_at (by omega)] | rw [ints_at0 (by omega)] | rw [ints_at' (by omega) (by omega)] | refine G1 ?_ | fail) <;> conv => whnf)
    refine ⟨.inl rfl, ?_⟩
    conv => whnf
    refine ⟨[], ⟨rfl, trivial⟩, ?_, rfl, rfl⟩
    repeat' (first | exact trivial | refine And.intro ?_ ?_)
    all_goals
      conv => whnf
      left
      conv => lhs; whnf
def RPlaceOf (xs : List AV) (r : AV) (objs : List AObj) : Prop := ∃ (s l : List Int) (i : Nat), xs = [wordP s l, .int .i64 ((i : Nat) : Int)] ∧ s.length ≤ 1000 ∧ l.length ≤ 1000 ∧ 0 < l.length ∧ i ≤ 100000 ∧ r = .int .i64 ((placeN s l i : Nat) : Int) ∧ objs = []
theorem RPlaceOf_eq {xs : List AV} {s l : List Int} {i : Nat} (hx : xs = [wordP s l, .int .i64 ((i : Nat) : Int)]) (h1 : s.length ≤ 1000) (h2 : l.length ≤ 1000) (h3 : 0 < l.length) (h4 : i ≤ 100000) : RPlaceOf xs (.int .i64 ((placeN s l i : Nat) : Int)) [] := ⟨s, l, i, hx, h1, h2, h3, h4, rfl, rfl⟩
theorem s_impl_placeOf : PureSound Try.prog 135 RPlaceOf := by
  have hR : Rely Try.prog (ctxOf []) := rely_nil mixed
  refine pure_of_aw b_impl_Word_placeOf ?_
  rintro xs r objs ⟨s, l, i, rfl, h1, h2, h3, h4, rfl, rfl⟩ -
  have hs := length_ints s
  have hl := length_ints l
  refine ⟨by simp, vc2_sound hR _ _ _ _ _ ?_⟩
  rw [placeN_eq h3]
  by_cases hp : i < s.length
  · rw [if_pos hp]
    conv => whnf
    repeat' ((first | contradiction | (refine And.intro (fun hb => ?_) (fun hb => ?_) <;> first | contradiction | ((try simp only [SB, reduceCtorEq] at hb); try (exfalso; first | contradiction | omega))) | refine G2 ?_ | rw [ints_at (by omega)] | rw [ints_at0 (by omega)] | rw [ints_at' (by omega) (by omega)] | refine G1 ?_ | fail) <;> conv => whnf)
    refine ⟨.inl rfl, ?_⟩
    conv => whnf
    refine ⟨[], ⟨rfl, trivial⟩, ?_, rfl, rfl⟩
    conv => whnf
    left
    conv => lhs; whnf
  · rw [if_neg hp]
    have hm : Int.tmod (((i : Nat) : Int) - ((ints s).length : Nat)) ((ints l).length : Nat) = (((i - s.length) % l.length : Nat) : Int) := by
      rw [hs, hl, show ((i : Nat) : Int) - ((s.length : Nat) : Int) = ((i - s.length : Nat) : Int) by omega]
      exact (Int.ofNat_tmod _ _).symm
    have hb := Nat.mod_lt (i - s.length) h3
    generalize (i - s.length) % l.length = m at *
    conv => whnf
    repeat' ((first | contradiction | (refine And.intro (fun hb => ?_) (fun hb => ?_) <;> first | contradiction | ((try simp only [SB, reduceCtorEq] at hb); try (exfalso; first | contradiction | omega))) | rw [hm] | refine G2 ?_ | rw [ints_at (by omega)] | rw [ints_at0 (by omega)] | rw [ints_at' (by omega) (by omega)] | refine G1 ?_ | fail) <;> conv => whnf)
    refine ⟨.inl rfl, ?_⟩
    conv => whnf
    refine ⟨[], ⟨rfl, trivial⟩, ?_, rfl, rfl⟩
    conv => whnf
    left
    conv => lhs; whnf
    exact congrArg (AV.int .i64) (by omega)
def RL3AtN (xs : List AV) (r : AV) (objs : List AObj) : Prop := ∃ (s l : List Int) (i : Nat), xs = [wordV s l, .int .i64 ((i : Nat) : Int)] ∧ s.length ≤ 1000 ∧ l.length ≤ 1000 ∧ 0 < l.length ∧ i ≤ 100000 ∧ r = .int .i64 (seqN s l i) ∧ objs = []
theorem RL3AtN_eq {xs : List AV} {s l : List Int} {i : Nat} (hx : xs = [wordV s l, .int .i64 ((i : Nat) : Int)]) (h1 : s.length ≤ 1000) (h2 : l.length ≤ 1000) (h3 : 0 < l.length) (h4 : i ≤ 100000) : RL3AtN xs (.int .i64 (seqN s l i)) [] := ⟨s, l, i, hx, h1, h2, h3, h4, rfl, rfl⟩
theorem n_spec_l3At : PureSound Try.prog 93 RL3AtN := by
  have hR : Rely Try.prog (ctxOf []) := rely_nil mixed
  refine pure_of_aw b_spec_l3At ?_
  rintro xs r objs ⟨s, l, i, rfl, h1, h2, h3, h4, rfl, rfl⟩ -
  have hs := length_ints s
  have hl := length_ints l
  refine ⟨by simp, vc2_sound hR _ _ _ _ _ ?_⟩
  rw [seqN_eq h3]
  by_cases hp : i < s.length
  · rw [if_pos hp]
    conv => whnf
    repeat' ((first | contradiction | (refine And.intro (fun hb => ?_) (fun hb => ?_) <;> first | contradiction | ((try simp only [SB, reduceCtorEq] at hb); try (exfalso; first | contradiction | omega))) | refine G2 ?_ | rw [ints_at (by omega)] | rw [ints_at0 (by omega)] | rw [ints_at' (by omega) (by omega)] | refine G1 ?_ | fail) <;> conv => whnf)
    refine ⟨.inl rfl, ?_⟩
    conv => whnf
    refine ⟨[], ⟨rfl, trivial⟩, ?_, rfl, rfl⟩
    conv => whnf
    left
    conv => lhs; whnf
  · rw [if_neg hp]
    have hm : Int.tmod (((i : Nat) : Int) - ((ints s).length : Nat)) ((ints l).length : Nat) = (((i - s.length) % l.length : Nat) : Int) := by
      rw [hs, hl, show ((i : Nat) : Int) - ((s.length : Nat) : Int) = ((i - s.length : Nat) : Int) by omega]
      exact (Int.ofNat_tmod _ _).symm
    have hb := Nat.mod_lt (i - s.length) h3
    generalize (i - s.length) % l.length = m at *
    conv => whnf
    repeat' ((first | contradiction | (refine And.intro (fun hb => ?_) (fun hb => ?_) <;> first | contradiction | ((try simp only [SB, reduceCtorEq] at hb); try (exfalso; first | contradiction | omega))) | refine G2 ?_ | rw [ints_at (by omega)] | rw [ints_at0 (by omega)] | rw [ints_at' (by omega) (by omega)] | refine G1 ?_ | rw [hm] | fail) <;> conv => whnf)
    refine ⟨.inl rfl, ?_⟩
    conv => whnf
    refine ⟨[], ⟨rfl, trivial⟩, ?_, rfl, rfl⟩
    conv => whnf
    left
    conv => lhs; whnf
    rfl
def c_impl_RunOk : ICode := (.seq (.reg [O1 3 (.box 4) 0, O1 4 (.box 2) 1, O1 5 (.box 2) 2, Ol 6 .mv [cb false]]) (.seq (.reg [O1 12 (.fadr 0) 5, O1 13 .ld1 12, O1 14 .len 13, Ol 15 (.bin .sub) [.t 14, ci 1], O1 7 .mv 15]) (.seq (.seq (.reg [O1 16 (.ldn 4) 3, O1 17 (.call 70) 16, O1 18 .not 17, O1 19 .mv 18, Og 20 (.ldn 2) [.t 4] 19 false, Og 21 (.fadr 0) [.t 3] 19 false, Og 22 .ld1 [.t 21] 19 false, Og 23 (.call 85) [.t 20, .t 22] 19 false, Og 24 .not [.t 23] 19 false, Ol 25 .pick [.t 19, cb true, .t 24], O1 26 .mv 25, Og 27 .mv [.t 7] 26 false, Og 28 (.call 130) [.t 27, ci 1, ci 5999] 26 false, Og 29 .not [.t 28] 26 false, Ol 30 .pick [.t 26, cb true, .t 29], O1 31 .mv 30, Og 32 (.fadr 1) [.t 5] 31 false, Og 33 .ld1 [.t 32] 31 false, Og 34 (.fadr 0) [.t 4] 31 false, Og 35 .ld1 [.t 34] 31 false, Og 36 .len [.t 35] 31 false, Og 37 .mv [.t 7] 31 false, Og 38 (.bin .sub) [.t 37, ci 1] 31 false, Og 39 (.call 130) [.t 33, .t 36, .t 38] 31 false, Og 40 .not [.t 39] 31 false, Ol 41 .pick [.t 31, cb true, .t 40]]) (.cond (.t 41) (.seq (.reg [Ol 6 .mv [cb false]]) .ret) .skip)) (.seq (.seq (.drw [O1 42 (.fadr 2) 3, O1 43 .ld1 42, O1 44 (.fadr 0) 5, O1 45 .ld1 44, Ol 46 (.iadr 1) [.t 45, ci 0], O1 47 .ld1 46, O2 48 (.call 46) 43 47, O1 49 .not 48, O1 50 .mv 49, Og 51 .mv [.t 7] 50 false, Og 52 (.fadr 1) [.t 5] 50 false, Og 53 .ld1 [.t 52] 50 false, Og 54 (.bin .sub) [.t 51, .t 53] 50 false, Og 55 (.fadr 1) [.t 4] 50 false, Og 56 .ld1 [.t 55] 50 false, Og 57 .len [.t 56] 50 false, Og 58 (.bin .rem) [.t 54, .t 57] 50 false, Og 59 (.bin .neq) [.t 58, ci 0] 50 false, Ol 60 .pick [.t 50, cb true, .t 59], O1 61 .mv 60, Og 62 (.fadr 0) [.t 5] 61 false, Og 63 .ld1 [.t 62] 61 false, Og 64 (.fadr 1) [.t 5] 61 false, Og 65 .ld1 [.t 64] 61 false, Og 66 (.iadr 1) [.t 63, .t 65] 61 false, Og 67 .ld1 [.t 66] 61 false, Og 68 (.fadr 0) [.t 5] 61 false, Og 69 .ld1 [.t 68] 61 false, Og 70 .mv [.t 7] 61 false, Og 71 (.iadr 1) [.t 69, .t 70] 61 false, Og 72 .ld1 [.t 71] 61 false, Og 73 (.bin .neq) [.t 67, .t 72] 61 false, Ol 74 .pick [.t 61, cb true, .t 73]] (unB [0, 1, 0, 4, 12, 28, 63, 127, 255, 511, 511, 1535, 4095, 511, 8703, 25087, 65535, 131071, 262143, 524287, 1048575, 2097151, 1048575, 5242879, 16777215, 33554431, 1048575, 68157439, 1048575, 470810623, 1007681535, 2147483647, 4294967295] 0) true true) (.cond (.t 74) (.seq (.reg [Ol 6 .mv [cb false]]) .ret) .skip)) (.seq (.reg [Ol 8 .mv [cb false]]) (.seq (.seq (.reg [O1 75 .mv 7, Ol 76 .mv [ci 0]]) (.block 0 (.loop (.seq (.reg [O2 77 (.bin .lss) 76 75]) (.seq (.cond (.t 77) .skip (.exit 0)) (.seq (.block 1 (.seq (.reg [O1 78 .mv 76, O1 9 .mv 78]) (.seq (.drw [O1 80 (.ldn 4) 3, O1 81 (.fadr 0) 5, O1 82 .ld1 81, O1 83 .mv 9, O2 84 (.iadr 1) 82 83, O1 85 .ld1 84, O1 86 .mv 9, O2 87 (.call 135) 4 86, O2 88 (.call 96) 4 87, O1 89 (.fadr 0) 5, O1 90 .ld1 89, O1 91 .mv 9, Ol 92 (.bin .add) [.t 91, ci 1], O2 93 (.iadr 1) 90 92, O1 94 .ld1 93, Ol 95 (.call 134) [.t 80, .t 85, .t 88, .t 94], O1 79 .mv 95, O1 96 (.ext 0) 79, O1 97 (.ext 1) 79, O1 10 .mv 96, O1 11 .mv 97] (unB [0, 0, 2, 0, 14, 30, 0, 64, 192, 0, 512, 0, 2048, 7680, 15872, 32767, 65535, 131071, 131071, 262143, 1048575] 0) true true) (.seq (.seq (.reg [O1 98 .mv 11, O1 99 .not 98]) (.cond (.t 99) (.seq (.reg [Ol 6 .mv [cb false]]) .ret) .skip)) (.reg [O1 100 .mv 8, O1 101 .mv 100, Og 102 .mv [.t 10] 101 false, Og 103 .mv [.t 102] 101 false, Og 104 .mv [.t 9] 103 true, Og 105 (.fadr 1) [.t 5] 103 true, Og 106 .ld1 [.t 105] 103 true, Og 107 (.bin .geq) [.t 104, .t 106] 103 true, Og 108 .pick [.t 103, .t 107, cb false] 101 false, Ol 109 .pick [.t 101, cb true, .t 108], O1 8 .mv 109]))))) (.reg [Ol 110 (.bin .add) [.t 76, ci 1], O1 76 .mv 110]))))))) (.seq (.reg [O1 111 .mv 8, O1 6 .mv 111]) .ret)))))))
theorem b_impl_RunOk : Body Try.prog 53 112 c_impl_RunOk [(.t 6)] := body_mk Try.func53 (by kernel_rfl) (by decide)
def RunV (a : AutoD) (s l st : List Int) (b : Int) : Prop := st.length ≤ 6000 ∧ ∃ bn : Nat, b = (bn : Int) ∧ RunP a s l st bn
def runA (st : List Int) (b : Int) : AV := .agg [.val (ints st), .int .i64 b]
def RRunOk (xs : List AV) (r : AV) (objs : List AObj) : Prop := ∃ (a : AutoD) (s l st : List Int) (b : Int) (v : Bool), xs = [.agg (autoRow a), wordV s l, runA st b] ∧ st.length ≤ 1000000 ∧ (v = true ↔ RunV a s l st b) ∧ r = .bool v ∧ objs = []
theorem RRunOk_is {xs : List AV} {a : AutoD} {s l st : List Int} {b : Int} {v : Bool} (hx : xs = [.agg (autoRow a), wordV s l, runA st b]) (h : st.length ≤ 1000000) (hv : v = true ↔ RunV a s l st b) : RRunOk xs (.bool v) [] := ⟨a, s, l, st, b, v, hx, h, hv, rfl, rfl⟩
theorem runP_start {a : AutoD} {s l st : List Int} {bn : Nat} (h : RunP a s l st bn) : hasI a.start.toNat (st.getD 0 0) = true := by
  obtain ⟨ha, _, _, h1, h2, _, _, h3, _⟩ := h
  obtain ⟨e, he, k, _⟩ := h3 0 (by omega)
  have hin := mem_edge_in ha he
  unfold EdgeIn at hin
  have hst := ha.1.2.1
  unfold hasI
  rw [h2, Bool.and_true, decide_eq_true_eq]
  omega
def PreR (a : AutoD) (s l st : List Int) (bn : Nat) : Prop := AutoOk a ∧ wordOk s l a.letters = true ∧ (2 ≤ st.length ∧ st.length ≤ 6000) ∧ (s.length ≤ bn ∧ bn + 2 ≤ st.length) ∧ hasI a.start.toNat (st.getD 0 0) = true ∧ (st.length - 1 - bn) % l.length = 0 ∧ st.getD bn 0 = st.getD (st.length - 1) 0
theorem runV_pre {a : AutoD} {s l st : List Int} {b : Int} (h : RunV a s l st b) : ∃ bn : Nat, b = (bn : Int) ∧ PreR a s l st bn := by
  obtain ⟨h6, bn, rfl, hp⟩ := h
  have h0 := runP_start hp
  obtain ⟨ha, hw, h1, h2, _, h3, h4, _⟩ := hp
  exact ⟨bn, rfl, ha, hw, ⟨by omega, h6⟩, ⟨h1, by omega⟩, h0, h3, h4⟩
theorem runV_of {a : AutoD} {s l st : List Int} {bn : Nat} (h : PreR a s l st bn) (h1 : ∀ j, j + 1 < st.length → ∃ e, StepR a s l st j e) (h2 : ∃ j, bn ≤ j ∧ j + 1 < st.length ∧ ∃ e, StepR a s l st j e ∧ e.mark = true) : RunV a s l st (bn : Int) := by
  obtain ⟨ha, hw, g1, g2, g3, g4, g5⟩ := h
  unfold hasI at g3
  rw [Bool.and_eq_true] at g3
  exact ⟨g1.2, bn, rfl, ha, hw, g2.1, by omega, g3.2, g4, g5, h1, h2⟩
set_option maxHeartbeats 16000000 in
theorem s_impl_RunOk : PureSound Try.prog 53 RRunOk := by
  have hR : Rely Try.prog (ctxOf [(70, .pure RAutoOk), (85, .pure RWordOk), (130, .pure RIn), (46, .pure RHasI), (135, .pure RPlaceOf), (96, .pure RLetter), (134, .pure REdgeT)]) :=
    rely_cons b_impl_AutoOk.has s_impl_AutoOk (rely_cons b_impl_WordOk.has s_impl_WordOk (rely_cons b_impl_inRange.has s_impl_inRange (rely_cons b_impl_SetHas.has s_impl_SetHas (rely_cons b_impl_Word_placeOf.has s_impl_placeOf (rely_cons b_impl_Word_letter.has s_impl_letter (rely_cons b_impl_AutoEdge.has s_impl_AutoEdge (rely_nil mixed)))))))
  refine pure_of_aw b_impl_RunOk ?_
  rintro xs r objs ⟨a, s, l, st, b, v, rfl, hstl, hv, rfl, rfl⟩ -
  have hsi := length_ints st
  have hli := length_ints l
  have hssi := length_ints s
  have hfalse : (∀ bn : Nat, b = (bn : Int) → ¬ PreR a s l st bn) → v = false := fun h => Bool.eq_false_iff.2 fun hh => by
    obtain ⟨bn, e, hp⟩ := runV_pre (hv.1 hh)
    exact h bn e hp
  refine ⟨by simp, vc2_sound hR _ _ _ _ _ ?_⟩
  unfold runA
  by_cases ha : AutoOk a
  rotate_left
  · have ha' : decide (AutoOk a) = false := decide_eq_false ha
    obtain rfl := hfalse (fun bn _ h => ha h.1)
    conv => whnf
    repeat' ((first | contradiction | (refine And.intro (fun hb => ?_) (fun hb => ?_) <;> first | contradiction | ((try simp only [SB, reduceCtorEq] at hb); try (exfalso; first | contradiction | omega))) | refine G2 ?_ | rw [ints_at (by omega)] | rw [ints_at0 (by omega)] | rw [ints_at' (by omega) (by omega)] | refine G1 ?_ | refine ⟨_, _, RAutoOk_b rfl ha', ?_⟩ | fail) <;> conv => whnf)
    refine ⟨.inl rfl, ?_⟩
    conv => whnf
    refine ⟨[], ⟨rfl, trivial⟩, ?_, rfl, rfl⟩
    conv => whnf
    left
    conv => lhs; whnf
  have ha' : decide (AutoOk a) = true := decide_eq_true ha
  cases hw : wordOk s l a.letters
  · obtain rfl := hfalse (fun bn _ h => by have := h.2.1; rw [hw] at this; cases this)
    conv => whnf
    repeat' ((first | contradiction | (refine And.intro (fun hb => ?_) (fun hb => ?_) <;> first | contradiction | ((try simp only [SB, reduceCtorEq] at hb); try (exfalso; first | contradiction | omega))) | refine G2 ?_ | rw [ints_at (by omega)] | rw [ints_at0 (by omega)] | rw [ints_at' (by omega) (by omega)] | refine G1 ?_ | refine ⟨_, _, RAutoOk_b rfl ha', ?_⟩ | refine ⟨_, _, RWordOk_b (s := s) (l := l) rfl hw, ?_⟩ | fail) <;> conv => whnf)
    refine ⟨.inl rfl, ?_⟩
    conv => whnf
    refine ⟨[], ⟨rfl, trivial⟩, ?_, rfl, rfl⟩
    conv => whnf
    left
    conv => lhs; whnf
  obtain ⟨hlo, hs, hl, hl0⟩ := let_ok hw
  by_cases h3 : 2 ≤ st.length ∧ st.length ≤ 6000
  rotate_left
  · obtain rfl := hfalse (fun bn _ h => h3 h.2.2.1)
    conv => whnf
    repeat' ((first | contradiction | (refine And.intro (fun hb => ?_) (fun hb => ?_) <;> first | contradiction | ((try simp only [SB, reduceCtorEq] at hb); try (exfalso; first | contradiction | omega))) | refine G2 ?_ | rw [ints_at (by omega)] | rw [ints_at0 (by omega)] | rw [ints_at' (by omega) (by omega)] | refine G1 ?_ | refine ⟨_, _, RAutoOk_b rfl ha', ?_⟩ | refine ⟨_, _, RWordOk_b (s := s) (l := l) rfl hw, ?_⟩ | refine ⟨_, _, RIn_mk, ?_⟩ | fail) <;> conv => whnf)
    refine ⟨.inl rfl, ?_⟩
    conv => whnf
    refine ⟨[], ⟨rfl, trivial⟩, ?_, rfl, rfl⟩
    conv => whnf
    left
    conv => lhs; whnf
  by_cases h4 : (s.length : Int) ≤ b ∧ b + 2 ≤ (st.length : Int)
  rotate_left
  · obtain rfl := hfalse (fun bn e h => h4 (by have := h.2.2.2.1; omega))
    conv => whnf
    repeat' ((first | contradiction | (refine And.intro (fun hb => ?_) (fun hb => ?_) <;> first | contradiction | ((try simp only [SB, reduceCtorEq] at hb); try (exfalso; first | contradiction | omega))) | refine G2 ?_ | rw [ints_at (by omega)] | rw [ints_at0 (by omega)] | rw [ints_at' (by omega) (by omega)] | refine G1 ?_ | refine ⟨_, _, RAutoOk_b rfl ha', ?_⟩ | refine ⟨_, _, RWordOk_b (s := s) (l := l) rfl hw, ?_⟩ | refine ⟨_, _, RIn_mk, ?_⟩ | fail) <;> conv => whnf)
    refine ⟨.inl rfl, ?_⟩
    conv => whnf
    refine ⟨[], ⟨rfl, trivial⟩, ?_, rfl, rfl⟩
    conv => whnf
    left
    conv => lhs; whnf
  obtain ⟨bn, rfl⟩ : ∃ bn : Nat, b = (bn : Int) := ⟨b.toNat, by omega⟩
  have hst31 := lt31 ha (start_lt2 ha)
  have hsr := ha.1.2.2
  have hes0 : a.start = ((a.start.toNat : Nat) : Int) := by omega
  have hpre : ∀ n : Nat, ((bn : Nat) : Int) = ((n : Nat) : Int) → n = bn := fun n h => by omega
  have hlast : (ints st)[((((ints st).length : Nat) : Int) - 1).toNat]? = some [.int .i64 (st.getD (st.length - 1) 0)] := by
    rw [hsi, show (((st.length : Nat) : Int) - 1) = ((st.length - 1 : Nat) : Int) by omega]
    exact ints_at (by omega)
  have hmod : Int.tmod ((((ints st).length : Nat) : Int) - 1 - ((bn : Nat) : Int)) (((ints l).length : Nat) : Int) = (((st.length - 1 - bn) % l.length : Nat) : Int) := by
    rw [hsi, hli, show ((st.length : Nat) : Int) - 1 - ((bn : Nat) : Int) = ((st.length - 1 - bn : Nat) : Int) by omega]
    exact (Int.ofNat_tmod _ _).symm
  cases h5 : hasI a.start.toNat (st.getD 0 0)
  · obtain rfl := hfalse (fun n _ h => by have := h.2.2.2.2.1; rw [h5] at this; cases this)
    conv => whnf
    repeat' ((first | contradiction | (refine And.intro (fun hb => ?_) (fun hb => ?_) <;> first | contradiction | ((try simp only [SB, reduceCtorEq] at hb); try (exfalso; first | contradiction | omega))) | refine G2 ?_ | rw [ints_at (by omega)] | rw [ints_at0 (by omega)] | rw [ints_at' (by omega) (by omega)] | refine G1 ?_ | refine ⟨_, _, RAutoOk_b rfl ha', ?_⟩ | refine ⟨_, _, RWordOk_b (s := s) (l := l) rfl hw, ?_⟩ | refine ⟨_, _, RIn_mk, ?_⟩ | refine ⟨_, _, RHasI_is (congrArg (fun z => [AV.int .i64 z, AV.int .i64 (st.getD 0 0)]) hes0) hst31 h5, ?_⟩ | fail) <;> conv => whnf)
    refine ⟨.inl rfl, ?_⟩
    conv => whnf
    refine ⟨[], ⟨rfl, trivial⟩, ?_, rfl, rfl⟩
    conv => whnf
    left
    conv => lhs; whnf
  by_cases h6 : (st.length - 1 - bn) % l.length = 0
  rotate_left
  · obtain rfl := hfalse (fun n e h => h6 (by have := h.2.2.2.2.2.1; rwa [hpre n e] at this))
    generalize (st.length - 1 - bn) % l.length = m at *
    conv => whnf
    repeat' ((first | contradiction | (refine And.intro (fun hb => ?_) (fun hb => ?_) <;> first | contradiction | ((try simp only [SB, reduceCtorEq] at hb); try (exfalso; first | contradiction | omega))) | rw [hmod] | refine G2 ?_ | rw [ints_at (by omega)] | rw [ints_at0 (by omega)] | rw [ints_at' (by omega) (by omega)] | refine G1 ?_ | refine ⟨_, _, RAutoOk_b rfl ha', ?_⟩ | refine ⟨_, _, RWordOk_b (s := s) (l := l) rfl hw, ?_⟩ | refine ⟨_, _, RIn_mk, ?_⟩ | refine ⟨_, _, RHasI_is (congrArg (fun z => [AV.int .i64 z, AV.int .i64 (st.getD 0 0)]) hes0) hst31 h5, ?_⟩ | fail) <;> conv => whnf)
    refine ⟨.inl rfl, ?_⟩
    conv => whnf
    refine ⟨[], ⟨rfl, trivial⟩, ?_, rfl, rfl⟩
    conv => whnf
    left
    conv => lhs; whnf
  have hmod0 := hmod
  rw [h6] at hmod0
  by_cases h7 : st.getD bn 0 = st.getD (st.length - 1) 0
  rotate_left
  · obtain rfl := hfalse (fun n e h => h7 (by have := h.2.2.2.2.2.2; rwa [hpre n e] at this))
    conv => whnf
    repeat' ((first | contradiction | (refine And.intro (fun hb => ?_) (fun hb => ?_) <;> first | contradiction | ((try simp only [SB, reduceCtorEq] at hb); try (exfalso; first | contradiction | omega))) | rw [hmod0] | rw [hlast] | refine G2 ?_ | rw [ints_at (by omega)] | rw [ints_at0 (by omega)] | rw [ints_at' (by omega) (by omega)] | refine G1 ?_ | refine ⟨_, _, RAutoOk_b rfl ha', ?_⟩ | refine ⟨_, _, RWordOk_b (s := s) (l := l) rfl hw, ?_⟩ | refine ⟨_, _, RIn_mk, ?_⟩ | refine ⟨_, _, RHasI_is (congrArg (fun z => [AV.int .i64 z, AV.int .i64 (st.getD 0 0)]) hes0) hst31 h5, ?_⟩ | fail) <;> conv => whnf)
    refine ⟨.inl rfl, ?_⟩
    conv => whnf
    refine ⟨[], ⟨rfl, trivial⟩, ?_, rfl, rfl⟩
    conv => whnf
    left
    conv => lhs; whnf
  have hP : PreR a s l st bn := ⟨ha, hw, h3, ⟨by omega, by omega⟩, h5, h6, h7⟩
  clear hfalse
  conv => whnf
  repeat' ((first | contradiction | (refine And.intro (fun hb => ?_) (fun hb => ?_) <;> first | contradiction | ((try simp only [SB, reduceCtorEq] at hb); try (exfalso; first | contradiction | omega))) | rw [hmod0] | rw [hlast] | refine G2 ?_ | rw [ints_at (by omega)] | rw [ints_at0 (by omega)] | rw [ints_at' (by omega) (by omega)] | refine G1 ?_ | refine ⟨_, _, RAutoOk_b rfl ha', ?_⟩ | refine ⟨_, _, RWordOk_b (s := s) (l := l) rfl hw, ?_⟩ | refine ⟨_, _, RIn_mk, ?_⟩ | refine ⟨_, _, RHasI_is (congrArg (fun z => [AV.int .i64 z, AV.int .i64 (st.getD 0 0)]) hes0) hst31 h5, ?_⟩ | fail) <;> conv => whnf)
  refine Lp.intro (α := Nat × Bool) (fun c => c.1 + 1 ≤ st.length ∧ (∀ j, j < c.1 → ∃ e, StepR a s l st j e) ∧ (c.2 = true ↔ ∃ j, bn ≤ j ∧ j < c.1 ∧ ∃ e, StepR a s l st j e ∧ e.mark = true)) (fun c => st.length - c.1)
    (fun c => [(3, .rptr (autoRow a) 0), (4, wordP s l), (5, .rptr [.val (ints st), .int .i64 ((bn : Nat) : Int)] 0), (8, .bool c.2), (75, .int .i64 (((st.length : Nat) : Int) - 1)), (76, .int .i64 ((c.1 : Nat) : Int))]) (fun _ => []) ?_ ?_
  · refine ⟨(0, false), ⟨by dsimp only; omega, fun j hj => by dsimp only at hj; omega, fun h => (by cases h), fun ⟨j, _, hj, _⟩ => by dsimp only at hj; omega⟩, [], rfl, rfl, trivial, ?_⟩
    exact ⟨.inr rfl, .inr rfl, .inr rfl, .inl rfl, .inl (congrArg (fun x : Nat => AV.int .i64 ((x : Int) - 1)) hsi), .inl rfl, trivial⟩
  rintro ⟨i, p⟩ ⟨hi, hall, hp⟩
  dsimp only at hi hall hp ⊢
  refine vc2_sound hR _ _ _ _ _ ?_
  by_cases hlt : i + 1 < st.length
  rotate_left
  · have hvp : v = p := by
      rw [Bool.eq_iff_iff, hv, hp]
      constructor
      · rintro ⟨_, n, e, hrp⟩
        obtain rfl := hpre n e
        obtain ⟨_, _, _, _, _, _, _, _, j, k1, k2, k3⟩ := hrp
        exact ⟨j, k1, by omega, k3⟩
      · rintro ⟨j, k1, k2, k3⟩
        exact runV_of hP (fun j hj => hall j (by omega)) ⟨j, k1, by omega, k3⟩
    subst hvp
    cases v
    all_goals
      conv => whnf
      repeat' ((first | contradiction | (refine And.intro (fun hb => ?_) (fun hb => ?_) <;> first | contradiction | ((try simp only [SB, reduceCtorEq] at hb); try (exfalso; first | contradiction | omega))) | refine G2 ?_ | rw [ints_at (by omega)] | rw [ints_at0 (by omega)] | rw [ints_at' (by omega) (by omega)] | refine G1 ?_ | fail) <;> conv => whnf)
      refine ⟨.inl rfl, ?_⟩
      conv => whnf
      refine ⟨[], ⟨rfl, trivial⟩, ?_, rfl, rfl⟩
      conv => whnf
      left
      conv => lhs; whnf
  have hsucc : (∃ j, bn ≤ j ∧ j < i + 1 ∧ ∃ e, StepR a s l st j e ∧ e.mark = true) ↔ (∃ j, bn ≤ j ∧ j < i ∧ ∃ e, StepR a s l st j e ∧ e.mark = true) ∨ (bn ≤ i ∧ ∃ e, StepR a s l st i e ∧ e.mark = true) := by
    constructor
    · rintro ⟨j, k1, k2, k3⟩
      by_cases hj : j = i
      · subst hj; exact .inr ⟨k1, k3⟩
      · exact .inl ⟨j, k1, by omega, k3⟩
    · rintro (⟨j, k1, k2, k3⟩ | ⟨k1, k3⟩)
      · exact ⟨j, k1, by omega, k3⟩
      · exact ⟨i, k1, by omega, k3⟩
  have hsti := ints_at (xs := st) (i := i) (by omega)
  have hstn : (ints st)[(((i : Nat) : Int) + 1).toNat]? = some [.int .i64 (st.getD (i + 1) 0)] := by
    rw [show ((i : Nat) : Int) + 1 = ((i + 1 : Nat) : Int) by omega]
    exact ints_at hlt
  have hpl := placeN_lt (s := s) hl0 i
  by_cases hex : ∃ e, StepR a s l st i e
  rotate_left
  · have hvf : v = false := Bool.eq_false_iff.2 fun hh => by
      obtain ⟨_, n, e, hrp⟩ := hv.1 hh
      obtain ⟨_, _, _, _, _, _, _, k, _⟩ := hrp
      exact hex (k i hlt)
    subst hvf
    have hE : ∀ xs, xs = [.agg (autoRow a), .int .i64 (st.getD i 0), .int .i64 (letN s l (placeN s l i)), .int .i64 (st.getD (i + 1) 0)] → REdgeT xs (.tup [.bool false, .bool false]) [] := fun xs h =>
      REdgeT_is h ha ⟨fun h => (by cases h), fun ⟨d, hd, k⟩ => absurd ⟨d, hd, k⟩ hex⟩ ⟨fun h => (by cases h), fun ⟨d, hd, k, _⟩ => absurd ⟨d, hd, k⟩ hex⟩
    conv => whnf
    repeat' ((first | contradiction | (refine And.intro (fun hb => ?_) (fun hb => ?_) <;> first | contradiction | ((try simp only [SB, reduceCtorEq] at hb); try (exfalso; first | contradiction | omega))) | rw [hsti] | rw [hstn] | refine G2 ?_ | rw [ints_at (by omega)] | rw [ints_at0 (by omega)] | rw [ints_at' (by omega) (by omega)] | refine G1 ?_ | refine ⟨_, _, RPlaceOf_eq (s := s) (l := l) rfl (by omega) (by omega) hl0 (by omega), ?_⟩ | refine ⟨_, _, RLetter_eq (s := s) (l := l) (p := placeN s l i) rfl (by omega) (by omega) hpl, ?_⟩ | refine ⟨_, _, hE _ rfl, ?_⟩ | fail) <;> conv => whnf)
    refine ⟨.inl rfl, ?_⟩
    conv => whnf
    refine ⟨[], ⟨rfl, trivial⟩, ?_, rfl, rfl⟩
    conv => whnf
    left
    conv => lhs; whnf
  by_cases hmk : ∃ e, StepR a s l st i e ∧ e.mark = true
  · have hE : ∀ xs, xs = [.agg (autoRow a), .int .i64 (st.getD i 0), .int .i64 (letN s l (placeN s l i)), .int .i64 (st.getD (i + 1) 0)] → REdgeT xs (.tup [.bool true, .bool true]) [] := fun xs h =>
      REdgeT_is h ha ⟨fun _ => by obtain ⟨d, hd, k⟩ := hex; exact ⟨d, hd, k⟩, fun _ => rfl⟩ ⟨fun _ => by obtain ⟨d, ⟨hd, k⟩, k2⟩ := hmk; exact ⟨d, hd, k, k2⟩, fun _ => rfl⟩
    cases p with
    | true =>
      conv => whnf
      repeat' ((first | contradiction | (refine And.intro (fun hb => ?_) (fun hb => ?_) <;> first | contradiction | ((try simp only [SB, reduceCtorEq] at hb); try (exfalso; first | contradiction | omega))) | rw [hsti] | rw [hstn] | refine G2 ?_ | rw [ints_at (by omega)] | rw [ints_at0 (by omega)] | rw [ints_at' (by omega) (by omega)] | refine G1 ?_ | refine ⟨_, _, RPlaceOf_eq (s := s) (l := l) rfl (by omega) (by omega) hl0 (by omega), ?_⟩ | refine ⟨_, _, RLetter_eq (s := s) (l := l) (p := placeN s l i) rfl (by omega) (by omega) hpl, ?_⟩ | refine ⟨_, _, hE _ rfl, ?_⟩ | fail) <;> conv => whnf)
      all_goals
        refine ⟨(i + 1, true), ⟨by dsimp only; omega, fun j hj => ?_, ?_⟩, by dsimp only; omega, [], rfl, rfl, trivial, ?_⟩
        · dsimp only at hj
          by_cases hji : j = i
          · subst hji; exact hex
          · exact hall j (by omega)
        · dsimp only
          rw [hsucc]
          exact ⟨fun _ => .inl (hp.1 rfl), fun _ => rfl⟩
        · exact ⟨.inl rfl, .inl rfl, .inl rfl, .inl rfl, .inl rfl, .inl (congrArg (AV.int .i64) (by (try dsimp only); omega)), trivial⟩
    | false =>
      by_cases hib : bn ≤ i
      · conv => whnf
        repeat' ((first | contradiction | (refine And.intro (fun hb => ?_) (fun hb => ?_) <;> first | contradiction | ((try simp only [SB, reduceCtorEq] at hb); try (exfalso; first | contradiction | omega))) | rw [hsti] | rw [hstn] | refine G2 ?_ | rw [ints_at (by omega)] | rw [ints_at0 (by omega)] | rw [ints_at' (by omega) (by omega)] | refine G1 ?_ | refine ⟨_, _, RPlaceOf_eq (s := s) (l := l) rfl (by omega) (by omega) hl0 (by omega), ?_⟩ | refine ⟨_, _, RLetter_eq (s := s) (l := l) (p := placeN s l i) rfl (by omega) (by omega) hpl, ?_⟩ | refine ⟨_, _, hE _ rfl, ?_⟩ | fail) <;> conv => whnf)
        all_goals
          refine ⟨(i + 1, true), ⟨by dsimp only; omega, fun j hj => ?_, ?_⟩, by dsimp only; omega, [], rfl, rfl, trivial, ?_⟩
          · dsimp only at hj
            by_cases hji : j = i
            · subst hji; exact hex
            · exact hall j (by omega)
          · dsimp only
            rw [hsucc]
            exact ⟨fun _ => .inr ⟨hib, hmk⟩, fun _ => rfl⟩
          · exact ⟨.inl rfl, .inl rfl, .inl rfl, .inl rfl, .inl rfl, .inl (congrArg (AV.int .i64) (by (try dsimp only); omega)), trivial⟩
      · conv => whnf
        repeat' ((first | contradiction | (refine And.intro (fun hb => ?_) (fun hb => ?_) <;> first | contradiction | ((try simp only [SB, reduceCtorEq] at hb); try (exfalso; first | contradiction | omega))) | rw [hsti] | rw [hstn] | refine G2 ?_ | rw [ints_at (by omega)] | rw [ints_at0 (by omega)] | rw [ints_at' (by omega) (by omega)] | refine G1 ?_ | refine ⟨_, _, RPlaceOf_eq (s := s) (l := l) rfl (by omega) (by omega) hl0 (by omega), ?_⟩ | refine ⟨_, _, RLetter_eq (s := s) (l := l) (p := placeN s l i) rfl (by omega) (by omega) hpl, ?_⟩ | refine ⟨_, _, hE _ rfl, ?_⟩ | fail) <;> conv => whnf)
        all_goals
          refine ⟨(i + 1, false), ⟨by dsimp only; omega, fun j hj => ?_, ?_⟩, by dsimp only; omega, [], rfl, rfl, trivial, ?_⟩
          · dsimp only at hj
            by_cases hji : j = i
            · subst hji; exact hex
            · exact hall j (by omega)
          · dsimp only
            rw [hsucc]
            exact ⟨fun h => (by cases h), fun h => h.elim (fun h => by have := hp.2 h; cases this) (fun h => absurd h.1 hib)⟩
          · exact ⟨.inl rfl, .inl rfl, .inl rfl, .inl rfl, .inl rfl, .inl (congrArg (AV.int .i64) (by (try dsimp only); omega)), trivial⟩
  · have hE : ∀ xs, xs = [.agg (autoRow a), .int .i64 (st.getD i 0), .int .i64 (letN s l (placeN s l i)), .int .i64 (st.getD (i + 1) 0)] → REdgeT xs (.tup [.bool false, .bool true]) [] := fun xs h =>
      REdgeT_is h ha ⟨fun _ => by obtain ⟨d, hd, k⟩ := hex; exact ⟨d, hd, k⟩, fun _ => rfl⟩ ⟨fun h => (by cases h), fun ⟨d, hd, k, k2⟩ => absurd ⟨d, ⟨hd, k⟩, k2⟩ hmk⟩
    cases p with
    | true =>
      conv => whnf
      repeat' ((first | contradiction | (refine And.intro (fun hb => ?_) (fun hb => ?_) <;> first | contradiction | ((try simp only [SB, reduceCtorEq] at hb); try (exfalso; first | contradiction | omega))) | rw [hsti] | rw [hstn] | refine G2 ?_ | rw [ints_at (by omega)] | rw [ints_at0 (by omega)] | rw [ints_at' (by omega) (by omega)] | refine G1 ?_ | refine ⟨_, _, RPlaceOf_eq (s := s) (l := l) rfl (by omega) (by omega) hl0 (by omega), ?_⟩ | refine ⟨_, _, RLetter_eq (s := s) (l := l) (p := placeN s l i) rfl (by omega) (by omega) hpl, ?_⟩ | refine ⟨_, _, hE _ rfl, ?_⟩ | fail) <;> conv => whnf)
      all_goals
        refine ⟨(i + 1, true), ⟨by dsimp only; omega, fun j hj => ?_, ?_⟩, by dsimp only; omega, [], rfl, rfl, trivial, ?_⟩
        · dsimp only at hj
          by_cases hji : j = i
          · subst hji; exact hex
          · exact hall j (by omega)
        · dsimp only
          rw [hsucc]
          exact ⟨fun _ => .inl (hp.1 rfl), fun _ => rfl⟩
        · exact ⟨.inl rfl, .inl rfl, .inl rfl, .inl rfl, .inl rfl, .inl (congrArg (AV.int .i64) (by (try dsimp only); omega)), trivial⟩
    | false =>
      conv => whnf
      repeat' ((first | contradiction | (refine And.intro (fun hb => ?_) (fun hb => ?_) <;> first | contradiction | ((try simp only [SB, reduceCtorEq] at hb); try (exfalso; first | contradiction | omega))) | rw [hsti] | rw [hstn] | refine G2 ?_ | rw [ints_at (by omega)] | rw [ints_at0 (by omega)] | rw [ints_at' (by omega) (by omega)] | refine G1 ?_ | refine ⟨_, _, RPlaceOf_eq (s := s) (l := l) rfl (by omega) (by omega) hl0 (by omega), ?_⟩ | refine ⟨_, _, RLetter_eq (s := s) (l := l) (p := placeN s l i) rfl (by omega) (by omega) hpl, ?_⟩ | refine ⟨_, _, hE _ rfl, ?_⟩ | fail) <;> conv => whnf)
      all_goals
        refine ⟨(i + 1, false), ⟨by dsimp only; omega, fun j hj => ?_, ?_⟩, by dsimp only; omega, [], rfl, rfl, trivial, ?_⟩
        · dsimp only at hj
          by_cases hji : j = i
          · subst hji; exact hex
          · exact hall j (by omega)
        · dsimp only
          rw [hsucc]
          exact ⟨fun h => (by cases h), fun h => h.elim (fun h => by have := hp.2 h; cases this) (fun h => absurd h.2 hmk)⟩
        · exact ⟨.inl rfl, .inl rfl, .inl rfl, .inl rfl, .inl rfl, .inl (congrArg (AV.int .i64) (by (try dsimp only); omega)), trivial⟩
def c_spec_RunOk : ICode := (.seq (.reg [O1 3 (.box 4) 0, O1 4 (.box 2) 1, O1 5 (.box 2) 2, Ol 6 .mv [cb false]]) (.seq (.reg [O1 13 (.fadr 0) 5, O1 14 .ld1 13, O1 15 .len 14, Ol 16 (.bin .sub) [.t 15, ci 1], O1 7 .mv 16]) (.seq (.seq (.drw [O1 17 (.ldn 4) 3, O1 18 (.call 38) 17, O1 19 .not 18, O1 20 .mv 19, Og 21 (.ldn 2) [.t 4] 20 false, Og 22 (.fadr 0) [.t 3] 20 false, Og 23 .ld1 [.t 22] 20 false, Og 24 (.call 47) [.t 21, .t 23] 20 false, Og 25 .not [.t 24] 20 false, Ol 26 .pick [.t 20, cb true, .t 25], O1 27 .mv 26, Og 28 (.fadr 0) [.t 5] 27 false, Og 29 .ld1 [.t 28] 27 false, Og 30 .len [.t 29] 27 false, Og 31 (.call 114) [.t 30, ci 2, ci 6000] 27 false, Og 32 .not [.t 31] 27 false, Ol 33 .pick [.t 27, cb true, .t 32], O1 34 .mv 33, Og 35 (.fadr 1) [.t 5] 34 false, Og 36 .ld1 [.t 35] 34 false, Og 37 .mv [.t 7] 34 false, Og 38 (.bin .sub) [.t 37, ci 1] 34 false, Og 39 (.call 114) [.t 36, ci 0, .t 38] 34 false, Og 40 .not [.t 39] 34 false, Ol 41 .pick [.t 34, cb true, .t 40], O1 42 .mv 41, Og 43 (.fadr 2) [.t 3] 42 false, Og 44 .ld1 [.t 43] 42 false, Og 45 (.fadr 0) [.t 5] 42 false, Og 46 .ld1 [.t 45] 42 false, Og 47 (.iadr 1) [.t 46, ci 0] 42 false, Og 48 .ld1 [.t 47] 42 false, Og 49 (.call 73) [.t 44, .t 48] 42 false, Og 50 .not [.t 49] 42 false, Ol 51 .pick [.t 42, cb true, .t 50]] (unB [0, 1, 3, 7, 15, 15, 47, 127, 255, 511, 1023, 2047, 4095, 8191, 16383, 32767, 65535, 131071, 262143, 524287, 262143, 1310719, 4194303, 8388607, 16777215, 33554431, 67108863, 134217727, 67108863, 335544319, 872415231, 1946157055, 4294967295, 8589934591, 17179869183] 0) true true) (.cond (.t 51) (.seq (.reg [Ol 6 .mv [cb false]]) .ret) .skip)) (.seq (.seq (.drw [O1 52 (.fadr 1) 5, O1 53 .ld1 52, O1 54 (.fadr 0) 4, O1 55 .ld1 54, O1 56 .len 55, O2 57 (.bin .lss) 53 56, O1 58 .mv 57, Og 59 .mv [.t 7] 58 false, Og 60 (.fadr 1) [.t 5] 58 false, Og 61 .ld1 [.t 60] 58 false, Og 62 (.bin .sub) [.t 59, .t 61] 58 false, Og 63 (.fadr 1) [.t 4] 58 false, Og 64 .ld1 [.t 63] 58 false, Og 65 .len [.t 64] 58 false, Og 66 (.bin .rem) [.t 62, .t 65] 58 false, Og 67 (.bin .neq) [.t 66, ci 0] 58 false, Ol 68 .pick [.t 58, cb true, .t 67], O1 69 .mv 68, Og 70 (.fadr 0) [.t 5] 69 false, Og 71 .ld1 [.t 70] 69 false, Og 72 (.fadr 1) [.t 5] 69 false, Og 73 .ld1 [.t 72] 69 false, Og 74 (.iadr 1) [.t 71, .t 73] 69 false, Og 75 .ld1 [.t 74] 69 false, Og 76 (.fadr 0) [.t 5] 69 false, Og 77 .ld1 [.t 76] 69 false, Og 78 .mv [.t 7] 69 false, Og 79 (.iadr 1) [.t 77, .t 78] 69 false, Og 80 .ld1 [.t 79] 69 false, Og 81 (.bin .neq) [.t 75, .t 80] 69 false, Ol 82 .pick [.t 69, cb true, .t 81]] (unB [0, 1, 0, 4, 12, 31, 63, 127, 127, 383, 1023, 127, 2175, 6271, 16383, 32767, 65535, 131071, 262143, 524287, 262143, 1310719, 4194303, 8388607, 262143, 17039359, 262143, 117702655, 251920383, 536870911, 1073741823] 0) true true) (.cond (.t 82) (.seq (.reg [Ol 6 .mv [cb false]]) .ret) .skip)) (.seq (.reg [Ol 8 .mv [cb false]]) (.seq (.seq (.reg [Ol 9 .mv [ci 0]]) (.block 0 (.loop (.seq (.seq (.reg [O1 83 .mv 9, O1 84 .mv 7, O2 85 (.bin .lss) 83 84]) (.cond (.t 85) .skip (.exit 0))) (.seq (.block 1 (.seq (.reg [Ol 10 .mv [cb false]]) (.seq (.seq (.reg [Ol 11 .mv [ci 0]]) (.block 2 (.loop (.seq (.seq (.reg [O1 88 .mv 11, O1 89 (.fadr 3) 3, O1 90 .ld1 89, O1 91 .len 90, O2 92 (.bin .lss) 88 91]) (.cond (.t 92) .skip (.exit 2))) (.seq (.block 3 (.seq (.reg [O1 95 (.fadr 3) 3, O1 96 .ld1 95, O1 97 .mv 11, O2 98 (.iadr 4) 96 97, O1 99 (.ldn 4) 98, O0 12 (.alc [(.int .i64 0), (.int .i64 0), (.int .i64 0), (.bool false)]), S2 (.st 4) 12 99]) (.seq (.drw [O1 100 (.fadr 0) 12, O1 101 .ld1 100, O1 102 (.fadr 0) 5, O1 103 .ld1 102, O1 104 .mv 9, O2 105 (.iadr 1) 103 104, O1 106 .ld1 105, O2 107 (.bin .eql) 101 106, O1 108 .mv 107, Og 109 (.fadr 1) [.t 12] 108 true, Og 110 .ld1 [.t 109] 108 true, Og 111 (.ldn 2) [.t 4] 108 true, Og 112 .mv [.t 9] 108 true, Og 113 (.call 93) [.t 111, .t 112] 108 true, Og 114 (.bin .eql) [.t 110, .t 113] 108 true, Ol 115 .pick [.t 108, .t 114, cb false], O1 116 .mv 115, Og 117 (.fadr 2) [.t 12] 116 true, Og 118 .ld1 [.t 117] 116 true, Og 119 (.fadr 0) [.t 5] 116 true, Og 120 .ld1 [.t 119] 116 true, Og 121 .mv [.t 9] 116 true, Og 122 (.bin .add) [.t 121, ci 1] 116 true, Og 123 (.iadr 1) [.t 120, .t 122] 116 true, Og 124 .ld1 [.t 123] 116 true, Og 125 (.bin .eql) [.t 118, .t 124] 116 true, Ol 126 .pick [.t 116, .t 125, cb false]] (unB [0, 1, 0, 4, 0, 28, 60, 127, 255, 511, 1023, 511, 511, 6655, 16383, 32767, 65535, 131071, 262143, 131071, 655359, 131071, 2228223, 7995391, 16383999, 33554431, 67108863] 0) true true) (.cond (.t 126) (.seq (.reg [Ol 10 .mv [cb true]]) (.reg [O1 127 .mv 8, O1 128 .mv 127, Og 129 (.fadr 3) [.t 12] 128 false, Og 130 .ld1 [.t 129] 128 false, Og 131 .mv [.t 130] 128 false, Og 132 .mv [.t 9] 131 true, Og 133 (.fadr 1) [.t 5] 131 true, Og 134 .ld1 [.t 133] 131 true, Og 135 (.bin .geq) [.t 132, .t 134] 131 true, Og 136 .pick [.t 131, .t 135, cb false] 128 false, Ol 137 .pick [.t 128, cb true, .t 136], O1 8 .mv 137])) .skip)))) (.reg [O1 93 .mv 11, Ol 94 (.bin .add) [.t 93, ci 1], O1 11 .mv 94])))))) (.seq (.reg [O1 138 .mv 10, O1 139 .not 138]) (.cond (.t 139) (.seq (.reg [Ol 6 .mv [cb false]]) .ret) .skip))))) (.reg [O1 86 .mv 9, Ol 87 (.bin .add) [.t 86, ci 1], O1 9 .mv 87])))))) (.seq (.reg [O1 140 .mv 8, O1 6 .mv 140]) .ret)))))))
theorem b_spec_RunOk : Body Try.prog 55 141 c_spec_RunOk [(.t 6)] := body_mk Try.func55 (by kernel_rfl) (by decide)
set_option maxHeartbeats 16000000 in
theorem s_spec_RunOk : PureSound Try.prog 55 RRunOk := by
  have hR : Rely Try.prog (ctxOf [(38, .pure RAutoOk), (47, .pure RWordOk), (114, .pure RIn), (73, .pure RHasI), (93, .pure RL3AtN)]) :=
    rely_cons b_spec_AutoOk.has s_spec_AutoOk (rely_cons b_spec_WordOk.has s_spec_WordOk (rely_cons b_spec_l1In.has s_spec_l1In (rely_cons b_spec_l1Has.has h_spec_l1Has (rely_cons b_spec_l3At.has n_spec_l3At (rely_nil mixed)))))
  refine pure_of_aw b_spec_RunOk ?_
  rintro xs r objs ⟨a, s, l, st, b, v, rfl, hstl, hv, rfl, rfl⟩ -
  have hsi := length_ints st
  have hli := length_ints l
  have hssi := length_ints s
  have hfalse : (∀ bn : Nat, b = (bn : Int) → ¬ PreR a s l st bn) → v = false := fun h => Bool.eq_false_iff.2 fun hh => by
    obtain ⟨bn, e, hp⟩ := runV_pre (hv.1 hh)
    exact h bn e hp
  refine ⟨by simp, vc2_sound hR _ _ _ _ _ ?_⟩
  unfold runA
  by_cases ha : AutoOk a
  rotate_left
  · have ha' : decide (AutoOk a) = false := decide_eq_false ha
    obtain rfl := hfalse (fun bn _ h => ha h.1)
    conv => whnf
    repeat' ((first | contradiction | (refine And.intro (fun hb => ?_) (fun hb => ?_) <;> first | contradiction | ((try simp only [SB, reduceCtorEq] at hb); try (exfalso; first | contradiction | omega))) | refine G2 ?_ | rw [ints_at (by omega)] | rw [ints_at0 (by omega)] | rw [ints_at' (by omega) (by omega)] | refine G1 ?_ | refine ⟨_, _, RAutoOk_b rfl ha', ?_⟩ | fail) <;> conv => whnf)
    refine ⟨.inl rfl, ?_⟩
    conv => whnf
    refine ⟨[], ⟨rfl, trivial⟩, ?_, rfl, rfl⟩
    conv => whnf
    left
    conv => lhs; whnf
  have ha' : decide (AutoOk a) = true := decide_eq_true ha
  cases hw : wordOk s l a.letters
  · obtain rfl := hfalse (fun bn _ h => by have := h.2.1; rw [hw] at this; cases this)
    conv => whnf
    repeat' ((first | contradiction | (refine And.intro (fun hb => ?_) (fun hb => ?_) <;> first | contradiction | ((try simp only [SB, reduceCtorEq] at hb); try (exfalso; first | contradiction | omega))) | refine G2 ?_ | rw [ints_at (by omega)] | rw [ints_at0 (by omega)] | rw [ints_at' (by omega) (by omega)] | refine G1 ?_ | refine ⟨_, _, RAutoOk_b rfl ha', ?_⟩ | refine ⟨_, _, RWordOk_b (s := s) (l := l) rfl hw, ?_⟩ | fail) <;> conv => whnf)
    refine ⟨.inl rfl, ?_⟩
    conv => whnf
    refine ⟨[], ⟨rfl, trivial⟩, ?_, rfl, rfl⟩
    conv => whnf
    left
    conv => lhs; whnf
  obtain ⟨hlo, hs, hl, hl0⟩ := let_ok hw
  by_cases h3 : 2 ≤ st.length ∧ st.length ≤ 6000
  rotate_left
  · obtain rfl := hfalse (fun bn _ h => h3 h.2.2.1)
    conv => whnf
    repeat' ((first | contradiction | (refine And.intro (fun hb => ?_) (fun hb => ?_) <;> first | contradiction | ((try simp only [SB, reduceCtorEq] at hb); try (exfalso; first | contradiction | omega))) | refine G2 ?_ | rw [ints_at (by omega)] | rw [ints_at0 (by omega)] | rw [ints_at' (by omega) (by omega)] | refine G1 ?_ | refine ⟨_, _, RAutoOk_b rfl ha', ?_⟩ | refine ⟨_, _, RWordOk_b (s := s) (l := l) rfl hw, ?_⟩ | refine ⟨_, _, RIn_mk, ?_⟩ | fail) <;> conv => whnf)
    refine ⟨.inl rfl, ?_⟩
    conv => whnf
    refine ⟨[], ⟨rfl, trivial⟩, ?_, rfl, rfl⟩
    conv => whnf
    left
    conv => lhs; whnf
  by_cases h4 : 0 ≤ b ∧ b + 2 ≤ (st.length : Int)
  rotate_left
  · obtain rfl := hfalse (fun bn e h => h4 (by have := h.2.2.2.1; omega))
    conv => whnf
    repeat' ((first | contradiction | (refine And.intro (fun hb => ?_) (fun hb => ?_) <;> first | contradiction | ((try simp only [SB, reduceCtorEq] at hb); try (exfalso; first | contradiction | omega))) | refine G2 ?_ | rw [ints_at (by omega)] | rw [ints_at0 (by omega)] | rw [ints_at' (by omega) (by omega)] | refine G1 ?_ | refine ⟨_, _, RAutoOk_b rfl ha', ?_⟩ | refine ⟨_, _, RWordOk_b (s := s) (l := l) rfl hw, ?_⟩ | refine ⟨_, _, RIn_mk, ?_⟩ | fail) <;> conv => whnf)
    refine ⟨.inl rfl, ?_⟩
    conv => whnf
    refine ⟨[], ⟨rfl, trivial⟩, ?_, rfl, rfl⟩
    conv => whnf
    left
    conv => lhs; whnf
  obtain ⟨bn, rfl⟩ : ∃ bn : Nat, b = (bn : Int) := ⟨b.toNat, by omega⟩
  have hst31 := lt31 ha (start_lt2 ha)
  have hsr := ha.1.2.2
  have hes0 : a.start = ((a.start.toNat : Nat) : Int) := by omega
  have hpre : ∀ n : Nat, ((bn : Nat) : Int) = ((n : Nat) : Int) → n = bn := fun n h => by omega
  have hlast : (ints st)[((((ints st).length : Nat) : Int) - 1).toNat]? = some [.int .i64 (st.getD (st.length - 1) 0)] := by
    rw [hsi, show (((st.length : Nat) : Int) - 1) = ((st.length - 1 : Nat) : Int) by omega]
    exact ints_at (by omega)
  have hmod : Int.tmod ((((ints st).length : Nat) : Int) - 1 - ((bn : Nat) : Int)) (((ints l).length : Nat) : Int) = (((st.length - 1 - bn) % l.length : Nat) : Int) := by
    rw [hsi, hli, show ((st.length : Nat) : Int) - 1 - ((bn : Nat) : Int) = ((st.length - 1 - bn : Nat) : Int) by omega]
    exact (Int.ofNat_tmod _ _).symm
  cases h5 : hasI a.start.toNat (st.getD 0 0)
  · obtain rfl := hfalse (fun n _ h => by have := h.2.2.2.2.1; rw [h5] at this; cases this)
    conv => whnf
    repeat' ((first | contradiction | (refine And.intro (fun hb => ?_) (fun hb => ?_) <;> first | contradiction | ((try simp only [SB, reduceCtorEq] at hb); try (exfalso; first | contradiction | omega))) | refine G2 ?_ | rw [ints_at (by omega)] | rw [ints_at0 (by omega)] | rw [ints_at' (by omega) (by omega)] | refine G1 ?_ | refine ⟨_, _, RAutoOk_b rfl ha', ?_⟩ | refine ⟨_, _, RWordOk_b (s := s) (l := l) rfl hw, ?_⟩ | refine ⟨_, _, RIn_mk, ?_⟩ | refine ⟨_, _, RHasI_is (congrArg (fun z => [AV.int .i64 z, AV.int .i64 (st.getD 0 0)]) hes0) hst31 h5, ?_⟩ | fail) <;> conv => whnf)
    refine ⟨.inl rfl, ?_⟩
    conv => whnf
    refine ⟨[], ⟨rfl, trivial⟩, ?_, rfl, rfl⟩
    conv => whnf
    left
    conv => lhs; whnf
  by_cases h8 : s.length ≤ bn
  rotate_left
  · obtain rfl := hfalse (fun n e h => h8 (by have := h.2.2.2.1.1; rwa [hpre n e] at this))
    conv => whnf
    repeat' ((first | contradiction | (refine And.intro (fun hb => ?_) (fun hb => ?_) <;> first | contradiction | ((try simp only [SB, reduceCtorEq] at hb); try (exfalso; first | contradiction | omega))) | refine G2 ?_ | rw [ints_at (by omega)] | rw [ints_at0 (by omega)] | rw [ints_at' (by omega) (by omega)] | refine G1 ?_ | refine ⟨_, _, RAutoOk_b rfl ha', ?_⟩ | refine ⟨_, _, RWordOk_b (s := s) (l := l) rfl hw, ?_⟩ | refine ⟨_, _, RIn_mk, ?_⟩ | refine ⟨_, _, RHasI_is (congrArg (fun z => [AV.int .i64 z, AV.int .i64 (st.getD 0 0)]) hes0) hst31 h5, ?_⟩ | fail) <;> conv => whnf)
    refine ⟨.inl rfl, ?_⟩
    conv => whnf
    refine ⟨[], ⟨rfl, trivial⟩, ?_, rfl, rfl⟩
    conv => whnf
    left
    conv => lhs; whnf
  by_cases h6 : (st.length - 1 - bn) % l.length = 0
  rotate_left
  · obtain rfl := hfalse (fun n e h => h6 (by have := h.2.2.2.2.2.1; rwa [hpre n e] at this))
    generalize (st.length - 1 - bn) % l.length = m at *
    conv => whnf
    repeat' ((first | contradiction | (refine And.intro (fun hb => ?_) (fun hb => ?_) <;> first | contradiction | ((try simp only [SB, reduceCtorEq] at hb); try (exfalso; first | contradiction | omega))) | rw [hmod] | refine G2 ?_ | rw [ints_at (by omega)] | rw [ints_at0 (by omega)] | rw [ints_at' (by omega) (by omega)] | refine G1 ?_ | refine ⟨_, _, RAutoOk_b rfl ha', ?_⟩ | refine ⟨_, _, RWordOk_b (s := s) (l := l) rfl hw, ?_⟩ | refine ⟨_, _, RIn_mk, ?_⟩ | refine ⟨_, _, RHasI_is (congrArg (fun z => [AV.int .i64 z, AV.int .i64 (st.getD 0 0)]) hes0) hst31 h5, ?_⟩ | fail) <;> conv => whnf)
    refine ⟨.inl rfl, ?_⟩
    conv => whnf
    refine ⟨[], ⟨rfl, trivial⟩, ?_, rfl, rfl⟩
    conv => whnf
    left
    conv => lhs; whnf
  have hmod0 := hmod
  rw [h6] at hmod0
  by_cases h7 : st.getD bn 0 = st.getD (st.length - 1) 0
  rotate_left
  · obtain rfl := hfalse (fun n e h => h7 (by have := h.2.2.2.2.2.2; rwa [hpre n e] at this))
    conv => whnf
    repeat' ((first | contradiction | (refine And.intro (fun hb => ?_) (fun hb => ?_) <;> first | contradiction | ((try simp only [SB, reduceCtorEq] at hb); try (exfalso; first | contradiction | omega))) | rw [hmod0] | rw [hlast] | refine G2 ?_ | rw [ints_at (by omega)] | rw [ints_at0 (by omega)] | rw [ints_at' (by omega) (by omega)] | refine G1 ?_ | refine ⟨_, _, RAutoOk_b rfl ha', ?_⟩ | refine ⟨_, _, RWordOk_b (s := s) (l := l) rfl hw, ?_⟩ | refine ⟨_, _, RIn_mk, ?_⟩ | refine ⟨_, _, RHasI_is (congrArg (fun z => [AV.int .i64 z, AV.int .i64 (st.getD 0 0)]) hes0) hst31 h5, ?_⟩ | fail) <;> conv => whnf)
    refine ⟨.inl rfl, ?_⟩
    conv => whnf
    refine ⟨[], ⟨rfl, trivial⟩, ?_, rfl, rfl⟩
    conv => whnf
    left
    conv => lhs; whnf
  have hP : PreR a s l st bn := ⟨ha, hw, h3, ⟨h8, by omega⟩, h5, h6, h7⟩
  clear hfalse
  have hel := ha.2.1
  have hle := length_edgeRows a.edges
  conv => whnf
  repeat' ((first | contradiction | (refine And.intro (fun hb => ?_) (fun hb => ?_) <;> first | contradiction | ((try simp only [SB, reduceCtorEq] at hb); try (exfalso; first | contradiction | omega))) | rw [hmod0] | rw [hlast] | refine G2 ?_ | rw [ints_at (by omega)] | rw [ints_at0 (by omega)] | rw [ints_at' (by omega) (by omega)] | refine G1 ?_ | refine ⟨_, _, RAutoOk_b rfl ha', ?_⟩ | refine ⟨_, _, RWordOk_b (s := s) (l := l) rfl hw, ?_⟩ | refine ⟨_, _, RIn_mk, ?_⟩ | refine ⟨_, _, RHasI_is (congrArg (fun z => [AV.int .i64 z, AV.int .i64 (st.getD 0 0)]) hes0) hst31 h5, ?_⟩ | fail) <;> conv => whnf)
  refine Lp.intro (α := Nat × Bool) (fun c => c.1 + 1 ≤ st.length ∧ (∀ j, j < c.1 → ∃ e, StepR a s l st j e) ∧ (c.2 = true ↔ ∃ j, bn ≤ j ∧ j < c.1 ∧ ∃ e, StepR a s l st j e ∧ e.mark = true)) (fun c => st.length - c.1)
    (fun c => [(3, .rptr (autoRow a) 0), (4, wordP s l), (5, .rptr [.val (ints st), .int .i64 ((bn : Nat) : Int)] 0), (7, .int .i64 (((st.length : Nat) : Int) - 1)), (8, .bool c.2), (9, .int .i64 ((c.1 : Nat) : Int))]) (fun _ => []) ?_ ?_
  · refine ⟨(0, false), ⟨by dsimp only; omega, fun j hj => by dsimp only at hj; omega, fun h => (by cases h), fun ⟨j, _, hj, _⟩ => by dsimp only at hj; omega⟩, [], rfl, rfl, trivial, ?_⟩
    exact ⟨.inr rfl, .inr rfl, .inr rfl, .inl (congrArg (fun x : Nat => AV.int .i64 ((x : Int) - 1)) hsi), .inl rfl, .inl rfl, trivial⟩
  rintro ⟨i, p⟩ ⟨hi, hall, hp⟩
  dsimp only at hi hall hp ⊢
  refine vc2_sound hR _ _ _ _ _ ?_
  by_cases hlt : i + 1 < st.length
  rotate_left
  · have hvp : v = p := by
      rw [Bool.eq_iff_iff, hv, hp]
      constructor
      · rintro ⟨_, n, e, hrp⟩
        obtain rfl := hpre n e
        obtain ⟨_, _, _, _, _, _, _, _, j, k1, k2, k3⟩ := hrp
        exact ⟨j, k1, by omega, k3⟩
      · rintro ⟨j, k1, k2, k3⟩
        exact runV_of hP (fun j hj => hall j (by omega)) ⟨j, k1, by omega, k3⟩
    subst hvp
    cases v
    all_goals
      conv => whnf
      repeat' ((first | contradiction | (refine And.intro (fun hb => ?_) (fun hb => ?_) <;> first | contradiction | ((try simp only [SB, reduceCtorEq] at hb); try (exfalso; first | contradiction | omega))) | refine G2 ?_ | rw [ints_at (by omega)] | rw [ints_at0 (by omega)] | rw [ints_at' (by omega) (by omega)] | refine G1 ?_ | fail) <;> conv => whnf)
      refine ⟨.inl rfl, ?_⟩
      conv => whnf
      refine ⟨[], ⟨rfl, trivial⟩, ?_, rfl, rfl⟩
      conv => whnf
      left
      conv => lhs; whnf
  have hsucc : (∃ j, bn ≤ j ∧ j < i + 1 ∧ ∃ e, StepR a s l st j e ∧ e.mark = true) ↔ (∃ j, bn ≤ j ∧ j < i ∧ ∃ e, StepR a s l st j e ∧ e.mark = true) ∨ (bn ≤ i ∧ ∃ e, StepR a s l st i e ∧ e.mark = true) := by
    constructor
    · rintro ⟨j, k1, k2, k3⟩
      by_cases hj : j = i
      · subst hj; exact .inr ⟨k1, k3⟩
      · exact .inl ⟨j, k1, by omega, k3⟩
    · rintro (⟨j, k1, k2, k3⟩ | ⟨k1, k3⟩)
      · exact ⟨j, k1, by omega, k3⟩
      · exact ⟨i, k1, by omega, k3⟩
  have hsti := ints_at (xs := st) (i := i) (by omega)
  have hstn : (ints st)[(((i : Nat) : Int) + 1).toNat]? = some [.int .i64 (st.getD (i + 1) 0)] := by
    rw [show ((i : Nat) : Int) + 1 = ((i + 1 : Nat) : Int) by omega]
    exact ints_at hlt
  conv => whnf
  repeat' ((first | contradiction | (refine And.intro (fun hb => ?_) (fun hb => ?_) <;> first | contradiction | ((try simp only [SB, reduceCtorEq] at hb); try (exfalso; first | contradiction | omega))) | refine G2 ?_ | rw [ints_at (by omega)] | rw [ints_at0 (by omega)] | rw [ints_at' (by omega) (by omega)] | refine G1 ?_ | fail) <;> conv => whnf)
  refine Lp.intro (α := Nat × Bool × Bool) (fun c => c.1 ≤ a.edges.length ∧ (c.2.1 = true ↔ ∃ j, j < c.1 ∧ StepR a s l st i (a.edges.getD j default)) ∧ (c.2.2 = true ↔ (p = true ∨ (bn ≤ i ∧ ∃ j, j < c.1 ∧ StepR a s l st i (a.edges.getD j default) ∧ (a.edges.getD j default).mark = true)))) (fun c => a.edges.length - c.1)
    (fun c => [(3, .rptr (autoRow a) 0), (4, wordP s l), (5, .rptr [.val (ints st), .int .i64 ((bn : Nat) : Int)] 0), (7, .int .i64 (((st.length : Nat) : Int) - 1)), (8, .bool c.2.2), (9, .int .i64 ((i : Nat) : Int)), (10, .bool c.2.1), (11, .int .i64 ((c.1 : Nat) : Int))]) (fun _ => []) ?_ ?_
  · refine ⟨(0, false, p), ⟨Nat.zero_le _, ⟨fun h => (by cases h), fun ⟨j, hj, _⟩ => by dsimp only at hj; omega⟩, ⟨fun h => .inl h, fun h => h.elim id (fun ⟨_, j, hj, _⟩ => by dsimp only at hj; omega)⟩⟩, [], rfl, rfl, trivial, ?_⟩
    exact ⟨.inl rfl, .inl rfl, .inl rfl, .inl rfl, .inl rfl, .inl rfl, .inl rfl, .inl rfl, trivial⟩
  rintro ⟨k, f, q⟩ ⟨hk, hf, hq⟩
  dsimp only at hk hf hq ⊢
  refine vc2_sound hR _ _ _ _ _ ?_
  by_cases hkl : k < a.edges.length
  rotate_left
  · have hex : (∃ e, StepR a s l st i e) ↔ ∃ j, j < k ∧ StepR a s l st i (a.edges.getD j default) := by
      constructor
      · rintro ⟨e, he⟩
        obtain ⟨j, hj, rfl⟩ := mem_at he.1
        exact ⟨j, by omega, he⟩
      · rintro ⟨j, _, hj⟩
        exact ⟨_, hj⟩
    have hexm : (∃ e, StepR a s l st i e ∧ e.mark = true) ↔ ∃ j, j < k ∧ StepR a s l st i (a.edges.getD j default) ∧ (a.edges.getD j default).mark = true := by
      constructor
      · rintro ⟨e, he, hm⟩
        obtain ⟨j, hj, rfl⟩ := mem_at he.1
        exact ⟨j, by omega, he, hm⟩
      · rintro ⟨j, _, hj⟩
        exact ⟨_, hj⟩
    rw [← hex] at hf
    rw [← hexm] at hq
    cases f with
    | false =>
      have hvf : v = false := Bool.eq_false_iff.2 fun hh => by
        obtain ⟨_, n, e, hrp⟩ := hv.1 hh
        obtain ⟨_, _, _, _, _, _, _, k, _⟩ := hrp
        have := hf.2 (k i hlt)
        cases this
      subst hvf
      conv => whnf
      repeat' ((first | contradiction | (refine And.intro (fun hb => ?_) (fun hb => ?_) <;> first | contradiction | ((try simp only [SB, reduceCtorEq] at hb); try (exfalso; first | contradiction | omega))) | refine G2 ?_ | rw [ints_at (by omega)] | rw [ints_at0 (by omega)] | rw [ints_at' (by omega) (by omega)] | refine G1 ?_ | fail) <;> conv => whnf)
      refine ⟨.inl rfl, ?_⟩
      conv => whnf
      refine ⟨[], ⟨rfl, trivial⟩, ?_, rfl, rfl⟩
      conv => whnf
      left
      conv => lhs; whnf
    | true =>
      conv => whnf
      repeat' ((first | contradiction | (refine And.intro (fun hb => ?_) (fun hb => ?_) <;> first | contradiction | ((try simp only [SB, reduceCtorEq] at hb); try (exfalso; first | contradiction | omega))) | refine G2 ?_ | rw [ints_at (by omega)] | rw [ints_at0 (by omega)] | rw [ints_at' (by omega) (by omega)] | refine G1 ?_ | fail) <;> conv => whnf)
      refine ⟨(i + 1, q), ⟨by dsimp only; omega, fun j hj => ?_, ?_⟩, by dsimp only; omega, [], rfl, rfl, trivial, ?_⟩
      · dsimp only at hj
        by_cases hji : j = i
        · subst hji; exact hf.1 rfl
        · exact hall j (by omega)
      · dsimp only
        rw [hsucc, hq, hp]
      · exact ⟨.inl rfl, .inl rfl, .inl rfl, .inl rfl, .inl rfl, .inl (congrArg (AV.int .i64) (by (try dsimp only); omega)), trivial⟩
  have hat := edge_at hkl
  have hmem : a.edges.getD k default ∈ a.edges := getD_mem' hkl
  have hf1 : (∃ j, j < k + 1 ∧ StepR a s l st i (a.edges.getD j default)) ↔ (∃ j, j < k ∧ StepR a s l st i (a.edges.getD j default)) ∨ StepR a s l st i (a.edges.getD k default) := by
    constructor
    · rintro ⟨j, h1, h2⟩
      by_cases hj : j = k
      · subst hj; exact .inr h2
      · exact .inl ⟨j, by omega, h2⟩
    · rintro (⟨j, h1, h2⟩ | h2)
      · exact ⟨j, by omega, h2⟩
      · exact ⟨k, by omega, h2⟩
  have hq1 : (∃ j, j < k + 1 ∧ StepR a s l st i (a.edges.getD j default) ∧ (a.edges.getD j default).mark = true) ↔ (∃ j, j < k ∧ StepR a s l st i (a.edges.getD j default) ∧ (a.edges.getD j default).mark = true) ∨ (StepR a s l st i (a.edges.getD k default) ∧ (a.edges.getD k default).mark = true) := by
    constructor
    · rintro ⟨j, h1, h2⟩
      by_cases hj : j = k
      · subst hj; exact .inr h2
      · exact .inl ⟨j, by omega, h2⟩
    · rintro (⟨j, h1, h2⟩ | h2)
      · exact ⟨j, by omega, h2⟩
      · exact ⟨k, by omega, h2⟩
  have hst2 : StepR a s l st i (a.edges.getD k default) ↔ (a.edges.getD k default).src = st.getD i 0 ∧ (a.edges.getD k default).letter = seqN s l i ∧ (a.edges.getD k default).dst = st.getD (i + 1) 0 := ⟨fun h => h.2, fun h => ⟨hmem, h⟩⟩
  generalize a.edges.getD k default = e at *
  by_cases hkey : StepR a s l st i e
  rotate_left
  · have hkey' := fun h => hkey (hst2.2 h)
    conv => whnf
    repeat' ((first | contradiction | (refine And.intro (fun hb => ?_) (fun hb => ?_) <;> first | contradiction | ((try simp only [SB, reduceCtorEq] at hb); try (exfalso; first | contradiction | omega))) | rw [hat] | rw [hsti] | rw [hstn] | refine G2 ?_ | rw [ints_at (by omega)] | rw [ints_at0 (by omega)] | rw [ints_at' (by omega) (by omega)] | refine G1 ?_ | refine ⟨_, _, RL3AtN_eq (s := s) (l := l) (i := i) rfl (by omega) (by omega) hl0 (by omega), ?_⟩ | fail) <;> conv => whnf)
    all_goals first
    | (exfalso; exact hkey' ⟨by assumption, by assumption, by assumption⟩)
    | (refine ⟨(k + 1, f, q), ⟨hkl, ?_, ?_⟩, by dsimp only; omega, [], rfl, rfl, trivial, ?_⟩
       · dsimp only
         rw [hf1, hf]
         exact ⟨.inl, fun h => h.elim id (fun h => absurd h hkey)⟩
       · dsimp only
         rw [hq1, hq]
         exact ⟨fun h => h.elim .inl (fun h => .inr ⟨h.1, .inl h.2⟩), fun h => h.elim .inl (fun h => h.2.elim (fun g => .inr ⟨h.1, g⟩) (fun g => absurd g.1 hkey))⟩
       · exact ⟨.inl rfl, .inl rfl, .inl rfl, .inl rfl, .inl rfl, .inl rfl, .inl rfl, .inl rfl, trivial⟩)
  obtain ⟨hk1, hk2, hk3⟩ := hst2.1 hkey
  have hf2 : true = true ↔ (∃ j, j < k + 1 ∧ StepR a s l st i (a.edges.getD j default)) := ⟨fun _ => hf1.2 (.inr hkey), fun _ => rfl⟩
  cases q with
  | true =>
    conv => whnf
    repeat' ((first | contradiction | (refine And.intro (fun hb => ?_) (fun hb => ?_) <;> first | contradiction | ((try simp only [SB, reduceCtorEq] at hb); try (exfalso; first | contradiction | omega))) | rw [hat] | rw [hsti] | rw [hstn] | refine G2 ?_ | rw [ints_at (by omega)] | rw [ints_at0 (by omega)] | rw [ints_at' (by omega) (by omega)] | refine G1 ?_ | refine ⟨_, _, RL3AtN_eq (s := s) (l := l) (i := i) rfl (by omega) (by omega) hl0 (by omega), ?_⟩ | fail) <;> conv => whnf)
    all_goals
      refine ⟨(k + 1, true, true), ⟨hkl, hf2, ?_⟩, by dsimp only; omega, [], rfl, rfl, trivial, ?_⟩
      · dsimp only
        rw [hq1]
        exact ⟨fun _ => (hq.1 rfl).elim .inl (fun h => .inr ⟨h.1, .inl h.2⟩), fun _ => rfl⟩
      · exact ⟨.inl rfl, .inl rfl, .inl rfl, .inl rfl, .inl rfl, .inl rfl, .inl rfl, .inl rfl, trivial⟩
  | false =>
    have hqn : ¬ (p = true ∨ (bn ≤ i ∧ ∃ j, j < k ∧ StepR a s l st i (a.edges.getD j default) ∧ (a.edges.getD j default).mark = true)) := fun h => by
      have := hq.2 h
      cases this
    cases hmk : e.mark with
    | false =>
      conv => whnf
      repeat' ((first | contradiction | (refine And.intro (fun hb => ?_) (fun hb => ?_) <;> first | contradiction | ((try simp only [SB, reduceCtorEq] at hb); try (exfalso; first | contradiction | omega))) | rw [hat] | rw [hsti] | rw [hstn] | refine G2 ?_ | rw [ints_at (by omega)] | rw [ints_at0 (by omega)] | rw [ints_at' (by omega) (by omega)] | refine G1 ?_ | refine ⟨_, _, RL3AtN_eq (s := s) (l := l) (i := i) rfl (by omega) (by omega) hl0 (by omega), ?_⟩ | fail) <;> conv => whnf)
      all_goals first
      | (exfalso; exact Bool.noConfusion (hmk.symm.trans (show e.mark = true by assumption)))
      | (refine ⟨(k + 1, true, false), ⟨hkl, hf2, ?_⟩, by dsimp only; omega, [], rfl, rfl, trivial, ?_⟩
         · dsimp only
           rw [hq1]
           exact ⟨fun h => (by cases h), fun h => absurd (h.elim .inl (fun h => .inr ⟨h.1, h.2.elim id (fun g => by have := g.2; rw [hmk] at this; cases this)⟩)) hqn⟩
         · exact ⟨.inl rfl, .inl rfl, .inl rfl, .inl rfl, .inl rfl, .inl rfl, .inl rfl, .inl rfl, trivial⟩)
    | true =>
      by_cases hib : bn ≤ i
      · conv => whnf
        repeat' ((first | contradiction | (refine And.intro (fun hb => ?_) (fun hb => ?_) <;> first | contradiction | ((try simp only [SB, reduceCtorEq] at hb); try (exfalso; first | contradiction | omega))) | rw [hat] | rw [hsti] | rw [hstn] | refine G2 ?_ | rw [ints_at (by omega)] | rw [ints_at0 (by omega)] | rw [ints_at' (by omega) (by omega)] | refine G1 ?_ | refine ⟨_, _, RL3AtN_eq (s := s) (l := l) (i := i) rfl (by omega) (by omega) hl0 (by omega), ?_⟩ | fail) <;> conv => whnf)
        all_goals first
        | (exfalso; exact Bool.noConfusion (hmk.symm.trans (show e.mark = false by assumption)))
        | (refine ⟨(k + 1, true, true), ⟨hkl, hf2, ?_⟩, by dsimp only; omega, [], rfl, rfl, trivial, ?_⟩
           · dsimp only
             rw [hq1]
             exact ⟨fun _ => .inr ⟨hib, .inr ⟨hkey, hmk⟩⟩, fun _ => rfl⟩
           · exact ⟨.inl rfl, .inl rfl, .inl rfl, .inl rfl, .inl rfl, .inl rfl, .inl rfl, .inl rfl, trivial⟩)
      · conv => whnf
        repeat' ((first | contradiction | (refine And.intro (fun hb => ?_) (fun hb => ?_) <;> first | contradiction | ((try simp only [SB, reduceCtorEq] at hb); try (exfalso; first | contradiction | omega))) | rw [hat] | rw [hsti] | rw [hstn] | refine G2 ?_ | rw [ints_at (by omega)] | rw [ints_at0 (by omega)] | rw [ints_at' (by omega) (by omega)] | refine G1 ?_ | refine ⟨_, _, RL3AtN_eq (s := s) (l := l) (i := i) rfl (by omega) (by omega) hl0 (by omega), ?_⟩ | fail) <;> conv => whnf)
        all_goals first
        | (exfalso; exact Bool.noConfusion (hmk.symm.trans (show e.mark = false by assumption)))
        | (refine ⟨(k + 1, true, false), ⟨hkl, hf2, ?_⟩, by dsimp only; omega, [], rfl, rfl, trivial, ?_⟩
           · dsimp only
             rw [hq1]
             exact ⟨fun h => (by cases h), fun h => absurd (h.elim .inl (fun h => absurd h.1 hib)) hqn⟩
           · exact ⟨.inl rfl, .inl rfl, .inl rfl, .inl rfl, .inl rfl, .inl rfl, .inl rfl, .inl rfl, trivial⟩)
end Go.Proofs.Ythanhknkoikbfaa.Ct
namespace Go.Proofs.Ythanhknkoikbfaa.Ct
open Go Go.Proofs Go.Proofs.Ythanhknkoikbfaa.Av
def c_laws_big : ICode := (.seq (.reg [Ol 2 .mv [cb false]]) (.seq (.reg [O1 3 .mv 0, O1 4 .len 3, Ol 5 (.bin .gtr) [.t 4, ci 1048576], O1 2 .mv 5]) .ret))
theorem b_laws_big : Body Try.prog 35 6 c_laws_big [(.t 2)] := body_mk Try.func35 (by kernel_rfl) (by decide)
def RBig (xs : List AV) (r : AV) (objs : List AObj) : Prop := ∃ code : List UInt8, xs = [.val (code.map byteRow)] ∧ r = .bool (decide (1048576 < code.length)) ∧ objs = []
theorem RBig_mk {code : List UInt8} : RBig [.val (code.map byteRow)] (.bool (decide (1048576 < code.length))) [] := ⟨code, rfl, rfl, rfl⟩
theorem s_laws_big : PureSound Try.prog 35 RBig := by
  have hR : Rely Try.prog (ctxOf []) := rely_nil mixed
  refine pure_of_aw b_laws_big ?_
  rintro xs r objs ⟨code, rfl, rfl, rfl⟩ -
  have hbl : (code.map byteRow).length = code.length := by simp
  refine ⟨by simp, vc2_sound hR _ _ _ _ _ ?_⟩
  conv => whnf
  repeat' ((first | (refine And.intro (fun hb => ?_) (fun hb => ?_) <;> ((try simp only [SB, reduceCtorEq] at hb); try (exfalso; omega))) | refine G2 ?_ | rw [ints_at (by omega)] | rw [ints_at0 (by omega)] | rw [ints_at' (by omega) (by omega)] | refine G1 ?_ | fail) <;> conv => whnf)
  · refine ⟨.inl rfl, ?_⟩
    conv => whnf
    refine ⟨[], ⟨rfl, trivial⟩, ?_, rfl, rfl⟩
    conv => whnf
    left
    conv => lhs; whnf
    exact congrArg AV.bool (decide_eq_true (by omega)).symm
  · refine ⟨.inl rfl, ?_⟩
    conv => whnf
    refine ⟨[], ⟨rfl, trivial⟩, ?_, rfl, rfl⟩
    conv => whnf
    left
    conv => lhs; whnf
    exact congrArg AV.bool (decide_eq_false (by omega)).symm
def RTrueCode (xs : List AV) (r : AV) (objs : List AObj) : Prop := ∃ code : List UInt8, xs = [.val (code.map byteRow)] ∧ r = .bool true ∧ objs = []
end Go.Proofs.Ythanhknkoikbfaa.Ct
namespace Go.Proofs.Ythanhknkoikbfaa.Ct
open Go Go.Proofs Go.Proofs.Ythanhknkoikbfaa.Av Go.Proofs.Ythanhknkoikbfaa.Pl
def c_laws_FnRun : ICode := (.seq (.reg [Ol 2 .mv [cb false]]) (.seq (.seq (.reg [O1 12 .mv 0, O1 13 (.call 35) 12]) (.cond (.t 13) (.seq (.reg [Ol 2 .mv [cb true]]) .ret) .skip)) (.seq (.reg [O1 15 .mv 0, O1 16 (.call 52) 15, O1 14 .mv 16, O1 17 (.ext 0) 14, O1 18 (.ext 1) 14, O0 3 (.alc [(.int .i64 0), (.int .i64 0), (.int .i64 0), .snil]), O0 4 (.alc [.snil, .snil]), S2 (.st 4) 3 17, S2 (.st 2) 4 18]) (.seq (.reg [O1 20 (.ldn 4) 3, O1 21 (.ldn 2) 4, O2 22 (.call 31) 20 21, O1 19 .mv 22, O1 23 (.ext 0) 19, O1 24 (.ext 1) 19, O0 5 (.alc [.snil, (.int .i64 0)]), S2 (.st 2) 5 23, O1 6 .mv 24]) (.seq (.reg [O1 25 (.ldn 4) 3, O1 26 (.ldn 2) 4, O2 27 (.call 40) 25 26, O1 7 .mv 27]) (.seq (.seq (.reg [O1 28 .mv 6, O1 29 .mv 7, O2 30 (.beq true) 28 29, O1 31 .mv 30, Og 32 (.ldn 4) [.t 3] 31 false, Og 33 (.ldn 2) [.t 4] 31 false, Og 34 (.call 39) [.t 32, .t 33] 31 false, Og 35 .mv [.t 7] 31 false, Og 36 (.beq true) [.t 34, .t 35] 31 false, Ol 37 .pick [.t 31, cb true, .t 36]]) (.cond (.t 37) (.seq (.reg [Ol 2 .mv [cb false]]) .ret) .skip)) (.seq (.seq (.reg [O1 38 .mv 6, O1 39 .mv 38, Og 40 (.ldn 4) [.t 3] 39 true, Og 41 (.ldn 2) [.t 4] 39 true, Og 42 (.ldn 2) [.t 5] 39 true, Og 43 (.call 53) [.t 40, .t 41, .t 42] 39 true, Og 44 .not [.t 43] 39 true, Ol 45 .pick [.t 39, .t 44, cb false]]) (.cond (.t 45) (.seq (.reg [Ol 2 .mv [cb false]]) .ret) .skip)) (.seq (.reg [O1 47 .mv 0, O1 48 (.call 54) 47, O1 46 .mv 48, O1 49 (.ext 0) 46, O1 50 (.ext 1) 46, O1 51 (.ext 2) 46, O0 8 (.alc [(.int .i64 0), (.int .i64 0), (.int .i64 0), .snil]), O0 9 (.alc [.snil, .snil]), O0 10 (.alc [.snil, (.int .i64 0)]), S2 (.st 4) 8 49, S2 (.st 2) 9 50, S2 (.st 2) 10 51]) (.seq (.reg [O1 52 (.ldn 4) 8, O1 53 (.ldn 2) 9, O1 54 (.ldn 2) 10, O3 55 (.call 53) 52 53 54, O1 11 .mv 55]) (.seq (.reg [O1 56 .mv 11, O1 57 (.ldn 4) 8, O1 58 (.ldn 2) 9, O1 59 (.ldn 2) 10, O3 60 (.call 55) 57 58 59, O2 61 (.beq false) 56 60, O1 62 .mv 61, Og 63 .mv [.t 11] 62 true, Og 64 .not [.t 63] 62 true, Og 65 .mv [.t 64] 62 true, Og 66 (.ldn 4) [.t 8] 65 false, Og 67 (.ldn 2) [.t 9] 65 false, Og 68 (.call 39) [.t 66, .t 67] 65 false, Og 69 .pick [.t 65, cb true, .t 68] 62 true, Ol 70 .pick [.t 62, .t 69, cb false], O1 2 .mv 70]) .ret))))))))))
theorem b_laws_FnRun : Body Try.prog 9 71 c_laws_FnRun [(.t 2)] := body_mk Try.func9 (by kernel_rfl) (by decide)
theorem sayR_takes (a : AutoD) (s l : List Int) : (TakesA a s l ∧ ∃ st b, sayR a s l = ((st, b), true) ∧ RunV a s l st b ∧ st.length ≤ 5000) ∨ (¬ TakesA a s l ∧ sayR a s l = (([], 0), false)) := by
  unfold sayR
  split
  · rename_i h
    cases hr : (runW a s l).2 with
    | false =>
      refine .inr ⟨fun hT => ?_, runW_no hr⟩
      rw [(runW_takes h.1 h.2).2 hT] at hr
      cases hr
    | true =>
      obtain ⟨b, hb, hp, hlen⟩ := runW_ok h.1 h.2 hr
      obtain ⟨_, h1, h2, _⟩ := let_ok h.2
      have h3 := h.1.1.2.1
      have hNN : (s.length + l.length) * a.states.toNat ≤ 80 * 31 := Nat.mul_le_mul (by omega) (by omega)
      refine .inl ⟨(runW_takes h.1 h.2).1 hr, (runW a s l).1.1, (runW a s l).1.2, ?_, ⟨by omega, b, hb, hp⟩, by omega⟩
      rw [← hr]
  · rename_i h
    exact .inr ⟨fun hT => h ⟨hT.1, hT.2.2.1⟩, rfl⟩
theorem snap1_first {h : Heap} {i n : Nat} {l : List Int} (hi : h i = some (.arr 1 (ints l))) (hn : n ≤ l.length) : (AV.ref i 0 n).snap1 h = .val (ints (l.take n)) := snap1_ref hi (by rw [length_ints]; omega) (by unfold sub; simp [ints, List.map_take])
theorem snap_run {h : Heap} {i n : Nat} {l : List Int} {b : Int} (hi : h i = some (.arr 1 (ints l))) (hn : n ≤ l.length) : (AV.agg [.ref i 0 n, .int .i64 b]).snap h = runA (l.take n) b := snap_agg (cells_cons (snap1_first hi hn) (cells_cons rfl rfl))
theorem snap_runF {h : Heap} {i : Nat} {l : List Int} {b : Int} (hi : h i = some (.arr 1 (ints l))) : (AV.agg [.ref i 0 l.length, .int .i64 b]).snap h = runA l b := snap_agg (cells_cons (snap1_all hi (length_ints _)) (cells_cons rfl rfl))
set_option maxRecDepth 4000 in
set_option maxHeartbeats 16000000 in
theorem s_laws_FnRun : PureSound Try.prog 9 RTrueCode := by
  have hR : Rely Try.prog (ctxOf [(35, .pure RBig), (52, .gen 0 GDrawAW), (31, .pure RRunOf), (40, .pure RTakesA), (39, .pure RTakesA), (53, .pure RRunOk), (54, .gen 0 GDrawRO), (55, .pure RRunOk)]) :=
    rely_cons b_laws_big.has s_laws_big (rely_cons b_spec_DrawRunOf.has s_spec_DrawRunOf (rely_cons b_impl_RunOf.has s_impl_RunOf (rely_cons b_spec_AutoTakes.has s_spec_AutoTakes (rely_cons b_impl_AutoTakes.has s_impl_AutoTakes (rely_cons b_impl_RunOk.has s_impl_RunOk (rely_cons b_spec_DrawRunOk.has s_spec_DrawRunOk (rely_cons b_spec_RunOk.has s_spec_RunOk (rely_nil mixed))))))))
  refine pure_of_aw b_laws_FnRun ?_
  rintro xs r objs ⟨code, rfl, rfl, rfl⟩ -
  refine ⟨by simp, vcS_sound hR [15, 47] _ _ _ _ _ ?_⟩
  conv => whnf
  repeat' ((first | (refine And.intro (fun hb => ?_) (fun hb => ?_) <;> ((try simp only [SB, reduceCtorEq] at hb); try (exfalso; omega))) | refine G2 ?_ | rw [ints_at (by omega)] | rw [ints_at0 (by omega)] | rw [ints_at' (by omega) (by omega)] | refine G1 ?_ | refine ⟨_, _, RBig_mk, ?_⟩ | fail) <;> conv => whnf)
  · refine ⟨.inl rfl, ?_⟩
    conv => whnf
    refine ⟨[], ⟨rfl, trivial⟩, ?_, rfl, rfl⟩
    conv => whnf
    left
    conv => lhs; whnf
  have h2 : code.length ≤ 1048576 := by omega
  refine Rg.split hR 2 ?_
  conv => whnf
  repeat' ((first | (refine And.intro (fun hb => ?_) (fun hb => ?_) <;> ((try simp only [SB, reduceCtorEq] at hb); try (exfalso; omega))) | refine G2 ?_ | rw [ints_at (by omega)] | rw [ints_at0 (by omega)] | rw [ints_at' (by omega) (by omega)] | refine G1 ?_ | refine ⟨GDrawAW_mk h2 (fun a s l k1 k2 k3 => ?_)⟩ | fail) <;> conv => whnf)
  refine ⟨[some 0, some 1, some 2], [(0, .val (code.map byteRow)), (2, .bool false), (16, takenR 0 a s l)], [some (.arr 4 (edgeRows a.edges)), some (.arr 1 (ints s)), some (.arr 1 (ints l))], ⟨rfl, rfl, And.intro (And.intro rfl rfl) (And.intro (And.intro rfl rfl) (And.intro (And.intro rfl rfl) trivial)), ?_⟩, ?_⟩
  · exact ⟨.inl rfl, .inl rfl, And.intro (And.intro (.inl rfl) (And.intro (.inl rfl) (And.intro (.inl rfl) (And.intro rfl trivial)))) (And.intro (And.intro rfl (And.intro rfl trivial)) trivial), trivial⟩
  rcases sayR_takes a s l with ⟨hT, st, b, he, hrv, hstl⟩ | ⟨hT, he⟩
  · conv => whnf
    repeat' ((first | contradiction | (refine And.intro (fun hb => ?_) (fun hb => ?_) <;> first | contradiction | ((try simp only [SB, reduceCtorEq] at hb); try (exfalso; first | contradiction | omega))) | refine G2 ?_ | rw [ints_at (by omega)] | rw [ints_at0 (by omega)] | rw [ints_at' (by omega) (by omega)] | refine G1 ?_ | refine ⟨_, _, RRunOf_yes he (args_cons (snap_auto rfl) (args_cons (snap_woT rfl rfl rfl rfl) rfl)), ?_⟩ | refine ⟨_, _, RTakesA_b (b := true) (args_cons (snap_auto rfl) (args_cons (snap_woT rfl rfl rfl rfl) rfl)) ⟨fun _ => hT, fun _ => rfl⟩, ?_⟩ | refine ⟨_, _, RRunOk_is (v := true) (args_cons (snap_auto rfl) (args_cons (snap_woT rfl rfl rfl rfl) (args_cons (snap_runF rfl) rfl))) (by omega) ⟨fun _ => hrv, fun _ => rfl⟩, ?_⟩ | fail) <;> conv => whnf)
    refine Rg.split hR 2 ?_
    conv => whnf
    repeat' ((first | (refine And.intro (fun hb => ?_) (fun hb => ?_) <;> ((try simp only [SB, reduceCtorEq] at hb); try (exfalso; omega))) | refine G2 ?_ | rw [ints_at (by omega)] | rw [ints_at0 (by omega)] | rw [ints_at' (by omega) (by omega)] | refine G1 ?_ | refine ⟨GDrawRO_mk h2 (fun a2 s2 l2 st2 n b2 q1 q2 q3 q4 q5 => ?_)⟩ | fail) <;> conv => whnf)
    refine ⟨[some 7, some 8, some 9, some 10], [(2, .bool false), (48, drawnR a2 s2 l2 n b2)], [some (.arr 4 (edgeRows a2.edges)), some (.arr 1 (ints s2)), some (.arr 1 (ints l2)), some (.arr 1 (ints st2))], ⟨rfl, rfl, And.intro (And.intro rfl rfl) (And.intro (And.intro rfl rfl) (And.intro (And.intro rfl rfl) (And.intro (And.intro rfl rfl) trivial))), ?_⟩, ?_⟩
    · exact ⟨.inl rfl, And.intro (And.intro (.inl rfl) (And.intro (.inl rfl) (And.intro (.inl rfl) (And.intro rfl trivial)))) (And.intro (And.intro rfl (And.intro rfl trivial)) (And.intro (And.intro rfl (And.intro (.inl rfl) trivial)) trivial)), trivial⟩
    have htl : (st2.take n).length ≤ 1000000 := by rw [List.length_take]; omega
    by_cases hv : RunV a2 s2 l2 (st2.take n) b2
    · have hT2 : TakesA a2 s2 l2 := by
        obtain ⟨_, bn, _, hp⟩ := hv
        exact runP_takes hp
      conv => whnf
      repeat' ((first | contradiction | (refine And.intro (fun hb => ?_) (fun hb => ?_) <;> first | contradiction | ((try simp only [SB, reduceCtorEq] at hb); try (exfalso; first | contradiction | omega))) | refine G2 ?_ | rw [ints_at (by omega)] | rw [ints_at0 (by omega)] | rw [ints_at' (by omega) (by omega)] | refine G1 ?_ | refine ⟨_, _, RTakesA_b (b := true) (args_cons (snap_auto rfl) (args_cons (snap_woT rfl rfl rfl rfl) rfl)) ⟨fun _ => hT2, fun _ => rfl⟩, ?_⟩ | refine ⟨_, _, RRunOk_is (v := true) (args_cons (snap_auto rfl) (args_cons (snap_woT rfl rfl rfl rfl) (args_cons (snap_run rfl q5) rfl))) htl ⟨fun _ => hv, fun _ => rfl⟩, ?_⟩ | fail) <;> conv => whnf)
      refine ⟨.inl rfl, ?_⟩
      conv => whnf
      refine ⟨[], ⟨rfl, trivial⟩, ?_, rfl, rfl⟩
      conv => whnf
      left
      conv => lhs; whnf
    · conv => whnf
      repeat' ((first | contradiction | (refine And.intro (fun hb => ?_) (fun hb => ?_) <;> first | contradiction | ((try simp only [SB, reduceCtorEq] at hb); try (exfalso; first | contradiction | omega))) | refine G2 ?_ | rw [ints_at (by omega)] | rw [ints_at0 (by omega)] | rw [ints_at' (by omega) (by omega)] | refine G1 ?_ | refine ⟨_, _, RRunOk_is (v := false) (args_cons (snap_auto rfl) (args_cons (snap_woT rfl rfl rfl rfl) (args_cons (snap_run rfl q5) rfl))) htl ⟨fun h => (by cases h), fun h => absurd h hv⟩, ?_⟩ | fail) <;> conv => whnf)
      refine ⟨.inl rfl, ?_⟩
      conv => whnf
      refine ⟨[], ⟨rfl, trivial⟩, ?_, rfl, rfl⟩
      conv => whnf
      left
      conv => lhs; whnf
  · conv => whnf
    repeat' ((first | contradiction | (refine And.intro (fun hb => ?_) (fun hb => ?_) <;> first | contradiction | ((try simp only [SB, reduceCtorEq] at hb); try (exfalso; first | contradiction | omega))) | refine G2 ?_ | rw [ints_at (by omega)] | rw [ints_at0 (by omega)] | rw [ints_at' (by omega) (by omega)] | refine G1 ?_ | refine ⟨_, _, RRunOf_no he (args_cons (snap_auto rfl) (args_cons (snap_woT rfl rfl rfl rfl) rfl)), ?_⟩ | refine ⟨_, _, RTakesA_b (b := false) (args_cons (snap_auto rfl) (args_cons (snap_woT rfl rfl rfl rfl) rfl)) ⟨fun h => (by cases h), fun h => absurd h hT⟩, ?_⟩ | fail) <;> conv => whnf)
    refine Rg.split hR 2 ?_
    conv => whnf
    repeat' ((first | (refine And.intro (fun hb => ?_) (fun hb => ?_) <;> ((try simp only [SB, reduceCtorEq] at hb); try (exfalso; omega))) | refine G2 ?_ | rw [ints_at (by omega)] | rw [ints_at0 (by omega)] | rw [ints_at' (by omega) (by omega)] | refine G1 ?_ | refine ⟨GDrawRO_mk h2 (fun a2 s2 l2 st2 n b2 q1 q2 q3 q4 q5 => ?_)⟩ | fail) <;> conv => whnf)
    refine ⟨[some 7, some 8, some 9, some 10], [(2, .bool false), (48, drawnR a2 s2 l2 n b2)], [some (.arr 4 (edgeRows a2.edges)), some (.arr 1 (ints s2)), some (.arr 1 (ints l2)), some (.arr 1 (ints st2))], ⟨rfl, rfl, And.intro (And.intro rfl rfl) (And.intro (And.intro rfl rfl) (And.intro (And.intro rfl rfl) (And.intro (And.intro rfl rfl) trivial))), ?_⟩, ?_⟩
    · exact ⟨.inl rfl, And.intro (And.intro (.inl rfl) (And.intro (.inl rfl) (And.intro (.inl rfl) (And.intro rfl trivial)))) (And.intro (And.intro rfl (And.intro rfl trivial)) (And.intro (And.intro rfl (And.intro (.inl rfl) trivial)) trivial)), trivial⟩
    have htl : (st2.take n).length ≤ 1000000 := by rw [List.length_take]; omega
    by_cases hv : RunV a2 s2 l2 (st2.take n) b2
    · have hT2 : TakesA a2 s2 l2 := by
        obtain ⟨_, bn, _, hp⟩ := hv
        exact runP_takes hp
      conv => whnf
      repeat' ((first | contradiction | (refine And.intro (fun hb => ?_) (fun hb => ?_) <;> first | contradiction | ((try simp only [SB, reduceCtorEq] at hb); try (exfalso; first | contradiction | omega))) | refine G2 ?_ | rw [ints_at (by omega)] | rw [ints_at0 (by omega)] | rw [ints_at' (by omega) (by omega)] | refine G1 ?_ | refine ⟨_, _, RTakesA_b (b := true) (args_cons (snap_auto rfl) (args_cons (snap_woT rfl rfl rfl rfl) rfl)) ⟨fun _ => hT2, fun _ => rfl⟩, ?_⟩ | refine ⟨_, _, RRunOk_is (v := true) (args_cons (snap_auto rfl) (args_cons (snap_woT rfl rfl rfl rfl) (args_cons (snap_run rfl q5) rfl))) htl ⟨fun _ => hv, fun _ => rfl⟩, ?_⟩ | fail) <;> conv => whnf)
      refine ⟨.inl rfl, ?_⟩
      conv => whnf
      refine ⟨[], ⟨rfl, trivial⟩, ?_, rfl, rfl⟩
      conv => whnf
      left
      conv => lhs; whnf
    · conv => whnf
      repeat' ((first | contradiction | (refine And.intro (fun hb => ?_) (fun hb => ?_) <;> first | contradiction | ((try simp only [SB, reduceCtorEq] at hb); try (exfalso; first | contradiction | omega))) | refine G2 ?_ | rw [ints_at (by omega)] | rw [ints_at0 (by omega)] | rw [ints_at' (by omega) (by omega)] | refine G1 ?_ | refine ⟨_, _, RRunOk_is (v := false) (args_cons (snap_auto rfl) (args_cons (snap_woT rfl rfl rfl rfl) (args_cons (snap_run rfl q5) rfl))) htl ⟨fun h => (by cases h), fun h => absurd h hv⟩, ?_⟩ | fail) <;> conv => whnf)
      refine ⟨.inl rfl, ?_⟩
      conv => whnf
      refine ⟨[], ⟨rfl, trivial⟩, ?_, rfl, rfl⟩
      conv => whnf
      left
      conv => lhs; whnf
end Go.Proofs.Ythanhknkoikbfaa.Ct
