/- Part 6 of the proof of FnExactHoaWriteCardSaid: CtE8 to CtLawHoa. Conditions: none. -/
import Derived.Test.YthanhknkoikbfaaDoorT5
import Derived.Test.YthanhknkoikbfaaDoorT4
set_option linter.unusedSimpArgs false
set_option linter.unusedVariables false
namespace Go.Proofs.YthanhknkoikbfaaDoor.Ct
open Go Go.Proofs Go.Proofs.YthanhknkoikbfaaDoor.Av Go.Proofs.YthanhknkoikbfaaDoor.Pl
def c_impl_propsOf : ICode := (.seq (.reg [Ol 2 .mv [ci 0]]) (.seq (.seq (.reg [Ol 4 .mv [ci 0]]) (.block 0 (.loop (.seq (.reg [Ol 5 (.bin .lss) [.t 4, ci 4]]) (.seq (.cond (.t 5) .skip (.exit 0)) (.seq (.block 1 (.seq (.reg [O1 6 .mv 4, O1 3 .mv 6]) (.seq (.reg [O1 7 .mv 3, O1 8 (.call 37) 7, O1 9 .mv 0, O2 10 (.bin .eql) 8 9]) (.cond (.t 10) (.seq (.reg [O1 11 .mv 3, O1 2 .mv 11]) .ret) .skip)))) (.reg [Ol 12 (.bin .add) [.t 4, ci 1], O1 4 .mv 12]))))))) (.seq (.reg [Ol 2 .mv [ci (-1)]]) .ret)))
theorem b_impl_propsOf : Body Tryd.prog 19 13 c_impl_propsOf [(.t 2)] := body_mk Tryd.func19 (by kernel_rfl) (by decide)
def c_spec_l15Power : ICode := (.seq (.reg [Ol 2 .mv [ci 0]]) (.seq (.seq (.reg [Ol 3 .mv [ci 0]]) (.block 0 (.loop (.seq (.seq (.reg [O1 4 .mv 3, Ol 5 (.bin .leq) [.t 4, ci 3]]) (.cond (.t 5) .skip (.exit 0))) (.seq (.block 1 (.seq (.reg [O1 8 .mv 0, O1 9 .mv 3, Ol 10 (.bin .shl) [ci 1, .t 9], O2 11 (.bin .eql) 8 10]) (.cond (.t 11) (.seq (.reg [O1 12 .mv 3, O1 2 .mv 12]) .ret) .skip))) (.reg [O1 6 .mv 3, Ol 7 (.bin .add) [.t 6, ci 1], O1 3 .mv 7])))))) (.seq (.reg [Ol 2 .mv [ci (-1)]]) .ret)))
theorem b_spec_l15Power : Body Tryd.prog 10 13 c_spec_l15Power [(.t 2)] := body_mk Tryd.func10 (by kernel_rfl) (by decide)
def c_impl_apText : ICode := (.seq (.reg [Ol 2 .mv [.c (.str [])]]) (.seq (.reg [O1 5 .mv 0, O1 6 (.call 21) 5, Ol 7 (.bin .add) [.c (.str [65, 80, 58, 32]), .t 6], O1 3 .mv 7]) (.seq (.seq (.reg [O1 8 .mv 0, Ol 9 .mv [ci 0]]) (.block 0 (.loop (.seq (.reg [O2 10 (.bin .lss) 9 8]) (.seq (.cond (.t 10) .skip (.exit 0)) (.seq (.block 1 (.seq (.reg [O1 11 .mv 9, O1 4 .mv 11]) (.reg [O1 12 .mv 3, O1 13 .mv 4, O1 14 (.call 21) 13, Ol 15 (.bin .add) [.c (.str [32, 34, 112]), .t 14], Ol 16 (.bin .add) [.t 15, .c (.str [34])], O2 17 (.bin .add) 12 16, O1 3 .mv 17]))) (.reg [Ol 18 (.bin .add) [.t 9, ci 1], O1 9 .mv 18]))))))) (.seq (.reg [O1 19 .mv 3, O1 2 .mv 19]) .ret))))
theorem b_impl_apText : Body Tryd.prog 23 20 c_impl_apText [(.t 2)] := body_mk Tryd.func23 (by kernel_rfl) (by decide)
def c_spec_l15Names : ICode := (.seq (.reg [Ol 2 .mv [.c (.str [])]]) (.seq (.reg [O1 5 .mv 0, O1 6 (.call 31) 5, Ol 7 (.bin .add) [.c (.str [65, 80, 58, 32]), .t 6], O1 3 .mv 7]) (.seq (.seq (.reg [Ol 4 .mv [ci 0]]) (.block 0 (.loop (.seq (.seq (.reg [O1 8 .mv 4, O1 9 .mv 0, O2 10 (.bin .lss) 8 9]) (.cond (.t 10) .skip (.exit 0))) (.seq (.block 1 (.reg [O1 13 .mv 3, Ol 14 (.bin .add) [.t 13, .c (.str [32, 34, 112])], O1 15 .mv 4, O1 16 (.call 31) 15, O2 17 (.bin .add) 14 16, Ol 18 (.bin .add) [.t 17, .c (.str [34])], O1 3 .mv 18])) (.reg [O1 11 .mv 4, Ol 12 (.bin .add) [.t 11, ci 1], O1 4 .mv 12])))))) (.seq (.reg [O1 19 .mv 3, O1 2 .mv 19]) .ret))))
theorem b_spec_l15Names : Body Tryd.prog 14 20 c_spec_l15Names [(.t 2)] := body_mk Tryd.func14 (by kernel_rfl) (by decide)
def c_impl_edgeText : ICode := (.seq (.reg [O1 2 (.box 4) 0, Ol 4 .mv [.c (.str [])]]) (.seq (.reg [O1 9 (.fadr 1) 2, O1 10 .ld1 9, O1 11 (.call 37) 10, O1 12 .mv 1, O2 13 (.call 44) 11 12, O1 8 .mv 13, O1 14 (.ext 0) 8, O1 15 (.ext 1) 8, O1 5 .mv 14, O1 6 .mv 15]) (.seq (.drw [O1 16 .mv 5, O1 17 (.call 45) 16, Ol 18 (.bin .add) [.c (.str [91]), .t 17], Ol 19 (.bin .add) [.t 18, .c (.str [93, 32])], O1 20 (.fadr 2) 2, O1 21 .ld1 20, O1 22 (.call 21) 21, O2 23 (.bin .add) 19 22, O1 7 .mv 23] (unB [0, 1, 3, 7, 0, 16, 51, 127, 255] 0) true true) (.seq (.seq (.reg [O1 24 (.fadr 3) 2, O1 25 .ld1 24]) (.cond (.t 25) (.reg [O1 26 .mv 7, Ol 27 (.bin .add) [.t 26, .c (.str [32, 123, 48, 125])], O1 7 .mv 27]) .skip)) (.seq (.reg [O1 28 .mv 7, O1 4 .mv 28]) .ret)))))
theorem b_impl_edgeText : Body Tryd.prog 24 29 c_impl_edgeText [(.t 4)] := body_mk Tryd.func24 (by kernel_rfl) (by decide)
def powI (n : Int) : Int := if n = 1 then 0 else if n = 2 then 1 else if n = 4 then 2 else if n = 8 then 3 else -1
theorem pow_yes {i : Nat} (h : i < 4) : powI ((2 ^ i : Nat) : Int) = ((i : Nat) : Int) := by
  have : ∀ i : Nat, i < 4 → powI ((2 ^ i : Nat) : Int) = ((i : Nat) : Int) := by decide
  exact this i h
theorem pow_none {n : Int} (h : ∀ j, j < 4 → n ≠ ((2 ^ j : Nat) : Int)) : powI n = -1 := by
  have h0 := h 0 (by decide)
  have h1 := h 1 (by decide)
  have h2 := h 2 (by decide)
  have h3 := h 3 (by decide)
  unfold powI
  simp_all
def RPow (xs : List AV) (r : AV) (objs : List AObj) : Prop := ∃ n : Int, xs = [.int .i64 n] ∧ r = .int .i64 (powI n) ∧ objs = []
theorem RPow_is {n k : Int} (h : powI n = k) : RPow [.int .i64 n] (.int .i64 k) [] := ⟨n, rfl, by rw [h], rfl⟩
set_option maxHeartbeats 1000000 in
theorem s_impl_propsOf : PureSound Tryd.prog 19 RPow := by
  have hR : Rely Tryd.prog (ctxOf [(37, .pure RBit)]) := rely_cons b_impl_only.has s_impl_onlyB (rely_nil mixed)
  refine pure_of_aw b_impl_propsOf ?_
  rintro xs r objs ⟨n, rfl, rfl, rfl⟩ -
  refine ⟨by simp, vc2_sound hR _ _ _ _ _ ?_⟩
  conv => whnf
  repeat' ((first | (refine And.intro (fun hb => ?_) (fun hb => ?_) <;> ((try simp only [SB, reduceCtorEq] at hb); try (exfalso; omega))) | refine G2 ?_ | rw [ints_at (by omega)] | rw [ints_at0 (by omega)] | rw [ints_at' (by omega) (by omega)] | refine G1 ?_ | fail) <;> conv => whnf)
  refine Lp.intro (α := Nat) (fun i => i ≤ 4 ∧ ∀ j, j < i → n ≠ ((2 ^ j : Nat) : Int)) (fun i => 4 - i) (fun i => [(0, .int .i64 n), (4, .int .i64 ((i : Nat) : Int))]) (fun _ => []) ?_ ?_
  · refine ⟨0, ⟨Nat.zero_le _, fun j h => absurd h (Nat.not_lt_zero _)⟩, [], rfl, rfl, trivial, ?_⟩
    exact ⟨.inl rfl, .inl rfl, trivial⟩
  rintro i ⟨hi, hno⟩
  refine vc2_sound hR _ _ _ _ _ ?_
  by_cases hlt : i < 4
  · have hpw := pow_yes hlt
    obtain ⟨P, hP⟩ : ∃ P, P = 2 ^ i := ⟨_, rfl⟩
    rw [← hP] at hpw
    conv => whnf
    repeat' ((first | contradiction | (refine And.intro (fun hb => ?_) (fun hb => ?_) <;> first | contradiction | ((try simp only [SB, reduceCtorEq] at hb); try (exfalso; first | contradiction | omega))) | refine G2 ?_ | rw [ints_at (by omega)] | rw [ints_at0 (by omega)] | rw [ints_at' (by omega) (by omega)] | refine G1 ?_ | refine ⟨_, _, RBit_v (i := i) (v := P) (by omega) hP, ?_⟩ | fail) <;> conv => whnf)
    · have : n = ((P : Nat) : Int) := by first | assumption | (symm; assumption) | omega
      subst this
      rw [hpw]
      refine ⟨.inl rfl, ?_⟩
      conv => whnf
      refine ⟨[], ⟨rfl, trivial⟩, ?_, rfl, rfl⟩
      conv => whnf
      left
      conv => lhs; whnf
    · refine ⟨i + 1, ⟨hlt, fun j hj => ?_⟩, by omega, [], rfl, rfl, trivial, ?_⟩
      · by_cases hji : j = i
        · subst hji; rw [← hP]; omega
        · exact hno j (by omega)
      · exact ⟨.inl rfl, .inl rfl, trivial⟩
  · obtain rfl : i = 4 := by omega
    rw [pow_none hno]
    conv => whnf
    repeat' ((first | contradiction | (refine And.intro (fun hb => ?_) (fun hb => ?_) <;> first | contradiction | ((try simp only [SB, reduceCtorEq] at hb); try (exfalso; first | contradiction | omega))) | refine G2 ?_ | rw [ints_at (by omega)] | rw [ints_at0 (by omega)] | rw [ints_at' (by omega) (by omega)] | refine G1 ?_ | fail) <;> conv => whnf)
    refine ⟨.inl rfl, ?_⟩
    conv => whnf
    refine ⟨[], ⟨rfl, trivial⟩, ?_, rfl, rfl⟩
    conv => whnf
    left
    conv => lhs; whnf
set_option maxHeartbeats 1000000 in
theorem s_spec_l15Power : PureSound Tryd.prog 10 RPow := by
  have hR : Rely Tryd.prog (ctxOf []) := rely_nil mixed
  refine pure_of_aw b_spec_l15Power ?_
  rintro xs r objs ⟨n, rfl, rfl, rfl⟩ -
  refine ⟨by simp, vc2_sound hR _ _ _ _ _ ?_⟩
  conv => whnf
  repeat' ((first | (refine And.intro (fun hb => ?_) (fun hb => ?_) <;> ((try simp only [SB, reduceCtorEq] at hb); try (exfalso; omega))) | refine G2 ?_ | rw [ints_at (by omega)] | rw [ints_at0 (by omega)] | rw [ints_at' (by omega) (by omega)] | refine G1 ?_ | fail) <;> conv => whnf)
  refine Lp.intro (α := Nat) (fun i => i ≤ 4 ∧ ∀ j, j < i → n ≠ ((2 ^ j : Nat) : Int)) (fun i => 4 - i) (fun i => [(0, .int .i64 n), (3, .int .i64 ((i : Nat) : Int))]) (fun _ => []) ?_ ?_
  · refine ⟨0, ⟨Nat.zero_le _, fun j h => absurd h (Nat.not_lt_zero _)⟩, [], rfl, rfl, trivial, ?_⟩
    exact ⟨.inl rfl, .inl rfl, trivial⟩
  rintro i ⟨hi, hno⟩
  refine vc2_sound hR _ _ _ _ _ ?_
  by_cases hlt : i < 4
  · have hpw := pow_yes hlt
    obtain ⟨P, hP⟩ : ∃ P, P = 2 ^ i := ⟨_, rfl⟩
    rw [← hP] at hpw
    have e5 := shl1 (by omega) hP
    conv => whnf
    repeat' ((first | contradiction | (refine And.intro (fun hb => ?_) (fun hb => ?_) <;> first | contradiction | ((try simp only [SB, reduceCtorEq] at hb); try (exfalso; first | contradiction | omega))) | rw [e5] | refine G2 ?_ | rw [ints_at (by omega)] | rw [ints_at0 (by omega)] | rw [ints_at' (by omega) (by omega)] | refine G1 ?_ | fail) <;> conv => whnf)
    · have : n = ((P : Nat) : Int) := by first | assumption | (symm; assumption) | omega
      subst this
      rw [hpw]
      refine ⟨.inl rfl, ?_⟩
      conv => whnf
      refine ⟨[], ⟨rfl, trivial⟩, ?_, rfl, rfl⟩
      conv => whnf
      left
      conv => lhs; whnf
    · refine ⟨i + 1, ⟨hlt, fun j hj => ?_⟩, by omega, [], rfl, rfl, trivial, ?_⟩
      · by_cases hji : j = i
        · subst hji; rw [← hP]; omega
        · exact hno j (by omega)
      · exact ⟨.inl rfl, .inl rfl, trivial⟩
  · obtain rfl : i = 4 := by omega
    rw [pow_none hno]
    conv => whnf
    repeat' ((first | contradiction | (refine And.intro (fun hb => ?_) (fun hb => ?_) <;> first | contradiction | ((try simp only [SB, reduceCtorEq] at hb); try (exfalso; first | contradiction | omega))) | refine G2 ?_ | rw [ints_at (by omega)] | rw [ints_at0 (by omega)] | rw [ints_at' (by omega) (by omega)] | refine G1 ?_ | fail) <;> conv => whnf)
    refine ⟨.inl rfl, ?_⟩
    conv => whnf
    refine ⟨[], ⟨rfl, trivial⟩, ?_, rfl, rfl⟩
    conv => whnf
    left
    conv => lhs; whnf
def apT (k : Nat) : Nat → List UInt8
  | 0 => [65, 80, 58, 32] ++ [digitB ((k : Nat) : Int)]
  | i + 1 => apT k i ++ [32, 34, 112] ++ [digitB ((i : Nat) : Int)] ++ [34]
theorem apT_len (k : Nat) : ∀ i, (apT k i).length = 5 + 5 * i
  | 0 => rfl
  | i + 1 => by simp only [apT, List.length_append, List.length_cons, List.length_nil, apT_len k i]; omega
theorem num_digit {i : Nat} (h : i < 10) : numS i = [digitB ((i : Nat) : Int)] := by unfold numS; rw [if_pos h]
def RAp (xs : List AV) (r : AV) (objs : List AObj) : Prop := ∃ k : Nat, xs = [.int .i64 ((k : Nat) : Int)] ∧ k ≤ 3 ∧ r = .str (apT k k) ∧ objs = []
theorem RAp_mk {k : Nat} (h : k ≤ 3) : RAp [.int .i64 ((k : Nat) : Int)] (.str (apT k k)) [] := ⟨k, rfl, h, rfl, rfl⟩
theorem RNum_d {i : Nat} (h : i < 10) : RNum 100 [.int .i64 ((i : Nat) : Int)] (.str [digitB ((i : Nat) : Int)]) [] := ⟨i, rfl, by omega, by rw [num_digit h], rfl⟩
set_option maxHeartbeats 1000000 in
theorem s_impl_apText : PureSound Tryd.prog 23 RAp := by
  have hR : Rely Tryd.prog (ctxOf [(21, .pure (RNum 100))]) := rely_cons hasItoa s_Itoa (rely_nil mixed)
  refine pure_of_aw b_impl_apText ?_
  rintro xs r objs ⟨k, rfl, hk, rfl, rfl⟩ -
  refine ⟨by simp, vc2_sound hR _ _ _ _ _ ?_⟩
  conv => whnf
  repeat' ((first | (refine And.intro (fun hb => ?_) (fun hb => ?_) <;> ((try simp only [SB, reduceCtorEq] at hb); try (exfalso; omega))) | refine G2 ?_ | rw [ints_at (by omega)] | rw [ints_at0 (by omega)] | rw [ints_at' (by omega) (by omega)] | refine G1 ?_ | refine ⟨_, _, RNum_d (i := k) (by omega), ?_⟩ | (refine And.intro (by simp only [List.length_append, List.length_cons, List.length_nil]; omega) ?_) | fail) <;> conv => whnf)
  refine Lp.intro (α := Nat) (fun i => i ≤ k) (fun i => k - i) (fun i => [(3, .str (apT k i)), (8, .int .i64 ((k : Nat) : Int)), (9, .int .i64 ((i : Nat) : Int))]) (fun _ => []) ?_ ?_
  · refine ⟨0, Nat.zero_le _, [], rfl, rfl, trivial, ?_⟩
    exact ⟨.inl rfl, .inl rfl, .inl rfl, trivial⟩
  intro i hi
  have hl := apT_len k i
  refine vc2_sound hR _ _ _ _ _ ?_
  by_cases hlt : i < k
  · conv => whnf
    repeat' ((first | contradiction | (refine And.intro (fun hb => ?_) (fun hb => ?_) <;> first | contradiction | ((try simp only [SB, reduceCtorEq] at hb); try (exfalso; first | contradiction | omega))) | refine G2 ?_ | rw [ints_at (by omega)] | rw [ints_at0 (by omega)] | rw [ints_at' (by omega) (by omega)] | refine G1 ?_ | refine ⟨_, _, RNum_d (i := i) (by omega), ?_⟩ | (refine And.intro (by simp only [List.length_append, List.length_cons, List.length_nil]; omega) ?_) | fail) <;> conv => whnf)
    refine ⟨i + 1, hlt, by omega, [], rfl, rfl, trivial, ?_⟩
    refine ⟨.inl (congrArg AV.str ?_), .inl rfl, .inl rfl, trivial⟩
    simp [apT]
  · obtain rfl : i = k := by omega
    conv => whnf
    repeat' ((first | contradiction | (refine And.intro (fun hb => ?_) (fun hb => ?_) <;> first | contradiction | ((try simp only [SB, reduceCtorEq] at hb); try (exfalso; first | contradiction | omega))) | refine G2 ?_ | rw [ints_at (by omega)] | rw [ints_at0 (by omega)] | rw [ints_at' (by omega) (by omega)] | refine G1 ?_ | fail) <;> conv => whnf)
    refine ⟨.inl rfl, ?_⟩
    conv => whnf
    refine ⟨[], ⟨rfl, trivial⟩, ?_, rfl, rfl⟩
    conv => whnf
    left
    conv => lhs; whnf
set_option maxHeartbeats 1000000 in
theorem s_spec_l15Names : PureSound Tryd.prog 14 RAp := by
  have hR : Rely Tryd.prog (ctxOf [(31, .pure RDigit)]) := rely_cons b_spec_l2Digit.has s_spec_l2Digit (rely_nil mixed)
  refine pure_of_aw b_spec_l15Names ?_
  rintro xs r objs ⟨k, rfl, hk, rfl, rfl⟩ -
  refine ⟨by simp, vc2_sound hR _ _ _ _ _ ?_⟩
  conv => whnf
  repeat' ((first | (refine And.intro (fun hb => ?_) (fun hb => ?_) <;> ((try simp only [SB, reduceCtorEq] at hb); try (exfalso; omega))) | refine G2 ?_ | rw [ints_at (by omega)] | rw [ints_at0 (by omega)] | rw [ints_at' (by omega) (by omega)] | refine G1 ?_ | refine ⟨_, _, RDigit_mk (n := ((k : Nat) : Int)) (by omega) (by omega), ?_⟩ | (refine And.intro (by simp only [List.length_append, List.length_cons, List.length_nil]; omega) ?_) | fail) <;> conv => whnf)
  refine Lp.intro (α := Nat) (fun i => i ≤ k) (fun i => k - i) (fun i => [(0, .int .i64 ((k : Nat) : Int)), (3, .str (apT k i)), (4, .int .i64 ((i : Nat) : Int))]) (fun _ => []) ?_ ?_
  · refine ⟨0, Nat.zero_le _, [], rfl, rfl, trivial, ?_⟩
    exact ⟨.inl rfl, .inl rfl, .inl rfl, trivial⟩
  intro i hi
  have hl := apT_len k i
  refine vc2_sound hR _ _ _ _ _ ?_
  by_cases hlt : i < k
  · conv => whnf
    repeat' ((first | contradiction | (refine And.intro (fun hb => ?_) (fun hb => ?_) <;> first | contradiction | ((try simp only [SB, reduceCtorEq] at hb); try (exfalso; first | contradiction | omega))) | refine G2 ?_ | rw [ints_at (by omega)] | rw [ints_at0 (by omega)] | rw [ints_at' (by omega) (by omega)] | refine G1 ?_ | refine ⟨_, _, RDigit_mk (n := ((i : Nat) : Int)) (by omega) (by omega), ?_⟩ | (refine And.intro (by simp only [List.length_append, List.length_cons, List.length_nil]; omega) ?_) | fail) <;> conv => whnf)
    refine ⟨i + 1, hlt, by omega, [], rfl, rfl, trivial, ?_⟩
    exact ⟨.inl rfl, .inl rfl, .inl rfl, trivial⟩
  · obtain rfl : i = k := by omega
    conv => whnf
    repeat' ((first | contradiction | (refine And.intro (fun hb => ?_) (fun hb => ?_) <;> first | contradiction | ((try simp only [SB, reduceCtorEq] at hb); try (exfalso; first | contradiction | omega))) | refine G2 ?_ | rw [ints_at (by omega)] | rw [ints_at0 (by omega)] | rw [ints_at' (by omega) (by omega)] | refine G1 ?_ | fail) <;> conv => whnf)
    refine ⟨.inl rfl, ?_⟩
    conv => whnf
    refine ⟨[], ⟨rfl, trivial⟩, ?_, rfl, rfl⟩
    conv => whnf
    left
    conv => lhs; whnf
def edT (e : EdgeD) (p : Nat) : List UInt8 := ((([91] ++ labT e.letter.toNat p) ++ [93, 32]) ++ numS e.dst.toNat) ++ (if e.mark = true then [32, 123, 48, 125] else [])
theorem edT_len {e : EdgeD} {p : Nat} (hp : p ≤ 3) (hx : e.letter.toNat < 2 ^ p) : (edT e p).length ≤ 120 := by
  have h1 := labT_len p hp _ hx
  have h2 := numS_len e.dst.toNat
  unfold edT
  split <;> simp only [List.length_append, List.length_cons, List.length_nil] <;> omega
def REdT (xs : List AV) (r : AV) (objs : List AObj) : Prop := ∃ (e : EdgeD) (p : Nat), xs = [.agg (edgeRow e), .int .i64 ((p : Nat) : Int)] ∧ p ≤ 3 ∧ (0 ≤ e.letter ∧ e.letter.toNat < 2 ^ p) ∧ (0 ≤ e.dst ∧ e.dst ≤ 30) ∧ r = .str (edT e p) ∧ objs = []
theorem REdT_is {xs : List AV} {e : EdgeD} {p : Nat} (hx : xs = [.agg (edgeRow e), .int .i64 ((p : Nat) : Int)]) (hp : p ≤ 3) (h1 : 0 ≤ e.letter ∧ e.letter.toNat < 2 ^ p) (h2 : 0 ≤ e.dst ∧ e.dst ≤ 30) : REdT xs (.str (edT e p)) [] := ⟨e, p, hx, hp, h1, h2, rfl, rfl⟩
set_option maxHeartbeats 1000000 in
theorem s_impl_edgeText : PureSound Tryd.prog 24 REdT := by
  have hR : Rely Tryd.prog (ctxOf [(37, .pure RBit), (44, .pure RLab), (45, .pure RPrintE), (21, .pure (RNum 100))]) :=
    rely_cons b_impl_only.has s_impl_onlyB (rely_cons b_impl_ExprOf.has s_impl_ExprOf (rely_cons b_impl_ExprPrint.has s_impl_ExprPrint (rely_cons hasItoa s_Itoa (rely_nil mixed))))
  refine pure_of_aw b_impl_edgeText ?_
  rintro xs r objs ⟨⟨src, letter, dst, good⟩, p, rfl, hp, ⟨hl0, hlp⟩, ⟨hd0, hd1⟩, rfl, rfl⟩ -
  dsimp only at hl0 hlp hd0 hd1
  obtain ⟨x, rfl⟩ : ∃ x : Nat, letter = ((x : Nat) : Int) := ⟨letter.toNat, by omega⟩
  obtain ⟨d, rfl⟩ : ∃ d : Nat, dst = ((d : Nat) : Int) := ⟨dst.toNat, by omega⟩
  rw [Int.toNat_natCast] at hlp
  have g1 := lab_good p hp x hlp
  have g2 := lab_tree p hp x hlp
  have g3 := lab_ok p hp x hlp
  have g4 := labT_len p hp x hlp
  have hE : edT ⟨src, x, d, good⟩ p = ((([91] ++ labT x p) ++ [93, 32]) ++ numS d) ++ (if good = true then [32, 123, 48, 125] else []) := rfl
  rw [hE]
  unfold labT at g4 ⊢
  have hnl := numS_len d
  have hln := length_nodeRows (labN x p)
  have hX : RBit [.int .i64 ((x : Nat) : Int)] (.int .i64 ((2 ^ x : Nat) : Int)) [] := RBit_v (by have := setP p hp x hlp; omega) rfl
  have hL := fun xs h => RLab_is (xs := xs) (x := x) (p := p) h hp hlp
  obtain ⟨X, hXe⟩ : ∃ X, X = 2 ^ x := ⟨_, rfl⟩
  rw [← hXe] at hX hL
  generalize labN x p = l at *
  have hP : ∀ xs, xs = [.val (nodeRows l)] → RPrintE xs (.str (tx l (l.length - 1))) [] := fun xs h => RPrintE_eq h g1 g2 g3
  generalize tx l (l.length - 1) = t at *
  have hN : ∀ xs, xs = [.int .i64 ((d : Nat) : Int)] → RNum 100 xs (.str (numS d)) [] := fun xs h => RNum_is h (by omega)
  generalize numS d = nd at *
  refine ⟨by simp, vc2_sound hR _ _ _ _ _ ?_⟩
  cases good with
  | true =>
    conv => whnf
    repeat' ((first | contradiction | (refine And.intro (fun hb => ?_) (fun hb => ?_) <;> first | contradiction | ((try simp only [SB, reduceCtorEq] at hb); try (exfalso; first | contradiction | omega))) | refine G2 ?_ | rw [ints_at (by omega)] | rw [ints_at0 (by omega)] | rw [ints_at' (by omega) (by omega)] | refine G1 ?_ | refine ⟨_, _, hX, ?_⟩ | refine ⟨_, _, hL _ rfl, ?_⟩ | refine ⟨_, _, hP _ (args_cons (snap_all rfl (length_nodeRows l)) rfl), ?_⟩ | refine ⟨_, _, hN _ rfl, ?_⟩ | (refine And.intro (by simp only [List.length_append, List.length_cons, List.length_nil]; omega) ?_) | fail) <;> conv => whnf)
    refine ⟨.inl rfl, ?_⟩
    conv => whnf
    refine ⟨[], ⟨rfl, trivial⟩, ?_, rfl, rfl⟩
    conv => whnf
    left
    conv => lhs; whnf
    rfl
  | false =>
    conv => whnf
    repeat' ((first | contradiction | (refine And.intro (fun hb => ?_) (fun hb => ?_) <;> first | contradiction | ((try simp only [SB, reduceCtorEq] at hb); try (exfalso; first | contradiction | omega))) | refine G2 ?_ | rw [ints_at (by omega)] | rw [ints_at0 (by omega)] | rw [ints_at' (by omega) (by omega)] | refine G1 ?_ | refine ⟨_, _, hX, ?_⟩ | refine ⟨_, _, hL _ rfl, ?_⟩ | refine ⟨_, _, hP _ (args_cons (snap_all rfl (length_nodeRows l)) rfl), ?_⟩ | refine ⟨_, _, hN _ rfl, ?_⟩ | (refine And.intro (by simp only [List.length_append, List.length_cons, List.length_nil]; omega) ?_) | fail) <;> conv => whnf)
    refine ⟨.inl rfl, ?_⟩
    conv => whnf
    refine ⟨[], ⟨rfl, trivial⟩, ?_, rfl, rfl⟩
    conv => whnf
    left
    conv => lhs; whnf
    simp
def stL (s : Nat) : List UInt8 := [83, 116, 97, 114, 116, 58, 32] ++ numS s
def sttL (s : Nat) : List UInt8 := [83, 116, 97, 116, 101, 58, 32] ++ numS s
def hdL (S : Nat) : List (List UInt8) := [[72, 79, 65, 58, 32, 118, 49], [83, 116, 97, 116, 101, 115, 58, 32] ++ numS S]
def midL (p : Nat) : List (List UInt8) := [apT p p, [97, 99, 99, 45, 110, 97, 109, 101, 58, 32, 66, 117, 99, 104, 105], [65, 99, 99, 101, 112, 116, 97, 110, 99, 101, 58, 32, 49, 32, 73, 110, 102, 40, 48, 41], [45, 45, 66, 79, 68, 89, 45, 45]]
def edsL (E : List EdgeD) (p s : Nat) : Nat → List (List UInt8)
  | 0 => []
  | i + 1 => if (E.getD i default).src = ((s : Nat) : Int) then edsL E p s i ++ [edT (E.getD i default) p] else edsL E p s i
def bodL (E : List EdgeD) (p : Nat) : Nat → List (List UInt8)
  | 0 => []
  | s + 1 => bodL E p s ++ ([sttL s] ++ edsL E p s E.length)
def endL : List UInt8 := [45, 45, 69, 78, 68, 45, 45]
def frontL (S X p i : Nat) : List (List UInt8) := hdL S ++ (bitL X i).map stL
def allL (E : List EdgeD) (S X p : Nat) : List (List UInt8) := (frontL S X p S ++ midL p ++ bodL E p S) ++ [endL]
def EdgesIn (E : List EdgeD) (S p : Nat) : Prop := ∀ e ∈ E, (0 ≤ e.letter ∧ e.letter.toNat < 2 ^ p) ∧ (0 ≤ e.dst ∧ e.dst ≤ 30)
theorem edsL_yes {E : List EdgeD} {p s i : Nat} {e : EdgeD} (he : E.getD i default = e) (h : e.src = ((s : Nat) : Int)) : edsL E p s (i + 1) = edsL E p s i ++ [edT e p] := by rw [edsL, he, if_pos h]
theorem edsL_no {E : List EdgeD} {p s i : Nat} {e : EdgeD} (he : E.getD i default = e) (h : ¬ e.src = ((s : Nat) : Int)) : edsL E p s (i + 1) = edsL E p s i := by rw [edsL, he, if_neg h]
def Short (L : List (List UInt8)) (n : Nat) : Prop := L.length ≤ n ∧ ∀ x ∈ L, x.length ≤ 127
theorem Short.app {A B : List (List UInt8)} {n m : Nat} (h : Short A n) (h2 : Short B m) : Short (A ++ B) (n + m) :=
  ⟨by rw [List.length_append]; have := h.1; have := h2.1; omega, fun x hx => (List.mem_append.1 hx).elim (h.2 x) (h2.2 x)⟩
theorem Short.one {x : List UInt8} (h : x.length ≤ 127) : Short [x] 1 := ⟨Nat.le_refl _, fun y hy => by rw [List.mem_singleton.1 hy]; exact h⟩
theorem Short.le {L : List (List UInt8)} {n m : Nat} (h : Short L n) (hnm : n ≤ m) : Short L m := ⟨Nat.le_trans h.1 hnm, h.2⟩
theorem edsL_short {E : List EdgeD} {p s S : Nat} (hp : p ≤ 3) (hE : EdgesIn E S p) : ∀ i, i ≤ E.length → Short (edsL E p s i) i
  | 0, _ => ⟨Nat.le_refl _, fun x hx => by cases hx⟩
  | i + 1, hi => by
    have ih := edsL_short (s := s) hp hE i (by omega)
    have hm : E.getD i default ∈ E := getD_mem' (by omega)
    by_cases h : (E.getD i default).src = ((s : Nat) : Int)
    · rw [edsL_yes rfl h]
      exact ih.app (Short.one (Nat.le_trans (edT_len hp (hE _ hm).1.2) (by decide)))
    · rw [edsL_no rfl h]
      exact ih.le (Nat.le_succ _)
theorem sttL_short (s : Nat) : Short [sttL s] 1 := Short.one (by have := numS_len s; simp only [sttL, List.length_append, List.length_cons, List.length_nil]; omega)
theorem bodL_short {E : List EdgeD} {p S : Nat} (hp : p ≤ 3) (hE : EdgesIn E S p) : ∀ s, Short (bodL E p s) (s * (1 + E.length))
  | 0 => ⟨Nat.zero_le _, fun x hx => by cases hx⟩
  | s + 1 => by
    rw [bodL, Nat.succ_mul]
    exact (bodL_short hp hE s).app ((sttL_short s).app (edsL_short hp hE _ (Nat.le_refl _)))
theorem frontL_short {S X p i : Nat} : Short (frontL S X p i) (2 + i) := by
  refine Short.app ⟨Nat.le_refl _, fun x hx => ?_⟩ ⟨by rw [List.length_map]; exact bitL_len, fun x hx => ?_⟩
  · have := numS_len S
    simp only [hdL, List.mem_cons, List.not_mem_nil, or_false] at hx
    rcases hx with rfl | rfl
    · decide
    · simp only [List.length_append, List.length_cons, List.length_nil]; omega
  · obtain ⟨s, _, rfl⟩ := List.mem_map.1 hx
    have := numS_len s
    simp only [stL, List.length_append, List.length_cons, List.length_nil]; omega
theorem midL_short {p : Nat} (hp : p ≤ 3) : Short (midL p) 4 := by
  refine ⟨Nat.le_refl _, fun x hx => ?_⟩
  simp only [midL, List.mem_cons, List.not_mem_nil, or_false] at hx
  rcases hx with rfl | rfl | rfl | rfl
  · rw [apT_len]; omega
  all_goals decide
def nl (L : List (List UInt8)) : List UInt8 := (L.map (· ++ [10])).flatten
theorem nl_app (A B : List (List UInt8)) : nl (A ++ B) = nl A ++ nl B := by simp [nl]
theorem nl_one (x : List UInt8) : nl [x] = x ++ [10] := by simp [nl]
theorem nl_len {L : List (List UInt8)} {n : Nat} (h : Short L n) : (nl L).length ≤ 128 * n := by
  have : ∀ L : List (List UInt8), (∀ x ∈ L, x.length ≤ 127) → (nl L).length ≤ 128 * L.length := by
    intro L
    induction L with
    | nil => intro _; simp [nl]
    | cons x r ih =>
      intro hx
      rw [show nl (x :: r) = nl [x] ++ nl r from nl_app [x] r, nl_one]
      have h1 := hx x List.mem_cons_self
      have h2 := ih fun y hy => hx y (List.mem_cons_of_mem _ hy)
      simp only [List.length_append, List.length_cons, List.length_nil]
      omega
  have h1 := this L h.2
  have h2 := h.1
  omega
theorem join_nl {L : List (List UInt8)} (h : L ≠ []) : Go.Lib.join L [10] ++ [10] = nl L := by
  cases L with
  | nil => exact absurd rfl h
  | cons x r =>
    rw [Go.Lib.join_cons]
    clear h
    induction r generalizing x with
    | nil => simp [Go.Lib.joinTail, nl]
    | cons y r ih =>
      have := ih y
      simp only [Go.Lib.joinTail, nl, List.map_cons, List.flatten_cons] at this ⊢
      simp only [List.append_assoc, List.cons_append, List.nil_append] at this ⊢
      rw [this]
theorem join_len {L : List (List UInt8)} {n : Nat} (h : L ≠ []) (hs : Short L n) : (Go.Lib.join L [10]).length ≤ 128 * n := by
  have h1 := congrArg List.length (join_nl h)
  have h2 := nl_len hs
  simp only [List.length_append, List.length_cons, List.length_nil] at h1
  omega
def c_impl_HoaWrite : ICode := (.seq (.reg [O1 1 (.box 4) 0, Ol 2 .mv [.c (.str [])], Ol 3 .mv [cb false]]) (.seq (.reg [O1 11 (.fadr 0) 1, O1 12 .ld1 11, O1 13 (.call 19) 12, O1 4 .mv 13]) (.seq (.seq (.reg [O1 14 .mv 4, Ol 15 (.bin .lss) [.t 14, ci 0], O1 16 .mv 15, Og 17 (.ldn 4) [.t 1] 16 false, Og 18 (.call 20) [.t 17] 16 false, Og 19 .not [.t 18] 16 false, Ol 20 .pick [.t 16, cb true, .t 19]]) (.cond (.t 20) (.seq (.reg [Ol 2 .mv [.c (.str [])], Ol 3 .mv [cb false]]) .ret) .skip)) (.seq (.reg [O1 21 (.fadr 1) 1, O1 22 .ld1 21, O1 23 (.call 21) 22, Ol 24 (.bin .add) [.c (.str [83, 116, 97, 116, 101, 115, 58, 32]), .t 23], Ol 25 (.bsl 1) [.c (.str [72, 79, 65, 58, 32, 118, 49]), .t 24], O1 5 .mv 25]) (.seq (.seq (.reg [O1 26 (.fadr 2) 1, O1 27 .ld1 26, O1 28 (.call 22) 27, O1 29 .len 28, Ol 30 .mv [ci 0]]) (.block 0 (.loop (.seq (.reg [O2 31 (.bin .lss) 30 29]) (.seq (.cond (.t 31) .skip (.exit 0)) (.seq (.block 1 (.seq (.reg [O2 32 (.iadr 1) 28 30, O1 33 .ld1 32, O1 7 .mv 33]) (.reg [O1 34 .mv 5, O1 35 .mv 7, O1 36 (.call 21) 35, Ol 37 (.bin .add) [.c (.str [83, 116, 97, 114, 116, 58, 32]), .t 36], O1 38 (.bslv 1) 37, O2 39 (.app 1 16) 34 38, O1 5 .mv 39]))) (.reg [Ol 40 (.bin .add) [.t 30, ci 1], O1 30 .mv 40]))))))) (.seq (.reg [O1 41 .mv 5, O1 42 .mv 4, O1 43 (.call 23) 42, Ol 44 (.bslv 1) [.t 43, .c (.str [97, 99, 99, 45, 110, 97, 109, 101, 58, 32, 66, 117, 99, 104, 105]), .c (.str [65, 99, 99, 101, 112, 116, 97, 110, 99, 101, 58, 32, 49, 32, 73, 110, 102, 40, 48, 41]), .c (.str [45, 45, 66, 79, 68, 89, 45, 45])], O2 45 (.app 1 16) 41 44, O1 5 .mv 45]) (.seq (.seq (.reg [O1 46 (.fadr 1) 1, O1 47 .ld1 46, Ol 48 .mv [ci 0]]) (.block 2 (.loop (.seq (.reg [O2 49 (.bin .lss) 48 47]) (.seq (.cond (.t 49) .skip (.exit 2)) (.seq (.block 3 (.seq (.reg [O1 50 .mv 48, O1 8 .mv 50]) (.seq (.reg [O1 51 .mv 5, O1 52 .mv 8, O1 53 (.call 21) 52, Ol 54 (.bin .add) [.c (.str [83, 116, 97, 116, 101, 58, 32]), .t 53], O1 55 (.bslv 1) 54, O2 56 (.app 1 16) 51 55, O1 5 .mv 56]) (.seq (.reg [O1 57 (.fadr 3) 1, O1 58 .ld1 57, O1 59 .len 58, Ol 60 .mv [ci 0]]) (.block 4 (.loop (.seq (.reg [O2 61 (.bin .lss) 60 59]) (.seq (.cond (.t 61) .skip (.exit 4)) (.seq (.block 5 (.seq (.reg [O2 62 (.iadr 4) 58 60, O1 63 (.ldn 4) 62, O0 10 (.alc [(.int .i64 0), (.int .i64 0), (.int .i64 0), (.bool false)]), S2 (.st 4) 10 63]) (.seq (.reg [O1 64 (.fadr 0) 10, O1 65 .ld1 64, O1 66 .mv 8, O2 67 (.bin .eql) 65 66]) (.cond (.t 67) (.reg [O1 68 .mv 5, O1 69 (.ldn 4) 10, O1 70 .mv 4, O2 71 (.call 24) 69 70, O1 72 (.bslv 1) 71, O2 73 (.app 1 16) 68 72, O1 5 .mv 73]) .skip)))) (.reg [Ol 74 (.bin .add) [.t 60, ci 1], O1 60 .mv 74])))))))))) (.reg [Ol 75 (.bin .add) [.t 48, ci 1], O1 48 .mv 75]))))))) (.seq (.reg [O1 76 .mv 5, Ol 77 (.bslv 1) [.c (.str [45, 45, 69, 78, 68, 45, 45])], O2 78 (.app 1 16) 76 77, O1 5 .mv 78]) (.seq (.reg [O1 79 .mv 5, Ol 80 (.call 25) [.t 79, .c (.str [10])], Ol 81 (.bin .add) [.t 80, .c (.str [10])], O1 2 .mv 81, Ol 3 .mv [cb true]]) .ret)))))))))
theorem b_impl_HoaWrite : Body Tryd.prog 7 82 c_impl_HoaWrite [(.t 2), (.t 3)] := body_mk Tryd.func7 (by kernel_rfl) (by decide)
theorem RAutoOk_v {xs : List AV} {a : AutoD} {b : Bool} (hx : xs = [.agg (autoRow a)]) (h : decide (AutoOk a) = b) : RAutoOk xs (.bool b) [] := ⟨a, hx, by rw [h], rfl⟩
def hoaT (a : AutoD) : List UInt8 × Bool := if AutoOk a ∧ 0 ≤ powI a.letters then (nl (allL a.edges a.states.toNat a.start.toNat (powI a.letters).toNat), true) else ([], false)
def RHoa (xs : List AV) (r : AV) (objs : List AObj) : Prop := ∃ a, xs = [.agg (autoRow a)] ∧ r = .tup [.str (hoaT a).1, .bool (hoaT a).2] ∧ objs = []
theorem RHoa_is {xs : List AV} {a : AutoD} {t : List UInt8} {b : Bool} (hx : xs = [.agg (autoRow a)]) (h : hoaT a = (t, b)) : RHoa xs (.tup [.str t, .bool b]) [] := ⟨a, hx, by rw [h], rfl⟩
theorem pow_pos {n : Int} (h : 0 ≤ powI n) : (powI n).toNat ≤ 3 ∧ powI n = (((powI n).toNat : Nat) : Int) ∧ n = ((2 ^ (powI n).toNat : Nat) : Int) := by
  unfold powI at *
  split at h
  · rename_i h1; subst h1; decide
  split at h
  · rename_i h1; subst h1; decide
  split at h
  · rename_i h1; subst h1; decide
  split at h
  · rename_i h1; subst h1; decide
  · omega
theorem edges_in {a : AutoD} (ha : AutoOk a) {p : Nat} (hp : a.letters = ((2 ^ p : Nat) : Int)) : EdgesIn a.edges a.states.toNat p := fun e he => by
  obtain ⟨i, hi, rfl⟩ := List.mem_iff_getElem.1 he
  have h := edge_in ha hi
  rw [List.getD_eq_getElem?_getD, List.getElem?_eq_getElem hi] at h
  unfold EdgeIn at h
  have hs := ha.1.2.1
  rw [hp] at h
  simp only [Option.getD_some] at h
  omega
theorem strs_app {L : List (List UInt8)} {n : Nat} (h : n = L.length) {x : List UInt8} : List.take n (strs L) ++ [[.str x]] = strs (L ++ [x]) := by
  rw [List.take_of_length_le (by rw [length_strs]; omega)]
  simp [strs, strRow]
theorem strs_app4 {L : List (List UInt8)} {n : Nat} (h : n = L.length) {x y z u : List UInt8} : List.take n (strs L) ++ [[.str x], [.str y], [.str z], [.str u]] = strs (L ++ [x, y, z, u]) := by
  rw [List.take_of_length_le (by rw [length_strs]; omega)]
  simp [strs, strRow]
set_option maxHeartbeats 16000000 in
theorem s_impl_HoaWrite : PureSound Tryd.prog 7 RHoa := by
  have hR : Rely Tryd.prog (ctxOf [(19, .pure RPow), (20, .pure RAutoOk), (21, .pure (RNum 100)), (22, .pure RSetList), (23, .pure RAp), (24, .pure REdT), (25, .pure RJoin)]) :=
    rely_cons b_impl_propsOf.has s_impl_propsOf (rely_cons b_impl_AutoOk.has s_impl_AutoOk (rely_cons hasItoa s_Itoa (rely_cons b_impl_SetList.has s_impl_SetList (rely_cons b_impl_apText.has s_impl_apText (rely_cons b_impl_edgeText.has s_impl_edgeText (rely_cons hasJoin s_Join (rely_nil mixed)))))))
  refine pure_of_aw b_impl_HoaWrite ?_
  rintro xs r objs ⟨a, rfl, rfl, rfl⟩ -
  have hel2 := length_edgeRows a.edges
  by_cases hk : 0 ≤ powI a.letters
  · obtain ⟨hp3, hpw, hlet⟩ := pow_pos hk
    obtain ⟨p, hpe⟩ : ∃ p, p = (powI a.letters).toNat := ⟨_, rfl⟩
    rw [← hpe] at hp3 hpw hlet
    by_cases ha : AutoOk a
    · have hT : hoaT a = (nl (allL a.edges a.states.toNat a.start.toNat p), true) := by unfold hoaT; rw [if_pos ⟨ha, hk⟩, ← hpe]
      rw [hT]
      have hok : decide (AutoOk a) = true := decide_eq_true ha
      have hE := edges_in ha hlet
      have hst := ha.1.2.1
      have hse := ha.1.2.2
      have hel := ha.2.1
      have hpo : RPow [.int .i64 a.letters] (.int .i64 ((p : Nat) : Int)) [] := RPow_is hpw
      clear hT hpe hpw hk hlet
      clear ha
      obtain ⟨letters, states, start, E⟩ := a
      dsimp only at *
      obtain ⟨S, rfl⟩ : ∃ S : Nat, states = ((S : Nat) : Int) := ⟨states.toNat, by omega⟩
      obtain ⟨X, rfl⟩ : ∃ X : Nat, start = ((X : Nat) : Int) := ⟨start.toNat, by omega⟩
      have hXS : X < 2 ^ S := by
        have h := hse.2.2
        rw [Int.toNat_natCast, ← natPow] at h
        omega
      have hS31 : S ≤ 31 := by omega
      have hX31 : X < 2 ^ 31 := by omega
      have hb31 : bitL X 31 = bitL X S := bitL_more hXS hS31
      have hSL := RSetList_mk hX31
      rw [hb31] at hSL
      rw [Int.toNat_natCast] at hE
      rw [Int.toNat_natCast, Int.toNat_natCast]
      have hbl := bitL_len (X := X) (n := S)
      have hbm : ∀ i, i < (bitL X S).length → (bitL X S).getD i 0 < S := fun i hi => by
        rw [List.getD_eq_getElem?_getD, List.getElem?_eq_getElem hi]
        exact (mem_bitL.1 (List.getElem_mem hi)).1
      have hnum : RNum 100 [.int .i64 ((S : Nat) : Int)] (.str (numS S)) [] := RNum_is rfl (by omega)
      have hnl := numS_len S
      obtain ⟨B, hB⟩ : ∃ B, B = bitL X S := ⟨_, rfl⟩
      have hall : allL E S X p = ((hdL S ++ B.map stL) ++ midL p ++ bodL E p S) ++ [endL] := by rw [hB]; rfl
      have hsh : Short (allL E S X p) (2 + S + 4 + S * (1 + E.length) + 1) := Short.app (Short.app (Short.app frontL_short (midL_short hp3)) (bodL_short hp3 hE S)) (Short.one (by decide))
      have hSE : S * (1 + E.length) ≤ 31 * 2001 := Nat.mul_le_mul hS31 (by omega)
      have hbs := fun s => bodL_short (S := S) hp3 hE s
      have hes := fun s i h => edsL_short (S := S) (s := s) hp3 hE i h
      rw [← hB] at hSL hbl hbm
      rw [hall] at hsh ⊢
      have hnB := length_ints (natsI B)
      rw [length_natsI] at hnB
      clear hall hB hXS hb31 hX31 hse
      have hLM : (midL p).length = 4 := rfl
      obtain ⟨F, hF0, hFs, hFl, hFn⟩ : ∃ F : Nat → List (List UInt8), F 0 = [[72, 79, 65, 58, 32, 118, 49], [83, 116, 97, 116, 101, 115, 58, 32] ++ numS S] ∧ (∀ i, i < B.length → F (i + 1) = F i ++ [[83, 116, 97, 114, 116, 58, 32] ++ numS (B.getD i 0)]) ∧ F B.length = hdL S ++ B.map stL ∧ ∀ i, (F i).length ≤ 2 + B.length := by
        refine ⟨fun i => hdL S ++ (B.take i).map stL, rfl, fun i hi => ?_, by dsimp only; rw [List.take_length], fun i => ?_⟩
        · dsimp only
          rw [List.take_add_one, List.getElem?_eq_getElem hi, List.getD_eq_getElem?_getD, List.getElem?_eq_getElem hi]
          simp only [Option.toList, Option.getD_some, List.map_append, List.map_cons, List.map_nil, List.append_assoc, stL]
        · simp only [hdL, List.length_append, List.length_cons, List.length_nil, List.length_map, List.length_take]
          omega
      rw [← hFl] at hsh ⊢
      refine ⟨by simp, vc2_sound hR _ _ _ _ _ ?_⟩
      conv => whnf
      repeat' ((first | contradiction | (refine And.intro (fun hb => ?_) (fun hb => ?_) <;> first | contradiction | ((try simp only [SB, reduceCtorEq] at hb); try (exfalso; first | contradiction | omega))) | refine G2 ?_ | rw [ints_at (by omega)] | rw [ints_at0 (by omega)] | rw [ints_at' (by omega) (by omega)] | refine G1 ?_ | refine ⟨_, _, RAutoOk_v (b := true) rfl hok, ?_⟩ | refine ⟨_, _, hpo, ?_⟩ | refine ⟨_, _, hnum, ?_⟩ | refine ⟨_, _, hSL, ?_⟩ | (refine And.intro (by simp only [List.length_append, List.length_cons, List.length_nil]; omega) ?_) | fail) <;> conv => whnf)
      refine Lp.intro (α := Nat) (fun i => i ≤ B.length) (fun i => B.length - i)
        (fun i => [(1, .ptr 0 0 0), (4, .int .i64 ((p : Nat) : Int)), (5, .ref 1 0 (F i).length), (28, .ref 2 0 B.length), (29, .int .i64 B.length), (30, .int .i64 ((i : Nat) : Int))])
        (fun i => [some (.box [.int .i64 letters, .int .i64 ((S : Nat) : Int), .int .i64 ((X : Nat) : Int), .val (edgeRows E)]), some (.arr 1 (strs (F i))), some (.arr 1 (ints (natsI B)))]) ?_ ?_
      · refine ⟨0, Nat.zero_le _, [some 0, some 1, some 2], rfl, rfl, And.intro ⟨.inl rfl, .inl rfl, .inl rfl, .inl rfl, trivial⟩ (And.intro (And.intro rfl (congrArg strs hF0.symm)) (And.intro (And.intro rfl rfl) trivial)), ?_⟩
        exact ⟨rfl, .inl rfl, congrArg (fun l : List (List UInt8) => AV.ref 1 0 l.length) hF0.symm, rfl, .inl rfl, .inl rfl, trivial⟩
      intro i hi
      have hFi := hFn i
      have hFq := length_strs (F i)
      refine vc2_sound hR _ _ _ _ _ ?_
      by_cases hlt : i < B.length
      · have hcell : (ints (natsI B))[0 + ((i : Nat) : Int).toNat]? = some [.int .i64 ((B.getD i 0 : Nat) : Int)] := by
          rw [ints_at0 (by rw [length_natsI]; exact hlt)]
          simp [natsI, List.getD_eq_getElem?_getD, List.getElem?_eq_getElem hlt]
        have hv := hbm i hlt
        have hF1 := hFs i hlt
        generalize B.getD i 0 = v at *
        have hnv : RNum 100 [.int .i64 ((v : Nat) : Int)] (.str (numS v)) [] := RNum_is rfl (by omega)
        have hnvl := numS_len v
        conv => whnf
        repeat' ((first | contradiction | (refine And.intro (fun hb => ?_) (fun hb => ?_) <;> first | contradiction | ((try simp only [SB, reduceCtorEq] at hb); try (exfalso; first | contradiction | omega))) | rw [hcell] | refine G2 ?_ | rw [ints_at (by omega)] | rw [ints_at0 (by omega)] | rw [ints_at' (by omega) (by omega)] | refine G1 ?_ | refine ⟨_, _, hnv, ?_⟩ | (refine And.intro (by simp only [List.length_append, List.length_cons, List.length_nil]; omega) ?_) | fail) <;> conv => whnf)
        refine ⟨i + 1, hlt, by omega, [some 0, some 3, some 2], rfl, rfl, And.intro ⟨.inl rfl, .inl rfl, .inl rfl, .inl rfl, trivial⟩ (And.intro (And.intro rfl ((strs_app rfl).trans (congrArg strs hF1.symm))) (And.intro (And.intro rfl rfl) trivial)), ?_⟩
        exact ⟨rfl, .inl rfl, congrArg (AV.ref 3 0) (by rw [hF1]; simp), rfl, .inl rfl, .inl rfl, trivial⟩
      obtain rfl : i = B.length := by omega
      have hap := RAp_mk (k := p) hp3
      obtain ⟨C, hC⟩ : ∃ C, C = F B.length ++ midL p := ⟨_, rfl⟩
      have hCl : C.length ≤ 2 + B.length + 4 := by rw [hC, List.length_append, hLM]; omega
      conv => whnf
      repeat' ((first | contradiction | (refine And.intro (fun hb => ?_) (fun hb => ?_) <;> first | contradiction | ((try simp only [SB, reduceCtorEq] at hb); try (exfalso; first | contradiction | omega))) | refine G2 ?_ | rw [ints_at (by omega)] | rw [ints_at0 (by omega)] | rw [ints_at' (by omega) (by omega)] | refine G1 ?_ | refine ⟨_, _, hap, ?_⟩ | (refine And.intro (by simp only [List.length_append, List.length_cons, List.length_nil]; omega) ?_) | fail) <;> conv => whnf)
      rw [← hC] at hsh ⊢
      refine Lp.intro (α := Nat) (fun s => s ≤ S) (fun s => S - s)
        (fun s => [(1, .ptr 0 0 0), (4, .int .i64 ((p : Nat) : Int)), (5, .ref 1 0 (C ++ bodL E p s).length), (47, .int .i64 ((S : Nat) : Int)), (48, .int .i64 ((s : Nat) : Int))])
        (fun s => [some (.box [.int .i64 letters, .int .i64 ((S : Nat) : Int), .int .i64 ((X : Nat) : Int), .val (edgeRows E)]), some (.arr 1 (strs (C ++ bodL E p s)))]) ?_ ?_
      · refine ⟨0, Nat.zero_le _, [some 0, some 3], rfl, rfl, And.intro ⟨.inl rfl, .inl rfl, .inl rfl, .inl rfl, trivial⟩ (And.intro (And.intro rfl ((strs_app4 rfl).trans (congrArg strs (show F B.length ++ midL p = C ++ bodL E p 0 by rw [hC]; simp [bodL])))) trivial), ?_⟩
        exact ⟨rfl, .inl rfl, congrArg (AV.ref 3 0) (by rw [hC]; simp [bodL, midL]), .inl rfl, .inl rfl, trivial⟩
      intro s hs
      have hbs1 := (hbs s).1
      have hsS : s * (1 + E.length) ≤ 31 * 2001 := Nat.mul_le_mul (by omega) (by omega)
      have hq := length_strs (C ++ bodL E p s)
      have hq2 : (C ++ bodL E p s).length = C.length + (bodL E p s).length := List.length_append
      refine vc2_sound hR _ _ _ _ _ ?_
      by_cases hlts : s < S
      · have hns : RNum 100 [.int .i64 ((s : Nat) : Int)] (.str (numS s)) [] := RNum_is rfl (by omega)
        have hnsl := numS_len s
        obtain ⟨D, hD⟩ : ∃ D, D = (C ++ bodL E p s) ++ [sttL s] := ⟨_, rfl⟩
        have hDl : D.length ≤ C.length + (bodL E p s).length + 1 := by rw [hD]; simp only [List.length_append, List.length_cons, List.length_nil]; omega
        conv => whnf
        repeat' ((first | contradiction | (refine And.intro (fun hb => ?_) (fun hb => ?_) <;> first | contradiction | ((try simp only [SB, reduceCtorEq] at hb); try (exfalso; first | contradiction | omega))) | refine G2 ?_ | rw [ints_at (by omega)] | rw [ints_at0 (by omega)] | rw [ints_at' (by omega) (by omega)] | refine G1 ?_ | refine ⟨_, _, hns, ?_⟩ | (refine And.intro (by simp only [List.length_append, List.length_cons, List.length_nil]; omega) ?_) | fail) <;> conv => whnf)
        refine Lp.intro (α := Nat) (fun i => i ≤ E.length) (fun i => E.length - i)
          (fun i => [(1, .ptr 0 0 0), (4, .int .i64 ((p : Nat) : Int)), (5, .ref 1 0 (D ++ edsL E p s i).length), (47, .int .i64 ((S : Nat) : Int)), (48, .int .i64 ((s : Nat) : Int)), (8, .int .i64 ((s : Nat) : Int)), (58, .val (edgeRows E)), (59, .int .i64 E.length), (60, .int .i64 ((i : Nat) : Int))])
          (fun i => [some (.box [.int .i64 letters, .int .i64 ((S : Nat) : Int), .int .i64 ((X : Nat) : Int), .val (edgeRows E)]), some (.arr 1 (strs (D ++ edsL E p s i)))]) ?_ ?_
        · refine ⟨0, Nat.zero_le _, [some 0, some 2], rfl, rfl, And.intro ⟨.inl rfl, .inl rfl, .inl rfl, .inl rfl, trivial⟩ (And.intro (And.intro rfl ((strs_app rfl).trans (congrArg strs (show _ = D ++ edsL E p s 0 by rw [hD]; simp [edsL, sttL])))) trivial), ?_⟩
          exact ⟨rfl, .inl rfl, congrArg (AV.ref 2 0) (by rw [hD]; simp [edsL]; omega), .inl rfl, .inl rfl, .inl rfl, .inl rfl, .inl (congrArg (fun x : Nat => AV.int .i64 x) hel2), .inl rfl, trivial⟩
        intro i hi
        have hes1 := (hes s i hi).1
        have hq3 := length_strs (D ++ edsL E p s i)
        have hq4 : (D ++ edsL E p s i).length = D.length + (edsL E p s i).length := List.length_append
        refine vc2_sound hR _ _ _ _ _ ?_
        by_cases hlt : i < E.length
        · have hcell := edge_at hlt
          have he := hE _ (getD_mem' hlt)
          obtain ⟨e, hee⟩ : ∃ e, E.getD i default = e := ⟨_, rfl⟩
          rw [hee] at hcell he
          by_cases hsrc : e.src = ((s : Nat) : Int)
          · have hnx := edsL_yes (p := p) hee hsrc
            have het := fun xs h => REdT_is (xs := xs) h hp3 he.1 he.2
            conv => whnf
            repeat' ((first | contradiction | (refine And.intro (fun hb => ?_) (fun hb => ?_) <;> first | contradiction | ((try simp only [SB, reduceCtorEq] at hb); try (exfalso; first | contradiction | omega))) | rw [hcell] | refine G2 ?_ | rw [ints_at (by omega)] | rw [ints_at0 (by omega)] | rw [ints_at' (by omega) (by omega)] | refine G1 ?_ | refine ⟨_, _, het _ rfl, ?_⟩ | (refine And.intro (by simp only [List.length_append, List.length_cons, List.length_nil]; omega) ?_) | fail) <;> conv => whnf)
            refine ⟨i + 1, hlt, by omega, [some 0, some 3], rfl, rfl, And.intro ⟨.inl rfl, .inl rfl, .inl rfl, .inl rfl, trivial⟩ (And.intro (And.intro rfl ((strs_app rfl).trans (congrArg strs (by rw [hnx]; simp)))) trivial), ?_⟩
            exact ⟨rfl, .inl rfl, congrArg (AV.ref 3 0) (by rw [hnx]; simp; omega), .inl rfl, .inl rfl, .inl rfl, .inl rfl, .inl rfl, .inl rfl, trivial⟩
          · have hnx := edsL_no (p := p) hee hsrc
            conv => whnf
            repeat' ((first | contradiction | (refine And.intro (fun hb => ?_) (fun hb => ?_) <;> first | contradiction | ((try simp only [SB, reduceCtorEq] at hb); try (exfalso; first | contradiction | omega))) | rw [hcell] | refine G2 ?_ | rw [ints_at (by omega)] | rw [ints_at0 (by omega)] | rw [ints_at' (by omega) (by omega)] | refine G1 ?_ | fail) <;> conv => whnf)
            refine ⟨i + 1, hlt, by omega, [some 0, some 1], rfl, rfl, And.intro ⟨.inl rfl, .inl rfl, .inl rfl, .inl rfl, trivial⟩ (And.intro (And.intro rfl (by rw [hnx])) trivial), ?_⟩
            exact ⟨rfl, .inl rfl, congrArg (AV.ref 1 0) (by rw [hnx]), .inl rfl, .inl rfl, .inl rfl, .inl rfl, .inl rfl, .inl rfl, trivial⟩
        · obtain rfl : i = E.length := by omega
          have hnx : D ++ edsL E p s E.length = C ++ bodL E p (s + 1) := by rw [hD, bodL]; simp
          conv => whnf
          repeat' ((first | contradiction | (refine And.intro (fun hb => ?_) (fun hb => ?_) <;> first | contradiction | ((try simp only [SB, reduceCtorEq] at hb); try (exfalso; first | contradiction | omega))) | refine G2 ?_ | rw [ints_at (by omega)] | rw [ints_at0 (by omega)] | rw [ints_at' (by omega) (by omega)] | refine G1 ?_ | fail) <;> conv => whnf)
          refine ⟨s + 1, hlts, by omega, [some 0, some 1], rfl, rfl, And.intro ⟨.inl rfl, .inl rfl, .inl rfl, .inl rfl, trivial⟩ (And.intro (And.intro rfl (congrArg strs hnx)) trivial), ?_⟩
          exact ⟨rfl, .inl rfl, congrArg (fun l : List (List UInt8) => AV.ref 1 0 l.length) hnx, .inl rfl, .inl rfl, trivial⟩
      · obtain rfl : s = S := by omega
        obtain ⟨L, hL⟩ : ∃ L, L = (C ++ bodL E p s) ++ [endL] := ⟨_, rfl⟩
        rw [← hL] at hsh ⊢
        have hne : L ≠ [] := by rw [hL]; simp
        have hjl := join_len hne hsh
        have hjn := join_nl hne
        have hLl : L.length = (C ++ bodL E p s).length + 1 := by rw [hL]; exact List.length_append
        have hla : List.take (C ++ bodL E p s).length (strs (C ++ bodL E p s)) ++ [[.str [45, 45, 69, 78, 68, 45, 45]]] = strs L := by rw [hL]; exact strs_app rfl
        have hj : ∀ xs, xs = [.val (strs L), .str [10]] → RJoin xs (.str (Go.Lib.join L [10])) [] := fun xs h => ⟨L, [10], h, hne, by omega, by omega, rfl, rfl⟩
        have hsl := length_strs L
        generalize hJ : Go.Lib.join L [10] = J at *
        conv => whnf
        repeat' ((first | contradiction | (refine And.intro (fun hb => ?_) (fun hb => ?_) <;> first | contradiction | ((try simp only [SB, reduceCtorEq] at hb); try (exfalso; first | contradiction | omega))) | rw [hla] | refine G2 ?_ | rw [ints_at (by omega)] | rw [ints_at0 (by omega)] | rw [ints_at' (by omega) (by omega)] | refine G1 ?_ | refine ⟨_, _, hj _ (args_cons (snap_all rfl (hsl.trans hLl)) rfl), ?_⟩ | (refine And.intro (by simp only [List.length_append, List.length_cons, List.length_nil]; omega) ?_) | fail) <;> conv => whnf)
        refine ⟨.inl rfl, ?_⟩
        conv => whnf
        exact ⟨[], ⟨rfl, trivial⟩, And.intro (.inl (congrArg AV.str hjn)) (And.intro (.inl rfl) trivial), rfl, rfl⟩
    · have hT : hoaT a = ([], false) := by unfold hoaT; rw [if_neg (fun h => ha h.1)]
      rw [hT]
      have hok : decide (AutoOk a) = false := decide_eq_false ha
      have hpo : RPow [.int .i64 a.letters] (.int .i64 ((p : Nat) : Int)) [] := RPow_is hpw
      refine ⟨by simp, vc2_sound hR _ _ _ _ _ ?_⟩
      conv => whnf
      repeat' ((first | contradiction | (refine And.intro (fun hb => ?_) (fun hb => ?_) <;> first | contradiction | ((try simp only [SB, reduceCtorEq] at hb); try (exfalso; first | contradiction | omega))) | refine G2 ?_ | rw [ints_at (by omega)] | rw [ints_at0 (by omega)] | rw [ints_at' (by omega) (by omega)] | refine G1 ?_ | refine ⟨_, _, RAutoOk_v (b := false) rfl hok, ?_⟩ | refine ⟨_, _, hpo, ?_⟩ | fail) <;> conv => whnf)
      refine ⟨.inl rfl, ?_⟩
      conv => whnf
      refine ⟨[], ⟨rfl, trivial⟩, ?_, rfl, rfl⟩
      repeat' (first | exact trivial | refine And.intro ?_ ?_)
      all_goals
        conv => whnf
        left
        conv => lhs; whnf
  · have hT : hoaT a = ([], false) := by unfold hoaT; rw [if_neg (fun h => hk h.2)]
    rw [hT]
    obtain ⟨k, hke⟩ : ∃ k, powI a.letters = k := ⟨_, rfl⟩
    rw [hke] at hk
    have hpo : RPow [.int .i64 a.letters] (.int .i64 k) [] := RPow_is hke
    refine ⟨by simp, vc2_sound hR _ _ _ _ _ ?_⟩
    conv => whnf
    repeat' ((first | contradiction | (refine And.intro (fun hb => ?_) (fun hb => ?_) <;> first | contradiction | ((try simp only [SB, reduceCtorEq] at hb); try (exfalso; first | contradiction | omega))) | refine G2 ?_ | rw [ints_at (by omega)] | rw [ints_at0 (by omega)] | rw [ints_at' (by omega) (by omega)] | refine G1 ?_ | refine ⟨_, _, RAutoOk_mk, ?_⟩ | refine ⟨_, _, hpo, ?_⟩ | fail) <;> conv => whnf)
    refine ⟨.inl rfl, ?_⟩
    conv => whnf
    refine ⟨[], ⟨rfl, trivial⟩, ?_, rfl, rfl⟩
    repeat' (first | exact trivial | refine And.intro ?_ ?_)
    all_goals
      conv => whnf
      left
      conv => lhs; whnf
def c_spec_HoaWrite : ICode := (.seq (.reg [O1 1 (.box 4) 0, Ol 2 .mv [.c (.str [])], Ol 3 .mv [cb false]]) (.seq (.reg [O1 12 (.fadr 0) 1, O1 13 .ld1 12, O1 14 (.call 10) 13, O1 4 .mv 14]) (.seq (.seq (.reg [O1 15 (.ldn 4) 1, O1 16 (.call 11) 15, O1 17 .not 16, O1 18 .mv 17, Og 19 .mv [.t 4] 18 false, Og 20 (.bin .lss) [.t 19, ci 0] 18 false, Ol 21 .pick [.t 18, cb true, .t 20]]) (.cond (.t 21) (.seq (.reg [Ol 2 .mv [.c (.str [])], Ol 3 .mv [cb false]]) .ret) .skip)) (.seq (.reg [O1 22 (.fadr 1) 1, O1 23 .ld1 22, O1 24 (.call 12) 23, Ol 25 (.bin .add) [.c (.str [72, 79, 65, 58, 32, 118, 49, 10, 83, 116, 97, 116, 101, 115, 58, 32]), .t 24], Ol 26 (.bin .add) [.t 25, .c (.str [10])], O1 5 .mv 26]) (.seq (.seq (.reg [Ol 6 .mv [ci 0]]) (.block 0 (.loop (.seq (.seq (.reg [O1 27 .mv 6, O1 28 (.fadr 1) 1, O1 29 .ld1 28, O2 30 (.bin .lss) 27 29]) (.cond (.t 30) .skip (.exit 0))) (.seq (.block 1 (.seq (.reg [O1 33 (.fadr 2) 1, O1 34 .ld1 33, O1 35 .mv 6, O2 36 (.call 13) 34 35]) (.cond (.t 36) (.reg [O1 37 .mv 5, Ol 38 (.bin .add) [.t 37, .c (.str [83, 116, 97, 114, 116, 58, 32])], O1 39 .mv 6, O1 40 (.call 12) 39, O2 41 (.bin .add) 38 40, Ol 42 (.bin .add) [.t 41, .c (.str [10])], O1 5 .mv 42]) .skip))) (.reg [O1 31 .mv 6, Ol 32 (.bin .add) [.t 31, ci 1], O1 6 .mv 32])))))) (.seq (.reg [O1 43 .mv 5, O1 44 .mv 4, O1 45 (.call 14) 44, O2 46 (.bin .add) 43 45, Ol 47 (.bin .add) [.t 46, .c (.str [10, 97, 99, 99, 45, 110, 97, 109, 101, 58, 32, 66, 117, 99, 104, 105, 10, 65, 99, 99, 101, 112, 116, 97, 110, 99, 101, 58, 32, 49, 32, 73, 110, 102, 40, 48, 41, 10, 45, 45, 66, 79, 68, 89, 45, 45, 10])], O1 5 .mv 47]) (.seq (.seq (.reg [Ol 7 .mv [ci 0]]) (.block 2 (.loop (.seq (.seq (.reg [O1 48 .mv 7, O1 49 (.fadr 1) 1, O1 50 .ld1 49, O2 51 (.bin .lss) 48 50]) (.cond (.t 51) .skip (.exit 2))) (.seq (.block 3 (.seq (.reg [O1 54 .mv 5, Ol 55 (.bin .add) [.t 54, .c (.str [83, 116, 97, 116, 101, 58, 32])], O1 56 .mv 7, O1 57 (.call 12) 56, O2 58 (.bin .add) 55 57, Ol 59 (.bin .add) [.t 58, .c (.str [10])], O1 5 .mv 59]) (.seq (.reg [Ol 8 .mv [ci 0]]) (.block 4 (.loop (.seq (.seq (.reg [O1 60 .mv 8, O1 61 (.fadr 3) 1, O1 62 .ld1 61, O1 63 .len 62, O2 64 (.bin .lss) 60 63]) (.cond (.t 64) .skip (.exit 4))) (.seq (.block 5 (.seq (.reg [O1 67 (.fadr 3) 1, O1 68 .ld1 67, O1 69 .mv 8, O2 70 (.iadr 4) 68 69, O1 71 (.ldn 4) 70, O0 9 (.alc [(.int .i64 0), (.int .i64 0), (.int .i64 0), (.bool false)]), S2 (.st 4) 9 71]) (.seq (.seq (.reg [O1 72 (.fadr 0) 9, O1 73 .ld1 72, O1 74 .mv 7, O2 75 (.bin .neq) 73 74]) (.cond (.t 75) (.exit 5) .skip)) (.seq (.reg [O1 77 (.fadr 1) 9, O1 78 .ld1 77, O1 79 (.call 16) 78, O1 80 .mv 4, O2 81 (.call 15) 79 80, O1 76 .mv 81, O1 82 (.ext 0) 76, O1 83 (.ext 1) 76, O1 10 .mv 82, O1 11 .mv 83]) (.seq (.drw [O1 84 .mv 5, Ol 85 (.bin .add) [.t 84, .c (.str [91])], O1 86 .mv 10, O1 87 (.call 17) 86, O2 88 (.bin .add) 85 87, Ol 89 (.bin .add) [.t 88, .c (.str [93, 32])], O1 90 (.fadr 2) 9, O1 91 .ld1 90, O1 92 (.call 12) 91, O2 93 (.bin .add) 89 92, O1 5 .mv 93] (unB [0, 1, 0, 4, 15, 31, 0, 64, 204, 511, 1023] 0) true true) (.seq (.seq (.reg [O1 94 (.fadr 3) 9, O1 95 .ld1 94]) (.cond (.t 95) (.reg [O1 96 .mv 5, Ol 97 (.bin .add) [.t 96, .c (.str [32, 123, 48, 125])], O1 5 .mv 97]) .skip)) (.reg [O1 98 .mv 5, Ol 99 (.bin .add) [.t 98, .c (.str [10])], O1 5 .mv 99]))))))) (.reg [O1 65 .mv 8, Ol 66 (.bin .add) [.t 65, ci 1], O1 8 .mv 66])))))))) (.reg [O1 52 .mv 7, Ol 53 (.bin .add) [.t 52, ci 1], O1 7 .mv 53])))))) (.seq (.reg [O1 100 .mv 5, Ol 101 (.bin .add) [.t 100, .c (.str [45, 45, 69, 78, 68, 45, 45, 10])], O1 2 .mv 101, Ol 3 .mv [cb true]]) .ret))))))))
theorem b_spec_HoaWrite : Body Tryd.prog 5 102 c_spec_HoaWrite [(.t 2), (.t 3)] := body_mk Tryd.func5 (by kernel_rfl) (by decide)
set_option maxHeartbeats 16000000 in
theorem s_spec_HoaWrite : PureSound Tryd.prog 5 RHoa := by
  have hR : Rely Tryd.prog (ctxOf [(10, .pure RPow), (11, .pure RAutoOk), (12, .pure (RNum 100)), (13, .pure RHas), (14, .pure RAp), (16, .pure RBit), (15, .pure RLab), (17, .pure RPrintE)]) :=
    rely_cons b_spec_l15Power.has s_spec_l15Power (rely_cons b_spec_AutoOk.has s_spec_AutoOk (rely_cons b_spec_l15Num.has s_spec_l15Num (rely_cons b_spec_l1Has.has s_spec_l1Has (rely_cons b_spec_l15Names.has s_spec_l15Names (rely_cons b_spec_l1Bit.has s_spec_l1Bit (rely_cons b_spec_ExprOf.has s_spec_ExprOf (rely_cons b_spec_ExprPrint.has s_spec_ExprPrint (rely_nil mixed))))))))
  refine pure_of_aw b_spec_HoaWrite ?_
  rintro xs r objs ⟨a, rfl, rfl, rfl⟩ -
  have hel2 := length_edgeRows a.edges
  by_cases hk : 0 ≤ powI a.letters
  · obtain ⟨hp3, hpw, hlet⟩ := pow_pos hk
    obtain ⟨p, hpe⟩ : ∃ p, p = (powI a.letters).toNat := ⟨_, rfl⟩
    rw [← hpe] at hp3 hpw hlet
    by_cases ha : AutoOk a
    · have hT : hoaT a = (nl (allL a.edges a.states.toNat a.start.toNat p), true) := by unfold hoaT; rw [if_pos ⟨ha, hk⟩, ← hpe]
      rw [hT]
      have hok : decide (AutoOk a) = true := decide_eq_true ha
      have hE := edges_in ha hlet
      have hst := ha.1.2.1
      have hse := ha.1.2.2
      have hel := ha.2.1
      have hpo : RPow [.int .i64 a.letters] (.int .i64 ((p : Nat) : Int)) [] := RPow_is hpw
      clear hT hpe hpw hk hlet
      clear ha
      obtain ⟨letters, states, start, E⟩ := a
      dsimp only at *
      obtain ⟨S, rfl⟩ : ∃ S : Nat, states = ((S : Nat) : Int) := ⟨states.toNat, by omega⟩
      obtain ⟨X, rfl⟩ : ∃ X : Nat, start = ((X : Nat) : Int) := ⟨start.toNat, by omega⟩
      have hS31 : S ≤ 31 := by omega
      have hX31 : X < 2 ^ 31 := by omega
      rw [Int.toNat_natCast] at hE
      rw [Int.toNat_natCast, Int.toNat_natCast]
      have hnum : RNum 100 [.int .i64 ((S : Nat) : Int)] (.str (numS S)) [] := RNum_is rfl (by omega)
      have hnl := numS_len S
      have hall : allL E S X p = (frontL S X p S ++ midL p ++ bodL E p S) ++ [endL] := rfl
      have hSE : S * (1 + E.length) ≤ 31 * 2001 := Nat.mul_le_mul hS31 (by omega)
      have hbs := fun s => nl_len (bodL_short (S := S) hp3 hE s)
      have hes := fun s i h => nl_len (edsL_short (S := S) (s := s) hp3 hE i h)
      have hfs := fun i => nl_len (frontL_short (S := S) (X := X) (p := p) (i := i))
      have hmid : nl (midL p) = apT p p ++ [10, 97, 99, 99, 45, 110, 97, 109, 101, 58, 32, 66, 117, 99, 104, 105, 10, 65, 99, 99, 101, 112, 116, 97, 110, 99, 101, 58, 32, 49, 32, 73, 110, 102, 40, 48, 41, 10, 45, 45, 66, 79, 68, 89, 45, 45, 10] := by simp [nl, midL]
      have hapl := apT_len p p
      obtain ⟨F, hF0, hFy, hFn, hFl⟩ : ∃ F : Nat → List UInt8, F 0 = (([72, 79, 65, 58, 32, 118, 49, 10, 83, 116, 97, 116, 101, 115, 58, 32] ++ numS S) ++ [10]) ∧ (∀ i, X.testBit i = true → F (i + 1) = ((F i ++ [83, 116, 97, 114, 116, 58, 32]) ++ numS i) ++ [10]) ∧ (∀ i, X.testBit i = false → F (i + 1) = F i) ∧ ∀ i, F i = nl (frontL S X p i) := by
        refine ⟨fun i => nl (frontL S X p i), ?_, fun i h => ?_, fun i h => ?_, fun i => rfl⟩
        · simp [frontL, hdL, nl, bitL]
        · dsimp only
          rw [frontL, bitL_yes h, List.map_append, ← List.append_assoc, nl_app, List.map_cons, List.map_nil, nl_one]
          simp [stL, frontL]
        · dsimp only
          rw [frontL, bitL_no h, frontL]
      have hFb : ∀ i, (F i).length ≤ 128 * (2 + i) := fun i => by rw [hFl]; exact hfs i
      clear hfs
      refine ⟨by simp, vc2_sound hR _ _ _ _ _ ?_⟩
      conv => whnf
      repeat' ((first | contradiction | (refine And.intro (fun hb => ?_) (fun hb => ?_) <;> first | contradiction | ((try simp only [SB, reduceCtorEq] at hb); try (exfalso; first | contradiction | omega))) | refine G2 ?_ | rw [ints_at (by omega)] | rw [ints_at0 (by omega)] | rw [ints_at' (by omega) (by omega)] | refine G1 ?_ | refine ⟨_, _, RAutoOk_v (b := true) rfl hok, ?_⟩ | refine ⟨_, _, hpo, ?_⟩ | refine ⟨_, _, hnum, ?_⟩ | (refine And.intro (by simp only [List.length_append, List.length_cons, List.length_nil]; omega) ?_) | fail) <;> conv => whnf)
      refine Lp.intro (α := Nat) (fun i => i ≤ S) (fun i => S - i)
        (fun i => [(1, .ptr 0 0 0), (4, .int .i64 ((p : Nat) : Int)), (5, .str (F i)), (6, .int .i64 ((i : Nat) : Int))])
        (fun i => [some (.box [.int .i64 letters, .int .i64 ((S : Nat) : Int), .int .i64 ((X : Nat) : Int), .val (edgeRows E)])]) ?_ ?_
      · refine ⟨0, Nat.zero_le _, [some 0], rfl, rfl, And.intro ⟨.inl rfl, .inl rfl, .inl rfl, .inl rfl, trivial⟩ trivial, ?_⟩
        exact ⟨rfl, .inl rfl, .inl (congrArg AV.str hF0.symm), .inl rfl, trivial⟩
      intro i hi
      have hFi := hFb i
      refine vc2_sound hR _ _ _ _ _ ?_
      by_cases hlt : i < S
      · have hni : RNum 100 [.int .i64 ((i : Nat) : Int)] (.str (numS i)) [] := RNum_is rfl (by omega)
        have hnil := numS_len i
        have hbit : ∀ b, X.testBit i = b → RHas [.int .i64 ((X : Nat) : Int), .int .i64 ((i : Nat) : Int)] (.bool b) [] := fun b h => by rw [← h]; exact RHas_v rfl (by omega) (by omega)
        cases hb2 : X.testBit i with
        | true =>
          have hF1 := hFy i hb2
          have hbt := hbit _ hb2
          conv => whnf
          repeat' ((first | contradiction | (refine And.intro (fun hb => ?_) (fun hb => ?_) <;> first | contradiction | ((try simp only [SB, reduceCtorEq] at hb); try (exfalso; first | contradiction | omega))) | refine G2 ?_ | rw [ints_at (by omega)] | rw [ints_at0 (by omega)] | rw [ints_at' (by omega) (by omega)] | refine G1 ?_ | refine ⟨_, _, hni, ?_⟩ | refine ⟨_, _, hbt, ?_⟩ | (refine And.intro (by simp only [List.length_append, List.length_cons, List.length_nil]; omega) ?_) | fail) <;> conv => whnf)
          refine ⟨i + 1, hlt, by omega, [some 0], rfl, rfl, And.intro ⟨.inl rfl, .inl rfl, .inl rfl, .inl rfl, trivial⟩ trivial, ?_⟩
          exact ⟨rfl, .inl rfl, .inl (congrArg AV.str hF1.symm), .inl rfl, trivial⟩
        | false =>
          have hF1 := hFn i hb2
          have hbt := hbit _ hb2
          conv => whnf
          repeat' ((first | contradiction | (refine And.intro (fun hb => ?_) (fun hb => ?_) <;> first | contradiction | ((try simp only [SB, reduceCtorEq] at hb); try (exfalso; first | contradiction | omega))) | refine G2 ?_ | rw [ints_at (by omega)] | rw [ints_at0 (by omega)] | rw [ints_at' (by omega) (by omega)] | refine G1 ?_ | refine ⟨_, _, hbt, ?_⟩ | fail) <;> conv => whnf)
          refine ⟨i + 1, hlt, by omega, [some 0], rfl, rfl, And.intro ⟨.inl rfl, .inl rfl, .inl rfl, .inl rfl, trivial⟩ trivial, ?_⟩
          exact ⟨rfl, .inl rfl, .inl (congrArg AV.str hF1.symm), .inl rfl, trivial⟩
      obtain rfl : i = S := by omega
      have hap := RAp_mk (k := p) hp3
      obtain ⟨C, hC⟩ : ∃ C, C = F i ++ nl (midL p) := ⟨_, rfl⟩
      have hC2 : C = (F i ++ apT p p) ++ [10, 97, 99, 99, 45, 110, 97, 109, 101, 58, 32, 66, 117, 99, 104, 105, 10, 65, 99, 99, 101, 112, 116, 97, 110, 99, 101, 58, 32, 49, 32, 73, 110, 102, 40, 48, 41, 10, 45, 45, 66, 79, 68, 89, 45, 45, 10] := by rw [hC, hmid, List.append_assoc]
      have hCl := congrArg List.length hC2
      simp only [List.length_append, List.length_cons, List.length_nil] at hCl
      have hCn : C = nl (frontL i X p i ++ midL p) := by rw [hC, hFl, nl_app]
      conv => whnf
      repeat' ((first | contradiction | (refine And.intro (fun hb => ?_) (fun hb => ?_) <;> first | contradiction | ((try simp only [SB, reduceCtorEq] at hb); try (exfalso; first | contradiction | omega))) | refine G2 ?_ | rw [ints_at (by omega)] | rw [ints_at0 (by omega)] | rw [ints_at' (by omega) (by omega)] | refine G1 ?_ | refine ⟨_, _, hap, ?_⟩ | (refine And.intro (by simp only [List.length_append, List.length_cons, List.length_nil]; omega) ?_) | fail) <;> conv => whnf)
      refine Lp.intro (α := Nat) (fun s => s ≤ i) (fun s => i - s)
        (fun s => [(1, .ptr 0 0 0), (4, .int .i64 ((p : Nat) : Int)), (5, .str (C ++ nl (bodL E p s))), (7, .int .i64 ((s : Nat) : Int))])
        (fun s => [some (.box [.int .i64 letters, .int .i64 ((i : Nat) : Int), .int .i64 ((X : Nat) : Int), .val (edgeRows E)])]) ?_ ?_
      · refine ⟨0, Nat.zero_le _, [some 0], rfl, rfl, And.intro ⟨.inl rfl, .inl rfl, .inl rfl, .inl rfl, trivial⟩ trivial, ?_⟩
        exact ⟨rfl, .inl rfl, .inl (congrArg AV.str (hC2.symm.trans (by simp [bodL, nl]))), .inl rfl, trivial⟩
      intro s hs
      have hbs1 := hbs s
      have hsS : s * (1 + E.length) ≤ 31 * 2001 := Nat.mul_le_mul (by omega) (by omega)
      have hq2 : (C ++ nl (bodL E p s)).length = C.length + (nl (bodL E p s)).length := List.length_append
      refine vc2_sound hR _ _ _ _ _ ?_
      by_cases hlts : s < i
      · have hns : RNum 100 [.int .i64 ((s : Nat) : Int)] (.str (numS s)) [] := RNum_is rfl (by omega)
        have hnsl := numS_len s
        obtain ⟨D, hD⟩ : ∃ D, D = (((C ++ nl (bodL E p s)) ++ [83, 116, 97, 116, 101, 58, 32]) ++ numS s) ++ [10] := ⟨_, rfl⟩
        have hDl := congrArg List.length hD
        simp only [List.length_append, List.length_cons, List.length_nil] at hDl
        conv => whnf
        repeat' ((first | contradiction | (refine And.intro (fun hb => ?_) (fun hb => ?_) <;> first | contradiction | ((try simp only [SB, reduceCtorEq] at hb); try (exfalso; first | contradiction | omega))) | refine G2 ?_ | rw [ints_at (by omega)] | rw [ints_at0 (by omega)] | rw [ints_at' (by omega) (by omega)] | refine G1 ?_ | refine ⟨_, _, hns, ?_⟩ | (refine And.intro (by simp only [List.length_append, List.length_cons, List.length_nil]; omega) ?_) | fail) <;> conv => whnf)
        refine Lp.intro (α := Nat) (fun j => j ≤ E.length) (fun j => E.length - j)
          (fun j => [(1, .ptr 0 0 0), (4, .int .i64 ((p : Nat) : Int)), (5, .str (D ++ nl (edsL E p s j))), (7, .int .i64 ((s : Nat) : Int)), (8, .int .i64 ((j : Nat) : Int))])
          (fun j => [some (.box [.int .i64 letters, .int .i64 ((i : Nat) : Int), .int .i64 ((X : Nat) : Int), .val (edgeRows E)])]) ?_ ?_
        · refine ⟨0, Nat.zero_le _, [some 0], rfl, rfl, And.intro ⟨.inl rfl, .inl rfl, .inl rfl, .inl rfl, trivial⟩ trivial, ?_⟩
          exact ⟨rfl, .inl rfl, .inl (congrArg AV.str (hD.symm.trans (by simp [edsL, nl]))), .inl rfl, .inl rfl, trivial⟩
        intro j hj
        have hes1 := hes s j hj
        have hq4 : (D ++ nl (edsL E p s j)).length = D.length + (nl (edsL E p s j)).length := List.length_append
        refine vc2_sound hR _ _ _ _ _ ?_
        by_cases hlt : j < E.length
        · have hcell := edge_at hlt
          have he := hE _ (getD_mem' hlt)
          obtain ⟨e, hee⟩ : ∃ e, E.getD j default = e := ⟨_, rfl⟩
          rw [hee] at hcell he
          by_cases hsrc : e.src = ((s : Nat) : Int)
          · have hnx := edsL_yes (p := p) hee hsrc
            obtain ⟨src, letter, dst, mark⟩ := e
            dsimp only at he hsrc
            obtain ⟨⟨hl0, hlp⟩, hd0, hd1⟩ := he
            obtain ⟨x, rfl⟩ : ∃ x : Nat, letter = ((x : Nat) : Int) := ⟨letter.toNat, by omega⟩
            obtain ⟨d, rfl⟩ : ∃ d : Nat, dst = ((d : Nat) : Int) := ⟨dst.toNat, by omega⟩
            rw [Int.toNat_natCast] at hlp
            have g1 := lab_good p hp3 x hlp
            have g2 := lab_tree p hp3 x hlp
            have g3 := lab_ok p hp3 x hlp
            have g4 := labT_len p hp3 x hlp
            have hEd : edT ⟨src, x, d, mark⟩ p = ((([91] ++ labT x p) ++ [93, 32]) ++ numS d) ++ (if mark = true then [32, 123, 48, 125] else []) := rfl
            have hnd : RNum 100 [.int .i64 ((d : Nat) : Int)] (.str (numS d)) [] := RNum_is rfl (by omega)
            have hndl := numS_len d
            have hXb : RBit [.int .i64 ((x : Nat) : Int)] (.int .i64 ((2 ^ x : Nat) : Int)) [] := RBit_v (by have := setP p hp3 x hlp; omega) rfl
            have hL := fun xs h => RLab_is (xs := xs) (x := x) (p := p) h hp3 hlp
            unfold labT at g4 hEd
            have hln := length_nodeRows (labN x p)
            obtain ⟨Y, hYe⟩ : ∃ Y, Y = 2 ^ x := ⟨_, rfl⟩
            rw [← hYe] at hXb hL
            generalize labN x p = l at *
            have hP : ∀ xs, xs = [.val (nodeRows l)] → RPrintE xs (.str (tx l (l.length - 1))) [] := fun xs h => RPrintE_eq h g1 g2 g3
            generalize tx l (l.length - 1) = t at *
            cases mark
            all_goals
              conv => whnf
              repeat' ((first | contradiction | (refine And.intro (fun hb => ?_) (fun hb => ?_) <;> first | contradiction | ((try simp only [SB, reduceCtorEq] at hb); try (exfalso; first | contradiction | omega))) | rw [hcell] | refine G2 ?_ | rw [ints_at (by omega)] | rw [ints_at0 (by omega)] | rw [ints_at' (by omega) (by omega)] | refine G1 ?_ | refine ⟨_, _, hXb, ?_⟩ | refine ⟨_, _, hL _ rfl, ?_⟩ | refine ⟨_, _, hP _ (args_cons (snap_all rfl (length_nodeRows l)) rfl), ?_⟩ | refine ⟨_, _, hnd, ?_⟩ | (refine And.intro (by simp only [List.length_append, List.length_cons, List.length_nil]; omega) ?_) | fail) <;> conv => whnf)
              refine ⟨j + 1, hlt, by omega, [some 0], rfl, rfl, And.intro ⟨.inl rfl, .inl rfl, .inl rfl, .inl rfl, trivial⟩ trivial, ?_⟩
              refine ⟨rfl, .inl rfl, .inl (congrArg AV.str ?_), .inl rfl, .inl rfl, trivial⟩
              rw [hnx, nl_app, nl_one, hEd]
              simp
          · have hnx := edsL_no (p := p) hee hsrc
            conv => whnf
            repeat' ((first | contradiction | (refine And.intro (fun hb => ?_) (fun hb => ?_) <;> first | contradiction | ((try simp only [SB, reduceCtorEq] at hb); try (exfalso; first | contradiction | omega))) | rw [hcell] | refine G2 ?_ | rw [ints_at (by omega)] | rw [ints_at0 (by omega)] | rw [ints_at' (by omega) (by omega)] | refine G1 ?_ | fail) <;> conv => whnf)
            refine ⟨j + 1, hlt, by omega, [some 0], rfl, rfl, And.intro ⟨.inl rfl, .inl rfl, .inl rfl, .inl rfl, trivial⟩ trivial, ?_⟩
            exact ⟨rfl, .inl rfl, .inl (congrArg AV.str (by rw [hnx])), .inl rfl, .inl rfl, trivial⟩
        · obtain rfl : j = E.length := by omega
          have hnx : D ++ nl (edsL E p s E.length) = C ++ nl (bodL E p (s + 1)) := by rw [hD, bodL, nl_app, nl_app, nl_one]; simp [sttL]
          conv => whnf
          repeat' ((first | contradiction | (refine And.intro (fun hb => ?_) (fun hb => ?_) <;> first | contradiction | ((try simp only [SB, reduceCtorEq] at hb); try (exfalso; first | contradiction | omega))) | refine G2 ?_ | rw [ints_at (by omega)] | rw [ints_at0 (by omega)] | rw [ints_at' (by omega) (by omega)] | refine G1 ?_ | fail) <;> conv => whnf)
          refine ⟨s + 1, hlts, by omega, [some 0], rfl, rfl, And.intro ⟨.inl rfl, .inl rfl, .inl rfl, .inl rfl, trivial⟩ trivial, ?_⟩
          exact ⟨rfl, .inl rfl, .inl (congrArg AV.str hnx), .inl rfl, trivial⟩
      · obtain rfl : s = i := by omega
        have hend : (C ++ nl (bodL E p s)) ++ [45, 45, 69, 78, 68, 45, 45, 10] = nl (allL E s X p) := by rw [hall, nl_app, nl_app, nl_one, ← hCn]; simp [endL]
        conv => whnf
        repeat' ((first | contradiction | (refine And.intro (fun hb => ?_) (fun hb => ?_) <;> first | contradiction | ((try simp only [SB, reduceCtorEq] at hb); try (exfalso; first | contradiction | omega))) | refine G2 ?_ | rw [ints_at (by omega)] | rw [ints_at0 (by omega)] | rw [ints_at' (by omega) (by omega)] | refine G1 ?_ | (refine And.intro (by simp only [List.length_append, List.length_cons, List.length_nil]; omega) ?_) | fail) <;> conv => whnf)
        refine ⟨.inl rfl, ?_⟩
        conv => whnf
        exact ⟨[], ⟨rfl, trivial⟩, And.intro (.inl (congrArg AV.str hend)) (And.intro (.inl rfl) trivial), rfl, rfl⟩
    · have hT : hoaT a = ([], false) := by unfold hoaT; rw [if_neg (fun h => ha h.1)]
      rw [hT]
      have hok : decide (AutoOk a) = false := decide_eq_false ha
      have hpo : RPow [.int .i64 a.letters] (.int .i64 ((p : Nat) : Int)) [] := RPow_is hpw
      refine ⟨by simp, vc2_sound hR _ _ _ _ _ ?_⟩
      conv => whnf
      repeat' ((first | contradiction | (refine And.intro (fun hb => ?_) (fun hb => ?_) <;> first | contradiction | ((try simp only [SB, reduceCtorEq] at hb); try (exfalso; first | contradiction | omega))) | refine G2 ?_ | rw [ints_at (by omega)] | rw [ints_at0 (by omega)] | rw [ints_at' (by omega) (by omega)] | refine G1 ?_ | refine ⟨_, _, RAutoOk_v (b := false) rfl hok, ?_⟩ | refine ⟨_, _, hpo, ?_⟩ | fail) <;> conv => whnf)
      refine ⟨.inl rfl, ?_⟩
      conv => whnf
      refine ⟨[], ⟨rfl, trivial⟩, ?_, rfl, rfl⟩
      repeat' (first | exact trivial | refine And.intro ?_ ?_)
      all_goals
        conv => whnf
        left
        conv => lhs; whnf
  · have hT : hoaT a = ([], false) := by unfold hoaT; rw [if_neg (fun h => hk h.2)]
    rw [hT]
    obtain ⟨k, hke⟩ : ∃ k, powI a.letters = k := ⟨_, rfl⟩
    rw [hke] at hk
    have hpo : RPow [.int .i64 a.letters] (.int .i64 k) [] := RPow_is hke
    refine ⟨by simp, vc2_sound hR _ _ _ _ _ ?_⟩
    obtain ⟨b, hb2⟩ : ∃ b, decide (AutoOk a) = b := ⟨_, rfl⟩
    cases b
    all_goals
      conv => whnf
      repeat' ((first | contradiction | (refine And.intro (fun hb => ?_) (fun hb => ?_) <;> first | contradiction | ((try simp only [SB, reduceCtorEq] at hb); try (exfalso; first | contradiction | omega))) | refine G2 ?_ | rw [ints_at (by omega)] | rw [ints_at0 (by omega)] | rw [ints_at' (by omega) (by omega)] | refine G1 ?_ | refine ⟨_, _, RAutoOk_v rfl hb2, ?_⟩ | refine ⟨_, _, hpo, ?_⟩ | fail) <;> conv => whnf)
      refine ⟨.inl rfl, ?_⟩
      conv => whnf
      refine ⟨[], ⟨rfl, trivial⟩, ?_, rfl, rfl⟩
      repeat' (first | exact trivial | refine And.intro ?_ ?_)
      all_goals
        conv => whnf
        left
        conv => lhs; whnf
end Go.Proofs.YthanhknkoikbfaaDoor.Ct
namespace Go.Proofs.YthanhknkoikbfaaDoor.Ct
open Go Go.Proofs Go.Proofs.YthanhknkoikbfaaDoor.Av
def markE (k : Int) (i : Nat) : EdgeD := ⟨k + 4 * i, k + 4 * i + 1, k + 4 * i + 2, (k + 4 * i + 3).tmod 3 == 0⟩
def marksE (k : Int) (n : Nat) : List EdgeD := (List.range n).map (markE k)
@[simp] theorem length_marksE (k : Int) (n : Nat) : (marksE k n).length = n := by simp [marksE]
def autoRef (o : Nat) (a : AutoD) : List AV := [.int .i64 a.letters, .int .i64 a.states, .int .i64 a.start, .ref o 0 a.edges.length]
def RToAutoO (xs : List AV) (r : AV) (objs : List AObj) : Prop := ∃ x, xs = [.agg (autoRow x)] ∧ x.edges.length ≤ 1048576 ∧ r = .agg (autoRef 0 x) ∧ objs = [.arr 4 (edgeRows x.edges)]
theorem RToAutoO_mk {x : AutoD} (h : x.edges.length ≤ 1048576) : RToAutoO [.agg (autoRow x)] (.agg (autoRef 0 x)) [.arr 4 (edgeRows x.edges)] := ⟨x, rfl, h, rfl, rfl⟩
theorem o_laws_toAuto : PureSound Tryd.prog 6 RToAutoO := by
  have hR : Rely Tryd.prog (ctxOf [(18, .pure RToEdgeS)]) := rely_cons b_laws_toEdgeS.has s_laws_toEdgeS (rely_nil mixed)
  refine pure_of_aw b_laws_toAuto ?_
  rintro xs r objs ⟨x, rfl, hx, rfl, rfl⟩ -
  refine ⟨by simp, vc2_sound hR _ _ _ _ _ ?_⟩
  conv => whnf
  repeat' ((first | contradiction | (refine And.intro (fun hb => ?_) (fun hb => ?_) <;> first | contradiction | ((try simp only [SB, reduceCtorEq] at hb); try (exfalso; first | contradiction | omega))) | refine G2 ?_ | rw [ints_at (by omega)] | rw [ints_at0 (by omega)] | rw [ints_at' (by omega) (by omega)] | refine G1 ?_ | refine ⟨_, _, RToEdgeS_mk hx, ?_⟩ | fail) <;> conv => whnf)
  refine ⟨.inl rfl, ?_⟩
  conv => whnf
  refine And.intro (Nat.le_of_ble_eq_true rfl) ?_
  conv => whnf
  refine ⟨[some 3], ⟨rfl, And.intro (And.intro rfl rfl) trivial⟩, ?_, rfl, by simp [AObj.nov, edgeRows_nov]⟩
  exact And.intro (.inl rfl) (And.intro (.inl rfl) (And.intro (.inl rfl) (And.intro rfl trivial)))
theorem snap_auto {h : Heap} {id : Nat} {a : AutoD} (ho : h id = some (.arr 4 (edgeRows a.edges))) : (AV.agg (autoRef id a)).snap h = .agg (autoRow a) :=
  snap_agg (cells_cons rfl (cells_cons rfl (cells_cons rfl (cells_cons (snap1_all ho (length_edgeRows _)) rfl))))
theorem snap_auto2 {h h2 : Heap} {id : Nat} {a : AutoD} (ho : h2 id = some (.arr 4 (edgeRows a.edges))) : (AV.agg ((autoRef id a).map (AV.snap1 h2))).snap h = .agg (autoRow a) :=
  snap_agg (cells_cons rfl (cells_cons rfl (cells_cons rfl (cells_cons (snap1_all2 ho (length_edgeRows _)) rfl))))
theorem REqAuto_eq {xs : List AV} {x y : AutoD} (h : xs = [.agg (autoRow x), .agg (autoRow y)]) : REqAuto xs (.bool (decide (x = y))) [] := ⟨x, y, h, rfl, rfl⟩
end Go.Proofs.YthanhknkoikbfaaDoor.Ct
namespace Go.Proofs.YthanhknkoikbfaaDoor.Ct
open Go Go.Proofs Go.Proofs.YthanhknkoikbfaaDoor.Av Go.Proofs.YthanhknkoikbfaaDoor.Pl
def c_laws_FnExactHoaWrite : ICode := (.seq (.reg [O1 1 (.box 4) 0, Ol 2 .mv [cb false]]) (.seq (.reg [Ol 3 .mv [ci 1048576]]) (.seq (.reg [O1 9 (.ldn 4) 1, O1 10 .mv 3, O2 11 (.call 4) 9 10, O1 3 .mv 11]) (.seq (.seq (.reg [O1 12 .mv 3, Ol 13 (.bin .lss) [.t 12, ci 0]]) (.cond (.t 13) (.seq (.reg [Ol 2 .mv [cb true]]) .ret) .skip)) (.seq (.reg [O1 15 (.ldn 4) 1, O1 16 (.call 6) 15, O1 17 (.call 5) 16, O1 14 .mv 17, O1 18 (.ext 0) 14, O1 19 (.ext 1) 14, O1 4 .mv 18, O1 5 .mv 19]) (.seq (.reg [O1 20 (.ldn 4) 1, O1 21 (.call 6) 20, O0 6 (.alc [(.int .i64 0), (.int .i64 0), (.int .i64 0), .snil]), S2 (.st 4) 6 21]) (.seq (.reg [O1 23 (.ldn 4) 6, O1 24 (.call 7) 23, O1 22 .mv 24, O1 25 (.ext 0) 22, O1 26 (.ext 1) 22, O1 7 .mv 25, O1 8 .mv 26]) (.seq (.seq (.reg [O1 27 .mv 7, O1 28 .mv 4, O2 29 (.bin .neq) 27 28, O1 30 .mv 29, Og 31 .mv [.t 8] 30 false, Og 32 .mv [.t 5] 30 false, Og 33 (.beq true) [.t 31, .t 32] 30 false, Ol 34 .pick [.t 30, cb true, .t 33]]) (.cond (.t 34) (.seq (.reg [Ol 2 .mv [cb false]]) .ret) .skip)) (.seq (.seq (.drw [O1 35 (.ldn 4) 6, O1 36 (.ldn 4) 1, O1 37 (.call 6) 36, O2 38 (.call 8) 35 37, O1 39 .not 38] (unB [0, 0, 2, 7, 15] 0) true true) (.cond (.t 39) (.seq (.reg [Ol 2 .mv [cb false]]) .ret) .skip)) (.seq (.reg [Ol 2 .mv [cb true]]) .ret))))))))))
theorem b_laws_FnExactHoaWrite : Body Tryd.prog 3 40 c_laws_FnExactHoaWrite [(.t 2)] := body_mk Tryd.func3 (by kernel_rfl) (by decide)
def RTrueAuto (xs : List AV) (r : AV) (objs : List AObj) : Prop := ∃ a, xs = [.agg (autoRow a)] ∧ r = .bool true ∧ objs = []
set_option maxRecDepth 4000 in
set_option maxHeartbeats 8000000 in
theorem s_laws_FnExactHoaWrite : PureSound Tryd.prog 3 RTrueAuto := by
  have hR : Rely Tryd.prog (ctxOf [(4, .pure RSzAuto), (6, .pure RToAutoO), (5, .pure RHoa), (7, .pure RHoa), (8, .pure REqAuto)]) :=
    rely_cons b_laws_szAuto.has s_laws_szAuto (rely_cons b_laws_toAuto.has o_laws_toAuto (rely_cons b_spec_HoaWrite.has s_spec_HoaWrite (rely_cons b_impl_HoaWrite.has s_impl_HoaWrite (rely_cons b_laws_eqAuto.has s_laws_eqAuto (rely_nil mixed)))))
  refine pure_of_aw b_laws_FnExactHoaWrite ?_
  rintro xs r objs ⟨a, rfl, rfl, rfl⟩ -
  refine ⟨by simp, vc2_sound hR _ _ _ _ _ ?_⟩
  conv => whnf
  repeat' ((first | contradiction | (refine And.intro (fun hb => ?_) (fun hb => ?_) <;> first | contradiction | ((try simp only [SB, reduceCtorEq] at hb); try (exfalso; first | contradiction | omega))) | refine G2 ?_ | rw [ints_at (by omega)] | rw [ints_at0 (by omega)] | rw [ints_at' (by omega) (by omega)] | refine G1 ?_ | refine ⟨_, _, RSzAuto_mk (x := a) (by omega) (by omega), ?_⟩ | fail) <;> conv => whnf)
  · refine ⟨.inl rfl, ?_⟩
    conv => whnf
    refine ⟨[], ⟨rfl, trivial⟩, ?_, rfl, rfl⟩
    conv => whnf
    left
    conv => lhs; whnf
  have hs : a.edges.length ≤ 1048576 := by split at hb <;> omega
  obtain ⟨t, b, ht⟩ : ∃ t b, hoaT a = (t, b) := ⟨_, _, rfl⟩
  have hg : ∀ xs, xs = [.agg (autoRow a)] → RHoa xs (.tup [.str t, .bool b]) [] := fun xs h => RHoa_is h ht
  clear hb
  cases b
  all_goals
    conv => whnf
    repeat' ((first | contradiction | (refine And.intro (fun hb => ?_) (fun hb => ?_) <;> first | contradiction | ((try simp only [SB, reduceCtorEq] at hb); try (exfalso; first | contradiction | omega))) | refine G2 ?_ | rw [ints_at (by omega)] | rw [ints_at0 (by omega)] | rw [ints_at' (by omega) (by omega)] | refine G1 ?_ | refine ⟨_, _, RToAutoO_mk hs, ?_⟩ | refine ⟨_, _, hg _ (args_cons (snap_auto rfl) rfl), ?_⟩ | refine ⟨_, _, REqAuto_eq (x := a) (y := a) (args_cons (snap_auto rfl) (args_cons (snap_auto rfl) rfl)), ?_⟩ | refine ⟨_, _, REqAuto_eq (x := a) (y := a) (args_cons (snap_auto rfl) (args_cons (snap_auto2 rfl) rfl)), ?_⟩ | fail) <;> conv => whnf)
    refine ⟨.inl rfl, ?_⟩
    conv => whnf
    refine ⟨[], ⟨rfl, trivial⟩, ?_, rfl, rfl⟩
    conv => whnf
    left
    conv => lhs; whnf
end Go.Proofs.YthanhknkoikbfaaDoor.Ct
