/- Part 8 of the proof of FnAskOneSaid: CtCanon to CtLawAsk1. Conditions: none. -/
import Derived.Test.YthanhknkoikbfaaT7
import Derived.Test.YthanhknkoikbfaaT5
import Derived.Test.YthanhknkoikbfaaT4
namespace Go.Proofs.Ythanhknkoikbfaa.Ct
set_option linter.unusedSimpArgs false
set_option linter.unusedVariables false
open Go Go.Proofs Go.Proofs.Ythanhknkoikbfaa.Av Go.Proofs.Ythanhknkoikbfaa.Pl
def c_slices_Equal_int_int : ICode := (.seq (.reg [Ol 4 .mv [cb false]]) (.seq (.seq (.reg [O1 6 .mv 0, O1 7 .len 6, O1 8 .mv 1, O1 9 .len 8, O2 10 (.bin .neq) 7 9]) (.cond (.t 10) (.seq (.reg [Ol 4 .mv [cb false]]) .ret) .skip)) (.seq (.seq (.reg [O1 11 .mv 0, O1 12 .len 11, Ol 13 .mv [ci 0]]) (.block 0 (.loop (.seq (.reg [O2 14 (.bin .lss) 13 12]) (.seq (.cond (.t 14) .skip (.exit 0)) (.seq (.block 1 (.seq (.reg [O1 15 .mv 13, O1 5 .mv 15]) (.seq (.drw [O1 16 .mv 0, O1 17 .mv 5, O2 18 (.iadr 1) 16 17, O1 19 .ld1 18, O1 20 .mv 1, O1 21 .mv 5, O2 22 (.iadr 1) 20 21, O1 23 .ld1 22, O2 24 (.bin .neq) 19 23] (unB [0, 0, 3, 7, 0, 0, 48, 112, 255] 0) true true) (.cond (.t 24) (.seq (.reg [Ol 4 .mv [cb false]]) .ret) .skip)))) (.reg [Ol 25 (.bin .add) [.t 13, ci 1], O1 13 .mv 25]))))))) (.seq (.reg [Ol 4 .mv [cb true]]) .ret))))
theorem b_slices_Equal_int_int : Body Try.prog 184 26 c_slices_Equal_int_int [(.t 4)] := body_mk Try.func184 (by kernel_rfl) (by decide)
def c_impl_period : ICode := (.seq (.reg [Ol 2 .mv [ci 0]]) (.seq (.seq (.reg [Ol 3 .mv [ci 1]]) (.block 0 (.loop (.seq (.seq (.reg [O1 4 .mv 3, O1 5 .mv 0, O1 6 .len 5, O2 7 (.bin .lss) 4 6]) (.cond (.t 7) .skip (.exit 0))) (.seq (.block 1 (.seq (.drw [O1 10 .mv 0, O1 11 .len 10, O1 12 .mv 3, O2 13 (.bin .rem) 11 12, Ol 14 (.bin .eql) [.t 13, ci 0], O1 15 .mv 14, Og 16 .mv [.t 0] 15 true, Og 17 .mv [.t 3] 15 true, Og 18 (.slc 1 true false) [.t 16, .t 17] 15 true, Og 19 .mv [.t 0] 15 true, Og 20 .mv [.t 0] 15 true, Og 21 .len [.t 20] 15 true, Og 22 .mv [.t 3] 15 true, Og 23 (.bin .sub) [.t 21, .t 22] 15 true, Og 24 (.slc 1 false true) [.t 19, .t 23] 15 true, Og 25 (.call 184) [.t 18, .t 24] 15 true, Ol 26 .pick [.t 15, .t 25, cb false]] (unB [0, 1, 0, 7, 15, 31, 63, 63, 255, 63, 63, 1087, 63, 7231, 15935, 32767, 65535] 0) true true) (.cond (.t 26) (.seq (.reg [O1 27 .mv 3, O1 2 .mv 27]) .ret) .skip))) (.reg [O1 8 .mv 3, Ol 9 (.bin .add) [.t 8, ci 1], O1 3 .mv 9])))))) (.seq (.reg [O1 28 .mv 0, O1 29 .len 28, O1 2 .mv 29]) .ret)))
theorem b_impl_period : Body Try.prog 129 30 c_impl_period [(.t 2)] := body_mk Try.func129 (by kernel_rfl) (by decide)
def c_impl_WordCanon : ICode := (.seq (.reg [O1 1 (.box 2) 0, O0 2 (.alc [.snil, .snil])]) (.seq (.seq (.reg [O1 6 (.ldn 2) 1, O1 7 (.call 127) 6, O1 8 .not 7]) (.cond (.t 8) (.seq (.reg [O0 9 (.bld [.snil, .snil] []), S2 (.st 2) 2 9]) .ret) .skip)) (.seq (.reg [O1 10 (.fadr 0) 1, O1 11 .ld1 10, O1 12 (.call 128) 11, O1 3 .mv 12]) (.seq (.drw [O1 13 (.fadr 1) 1, O1 14 .ld1 13, O1 15 (.fadr 1) 1, O1 16 .ld1 15, O1 17 (.call 129) 16, O2 18 (.slc 1 false true) 14 17, O1 19 (.call 128) 18, O1 4 .mv 19] (unB [0, 1, 0, 4, 12, 31, 63, 127] 0) true true) (.seq (.reg [O1 20 .mv 4, O1 21 .len 20, Ol 22 (.bin .sub) [.t 21, ci 1], O1 5 .mv 22]) (.seq (.block 0 (.loop (.seq (.seq (.drw [O1 23 .mv 3, O1 24 .len 23, Ol 25 (.bin .gtr) [.t 24, ci 0], O1 26 .mv 25, Og 27 .mv [.t 3] 26 true, Og 28 .mv [.t 3] 26 true, Og 29 .len [.t 28] 26 true, Og 30 (.bin .sub) [.t 29, ci 1] 26 true, Og 31 (.iadr 1) [.t 27, .t 30] 26 true, Og 32 .ld1 [.t 31] 26 true, Og 33 .mv [.t 4] 26 true, Og 34 .mv [.t 5] 26 true, Og 35 (.iadr 1) [.t 33, .t 34] 26 true, Og 36 .ld1 [.t 35] 26 true, Og 37 (.bin .eql) [.t 32, .t 36] 26 true, Ol 38 .pick [.t 26, .t 37, cb false]] (unB [0, 1, 3, 7, 15, 15, 47, 111, 255, 511, 15, 15, 3087, 7183, 16383, 32767] 0) true true) (.cond (.t 38) .skip (.exit 0))) (.block 1 (.seq (.reg [O1 39 .mv 3, O1 40 .mv 3, O1 41 .len 40, Ol 42 (.bin .sub) [.t 41, ci 1], O2 43 (.slc 1 false true) 39 42, O1 3 .mv 43]) (.drw [O1 44 .mv 4, O1 45 .mv 5, O2 46 (.slc 1 true false) 44 45, O1 47 .mv 4, O1 48 .mv 5, O2 49 (.slc 1 false true) 47 48, O2 50 (.bsl 1) 46 49, O1 51 (.call 107) 50, O1 4 .mv 51] (unB [0, 0, 3, 0, 0, 24, 63, 127, 255] 0) true true)))))) (.seq (.reg [O1 52 .mv 3, O1 53 .mv 4, O2 54 (.bld [.snil, .snil] [(0, 1), (1, 1)]) 52 53, S2 (.st 2) 2 54]) .ret)))))))
theorem b_impl_WordCanon : Body Try.prog 49 55 c_impl_WordCanon [(.cn 2 2)] := body_mk Try.func49 (by kernel_rfl) (by decide)
def c_impl_equalWords : ICode := (.seq (.reg [O1 2 (.box 2) 0, O1 3 (.box 2) 1, Ol 4 .mv [cb false]]) (.seq (.reg [O1 5 (.fadr 0) 2, O1 6 .ld1 5, O1 7 (.fadr 0) 3, O1 8 .ld1 7, O2 9 (.call 184) 6 8, O1 10 .mv 9, Og 11 (.fadr 1) [.t 2] 10 true, Og 12 .ld1 [.t 11] 10 true, Og 13 (.fadr 1) [.t 3] 10 true, Og 14 .ld1 [.t 13] 10 true, Og 15 (.call 184) [.t 12, .t 14] 10 true, Ol 16 .pick [.t 10, .t 15, cb false], O1 4 .mv 16]) .ret))
theorem b_impl_equalWords : Body Try.prog 145 17 c_impl_equalWords [(.t 4)] := body_mk Try.func145 (by kernel_rfl) (by decide)
def c_impl_WordSame : ICode := (.seq (.reg [O1 2 (.box 2) 0, O1 3 (.box 2) 1, Ol 4 .mv [cb false]]) (.seq (.drw [O1 5 (.ldn 2) 2, O1 6 (.call 127) 5, O1 7 .mv 6, Og 8 (.ldn 2) [.t 3] 7 true, Og 9 (.call 127) [.t 8] 7 true, Ol 10 .pick [.t 7, .t 9, cb false], O1 11 .mv 10, Og 12 (.ldn 2) [.t 2] 11 true, Og 13 (.call 49) [.t 12] 11 true, Og 14 (.ldn 2) [.t 3] 11 true, Og 15 (.call 49) [.t 14] 11 true, Og 16 (.call 145) [.t 13, .t 15] 11 true, Ol 17 .pick [.t 11, .t 16, cb false], O1 4 .mv 17] (unB [0, 1, 3, 7, 15, 31, 63, 127, 255, 127, 1023, 2047, 4095, 8191] 0) true true) .ret))
theorem b_impl_WordSame : Body Try.prog 63 18 c_impl_WordSame [(.t 4)] := body_mk Try.func63 (by kernel_rfl) (by decide)
theorem s_slices_EqualI : PureSound Try.prog 184 REqIntS := by
  have hR : Rely Try.prog (ctxOf []) := rely_nil mixed
  refine pure_of_aw b_slices_Equal_int_int ?_
  rintro xs r objs ⟨a, b, rfl, rfl, rfl⟩ ⟨w, own, vs, hrel⟩
  have hl : (ints a).length ≤ 9223372036854775807 := by
    obtain ⟨v, hv⟩ := rels_at hrel (i := 0) rfl
    exact rel_len hv
  rw [length_ints] at hl
  clear hrel
  have hla := length_ints a
  refine ⟨by simp, vc2_sound hR _ _ _ _ _ ?_⟩
  conv => whnf
  repeat' ((first | contradiction | (refine And.intro (fun hb => ?_) (fun hb => ?_) <;> first | contradiction | ((try simp only [SB, reduceCtorEq] at hb); try (exfalso; first | contradiction | omega))) | refine G2 ?_ | rw [ints_at (by omega)] | rw [ints_at0 (by omega)] | rw [ints_at' (by omega) (by omega)] | refine G1 ?_ | fail) <;> conv => whnf)
  · refine ⟨.inl rfl, ?_⟩
    conv => whnf
    refine ⟨[], ⟨rfl, trivial⟩, ?_, rfl, rfl⟩
    conv => whnf
    left
    conv => lhs; whnf
    refine congrArg AV.bool (Eq.symm (decide_eq_false ?_))
    intro h; subst h; exact hb rfl
  · refine Lp.intro (α := Nat) (fun i => i ≤ a.length ∧ ∀ j, j < i → a.getD j 0 = b.getD j 0) (fun i => a.length - i) (fun i => [(0, .val (ints a)), (1, .val (ints b)), (12, .int .i64 a.length), (13, .int .i64 i)]) (fun _ => []) ?_ ?_
    · refine ⟨0, ⟨by omega, by omega⟩, [], rfl, rfl, trivial, ?_⟩
      exact ⟨.inl rfl, .inl rfl, .inl (congrArg (fun x : Nat => AV.int .i64 x) hla), .inl rfl, trivial⟩
    · rintro i ⟨hi, hall⟩
      refine vc2_sound hR _ _ _ _ _ ?_
      conv => whnf
      repeat' ((first | contradiction | (refine And.intro (fun hb => ?_) (fun hb => ?_) <;> first | contradiction | ((try simp only [SB, reduceCtorEq] at hb); try (exfalso; first | contradiction | omega))) | refine G2 ?_ | rw [ints_at (by omega)] | rw [ints_at0 (by omega)] | rw [ints_at' (by omega) (by omega)] | refine G1 ?_ | fail) <;> conv => whnf)
      · refine ⟨.inl rfl, ?_⟩
        conv => whnf
        refine ⟨[], ⟨rfl, trivial⟩, ?_, rfl, rfl⟩
        conv => whnf
        left
        conv => lhs; whnf
        refine congrArg AV.bool (Eq.symm (decide_eq_false ?_))
        intro h; subst h; exact hb rfl
      · refine ⟨i + 1, ⟨by omega, fun j hj => ?_⟩, by omega, [], rfl, rfl, trivial, ?_⟩
        · by_cases hji : j = i
          · subst hji; exact hb
          · exact hall j (by omega)
        · exact ⟨.inl rfl, .inl rfl, .inl rfl, .inl rfl, trivial⟩
      · refine ⟨.inl rfl, ?_⟩
        conv => whnf
        refine ⟨[], ⟨rfl, trivial⟩, ?_, rfl, rfl⟩
        conv => whnf
        left
        conv => lhs; whnf
        refine congrArg AV.bool (Eq.symm (decide_eq_true ?_))
        exact eq_of_getD (by omega) (fun j hj => hall j (by omega))
theorem sub_ints {l : List Int} {i n : Nat} : sub (ints l) i n = ints ((l.drop i).take n) := by simp [sub, ints, List.map_drop, List.map_take]
def RPeriod (xs : List AV) (r : AV) (objs : List AObj) : Prop := ∃ l, xs = [.val (ints l)] ∧ 0 < l.length ∧ l.length ≤ 1000 ∧ r = .int .i64 ((perL l : Nat) : Int) ∧ objs = []
theorem RPeriod_eq {xs : List AV} {l : List Int} (hx : xs = [.val (ints l)]) (h0 : 0 < l.length) (h1 : l.length ≤ 1000) : RPeriod xs (.int .i64 ((perL l : Nat) : Int)) [] := ⟨l, hx, h0, h1, rfl, rfl⟩
theorem perL_at {l : List Int} {n : Nat} (hl : 0 < l.length) (h : Per l n) (hn : ∀ m, m < n → ¬ Per l m) : perL l = n := by
  obtain ⟨h1, h2, h3⟩ := perL_spec hl
  have := h3 n h
  rcases Nat.lt_or_ge (perL l) n with c | c
  · exact absurd h1 (hn _ c)
  · omega
set_option maxHeartbeats 1000000 in
theorem s_impl_period : PureSound Try.prog 129 RPeriod := by
  have hR : Rely Try.prog (ctxOf [(184, .pure REqIntS)]) := rely_cons b_slices_Equal_int_int.has s_slices_EqualI (rely_nil mixed)
  refine pure_of_aw b_impl_period ?_
  rintro xs r objs ⟨l, rfl, h0, h1, rfl, rfl⟩ -
  have hle := length_ints l
  refine ⟨by simp, vc2_sound hR _ _ _ _ _ ?_⟩
  conv => whnf
  repeat' ((first | contradiction | (refine And.intro (fun hb => ?_) (fun hb => ?_) <;> first | contradiction | ((try simp only [SB, reduceCtorEq] at hb); try (exfalso; first | contradiction | omega))) | refine G2 ?_ | rw [ints_at (by omega)] | rw [ints_at0 (by omega)] | rw [ints_at' (by omega) (by omega)] | refine G1 ?_ | fail) <;> conv => whnf)
  refine Lp.intro (α := Nat) (fun n => 1 ≤ n ∧ n ≤ l.length ∧ ∀ m, m < n → ¬ Per l m) (fun n => l.length - n) (fun n => [(0, .val (ints l)), (3, .int .i64 n)]) (fun _ => []) ?_ ?_
  · refine ⟨1, ⟨Nat.le_refl _, h0, fun m hm hp => by have := hp.1; omega⟩, [], rfl, rfl, trivial, ?_⟩
    exact ⟨.inl rfl, .inl rfl, trivial⟩
  rintro n ⟨hn1, hnl, hno⟩
  refine vc2_sound hR _ _ _ _ _ ?_
  by_cases hlt : n < l.length
  · have hmod : Int.tmod (((ints l).length : Nat) : Int) ((n : Nat) : Int) = ((l.length % n : Nat) : Int) := by
      rw [hle]
      exact (Int.ofNat_tmod _ _).symm
    have hlt' : l.length % n < n := Nat.mod_lt _ hn1
    have hEq : ∀ xs, xs = [.val (ints (l.drop n)), .val (ints (l.take (l.length - n)))] → REqIntS xs (.bool (decide (l.drop n = l.take (l.length - n)))) [] := fun xs h => REqIntS_eq h
    have e1 : sub (ints l) ((n : Nat) : Int).toNat ((((ints l).length : Nat) : Int) - ((n : Nat) : Int)).toNat = ints (l.drop n) := by
      rw [sub_ints, hle, Int.toNat_natCast, List.take_of_length_le (by rw [List.length_drop]; omega)]
    have e2 : sub (ints l) (Int.toNat 0) ((((ints l).length : Nat) : Int) - ((n : Nat) : Int) - 0).toNat = ints (l.take (l.length - n)) := by
      rw [sub_ints, hle, show (((l.length : Nat) : Int) - ((n : Nat) : Int) - 0).toNat = l.length - n by omega]
      rfl
    have hskip : ¬ Per l n → ∃ a', (1 ≤ a' ∧ a' ≤ l.length ∧ ∀ m, m < a' → ¬ Per l m) ∧ l.length - a' < l.length - n ∧ a' = n + 1 := fun h => ⟨n + 1, ⟨by omega, hlt, fun m hm => by
      by_cases hmn : m = n
      · subst hmn; exact h
      · exact hno m (by omega)⟩, by omega, rfl⟩
    by_cases hd : l.drop n = l.take (l.length - n)
    · rw [decide_eq_true hd] at hEq
      conv => whnf
      repeat' ((first | contradiction | (refine And.intro (fun hb => ?_) (fun hb => ?_) <;> first | contradiction | ((try simp only [SB, reduceCtorEq] at hb); try (exfalso; first | contradiction | omega))) | rw [hmod] | refine G2 ?_ | rw [ints_at (by omega)] | rw [ints_at0 (by omega)] | rw [ints_at' (by omega) (by omega)] | refine G1 ?_ | refine And.intro ints_w ?_ | refine ⟨_, _, hEq _ (args_cons (congrArg AV.val e1) (args_cons (congrArg AV.val e2) rfl)), ?_⟩ | fail) <;> conv => whnf)
      · rename_i g1 _ _
        refine ⟨.inl rfl, ?_⟩
        conv => whnf
        refine ⟨[], ⟨rfl, trivial⟩, ?_, rfl, rfl⟩
        conv => whnf
        left
        conv => lhs; whnf
        exact congrArg (fun x : Nat => AV.int .i64 x) (perL_at h0 ⟨hn1, by omega, hd⟩ hno).symm
      · obtain ⟨_, g1, g2, rfl⟩ := hskip (fun h => by have := h.2.1; omega)
        refine ⟨n + 1, g1, g2, [], rfl, rfl, trivial, ?_⟩
        exact ⟨.inl rfl, .inl rfl, trivial⟩
    · rw [decide_eq_false hd] at hEq
      conv => whnf
      repeat' ((first | contradiction | (refine And.intro (fun hb => ?_) (fun hb => ?_) <;> first | contradiction | ((try simp only [SB, reduceCtorEq] at hb); try (exfalso; first | contradiction | omega))) | rw [hmod] | refine G2 ?_ | rw [ints_at (by omega)] | rw [ints_at0 (by omega)] | rw [ints_at' (by omega) (by omega)] | refine G1 ?_ | refine And.intro ints_w ?_ | refine ⟨_, _, hEq _ (args_cons (congrArg AV.val e1) (args_cons (congrArg AV.val e2) rfl)), ?_⟩ | fail) <;> conv => whnf)
      all_goals
        obtain ⟨_, g1, g2, rfl⟩ := hskip (fun h => hd h.2.2)
        refine ⟨n + 1, g1, g2, [], rfl, rfl, trivial, ?_⟩
        exact ⟨.inl rfl, .inl rfl, trivial⟩
  · obtain rfl : n = l.length := by omega
    conv => whnf
    repeat' ((first | contradiction | (refine And.intro (fun hb => ?_) (fun hb => ?_) <;> first | contradiction | ((try simp only [SB, reduceCtorEq] at hb); try (exfalso; first | contradiction | omega))) | refine G2 ?_ | rw [ints_at (by omega)] | rw [ints_at0 (by omega)] | rw [ints_at' (by omega) (by omega)] | refine G1 ?_ | fail) <;> conv => whnf)
    refine ⟨.inl rfl, ?_⟩
    conv => whnf
    refine ⟨[], ⟨rfl, trivial⟩, ?_, rfl, rfl⟩
    conv => whnf
    left
    conv => lhs; whnf
    exact congrArg (fun x : Nat => AV.int .i64 x) (hle.trans (perL_at h0 (per_self h0) hno).symm)
theorem RRight_b {xs : List AV} {s l : List Int} {b : Bool} (hx : xs = [wordV s l]) (h : wordOk s l 8 = b) : RRight xs (.bool b) [] := ⟨s, l, hx, by rw [h], rfl⟩
theorem last_ints {l : List Int} {n : Nat} (h : l.length = n) (h0 : 0 < n) : (ints l)[(((n : Nat) : Int) - 1).toNat]? = some [.int .i64 (l.getD (n - 1) 0)] := by
  rw [show (((n : Nat) : Int) - 1).toNat = n - 1 by omega]
  simp [ints, List.getElem?_map, List.getD_eq_getElem?_getD, show n - 1 < l.length by omega]
theorem getLastD_eq {l : List Int} {n : Nat} (h : l.length = n) (h0 : 0 < n) : l.getLastD 0 = l.getD (n - 1) 0 := by
  subst h
  rw [List.getLastD_eq_getLast?, List.getLast?_eq_getElem?, List.getD_eq_getElem?_getD]
theorem drop_last {l : List Int} {n : Nat} (h : l.length = n) (h0 : 0 < n) : l.drop (n - 1) = [l.getD (n - 1) 0] := by
  subst h
  rw [List.drop_eq_getElem_cons (by omega), List.drop_of_length_le (by omega), List.getD_eq_getElem?_getD, List.getElem?_eq_getElem (by omega)]
  rfl
theorem dropLast_eq {l : List Int} {n : Nat} (h : l.length = n) : l.dropLast = l.take (n - 1) := by subst h; exact List.dropLast_eq_take
theorem rollW_yes {s k : List Int} {m p : Nat} (hs : s.length = m + 1) (hk : k.length = p) (hp : 0 < p) (h : s.getD m 0 = k.getD (p - 1) 0) : rollW (m + 1) s k = rollW m (s.take m) (k.drop (p - 1) ++ k.take (p - 1)) := by
  have hne : s ≠ [] := fun h0 => by rw [h0] at hs; cases hs
  have e1 : s.getLastD 0 = s.getD m 0 := getLastD_eq hs (by omega)
  have e2 := getLastD_eq hk hp
  rw [rollW, if_pos ⟨hne, by rw [e1, e2, h]⟩, e2, dropLast_eq hs, dropLast_eq hk, drop_last hk hp]
  rfl
theorem rollW_no {s k : List Int} {m p : Nat} (hs : s.length = m + 1) (hk : k.length = p) (hp : 0 < p) (h : s.getD m 0 ≠ k.getD (p - 1) 0) : rollW (m + 1) s k = (s, k) := by
  have e1 : s.getLastD 0 = s.getD m 0 := getLastD_eq hs (by omega)
  have e2 := getLastD_eq hk hp
  rw [rollW, if_neg (by rintro ⟨_, h2⟩; rw [e1, e2] at h2; exact h h2)]
def RCanonW (xs : List AV) (r : AV) (objs : List AObj) : Prop := ∃ s l, xs = [wordV s l] ∧ wordOk s l 8 = true ∧ r = wordV (canonW s l).1 (canonW s l).2 ∧ objs = []
theorem RCanonW_eq {xs : List AV} {s l : List Int} (hx : xs = [wordV s l]) (h : wordOk s l 8 = true) : RCanonW xs (wordV (canonW s l).1 (canonW s l).2) [] := ⟨s, l, hx, h, rfl, rfl⟩
set_option maxHeartbeats 4000000 in
theorem s_impl_WordCanon : LooseSound Try.prog 49 RCanonW := by
  have hR : Rely Try.prog (ctxOf [(127, .pure RRight), (128, .pure RCloneI), (129, .pure RPeriod), (107, .pure RConcat)]) :=
    rely_cons b_impl_isRight.has s_impl_isRight (rely_cons b_slices_Clone_int_int.has s_slices_CloneI (rely_cons b_impl_period.has s_impl_period (rely_cons b_slices_Concat_int_int.has s_slices_Concat (rely_nil mixed))))
  have hV : CtxNV (ctxOf [(127, .pure RRight), (128, .pure RCloneI), (129, .pure RPeriod), (107, .pure RConcat)]) := nv_pure (nv_pure (nv_pure (nv_pure nvNil)))
  refine loose_of_aw b_impl_WordCanon ?_
  rintro xs r objs ⟨s, l, rfl, hw, rfl, rfl⟩ -
  obtain ⟨_, hs40, hl40, hl0⟩ := let_ok hw
  have hs := length_ints s
  have hl := length_ints l
  obtain ⟨hp1, hp2, hp3⟩ := perL_spec hl0
  have hp0 := hp1.1
  have hPer : ∀ xs, xs = [.val (ints l)] → RPeriod xs (.int .i64 ((perL l : Nat) : Int)) [] := fun xs h => RPeriod_eq h hl0 (by omega)
  generalize hW : canonW s l = W
  unfold canonW at hW
  generalize perL l = p at *
  have e2 : sub (ints l) (Int.toNat 0) (((p : Nat) : Int) - 0).toNat = ints (l.take p) := by
    rw [sub_ints, show (((p : Nat) : Int) - 0).toNat = p by omega]
    rfl
  have hk1 : (l.take p).length = p := by rw [List.length_take]; omega
  refine ⟨by simp, vc3_sound hR hV _ _ _ _ _ ?_⟩
  conv => whnf
  repeat' ((first | contradiction | (refine And.intro (fun hb => ?_) (fun hb => ?_) <;> first | contradiction | ((try simp only [SB, reduceCtorEq] at hb); try (exfalso; first | contradiction | omega))) | refine G2 ?_ | rw [ints_at (by omega)] | rw [ints_at0 (by omega)] | rw [ints_at' (by omega) (by omega)] | refine G1 ?_ | refine ⟨_, _, RRight_b rfl hw, ?_⟩ | refine ⟨_, _, RCloneI_eq (l := s) rfl (by omega), ?_⟩ | refine ⟨_, _, hPer _ rfl, ?_⟩ | refine And.intro ints_w ?_ | refine ⟨_, _, RCloneI_eq (l := l.take p) (args_cons (congrArg AV.val e2) rfl) (by omega), ?_⟩ | fail) <;> conv => whnf)
  refine Lp.intro (α := Nat × List Int) (fun c => c.1 ≤ s.length ∧ c.2.length = p ∧ rollW c.1 (s.take c.1) c.2 = W) (fun c => c.1) (fun c => [(2, .ptr 0 0 0), (3, .val (ints (s.take c.1))), (4, .val (ints c.2)), (5, .int .i64 (((p : Nat) : Int) - 1))]) (fun c => [some (.box [.snil, .snil])]) ?_ ?_
  · refine ⟨(s.length, l.take p), ⟨Nat.le_refl _, hk1, by rw [List.take_length]; exact hW⟩, [some 1], rfl, rfl, ?_, ?_⟩
    · exact And.intro (And.intro (.inl rfl) (And.intro (.inl rfl) trivial)) trivial
    · exact ⟨rfl, .inr ((snap_all rfl hs).trans (by rw [List.take_length])), .inr (snap_all rfl (length_ints _)), .inl (congrArg (AV.int .i64) (by rw [hk1])), trivial⟩
  rintro ⟨m, k⟩ ⟨hm, hk, hr⟩
  dsimp only at hm hk hr ⊢
  have hki := length_ints k
  have hsk := length_ints (s.take m)
  rw [List.length_take, Nat.min_eq_left hm] at hsk
  refine vc3_sound hR hV _ _ _ _ _ ?_
  cases m with
  | zero =>
    conv => whnf
    repeat' ((first | contradiction | (refine And.intro (fun hb => ?_) (fun hb => ?_) <;> first | contradiction | ((try simp only [SB, reduceCtorEq] at hb); try (exfalso; first | contradiction | omega))) | refine G2 ?_ | rw [ints_at (by omega)] | rw [ints_at0 (by omega)] | rw [ints_at' (by omega) (by omega)] | refine G1 ?_ | fail) <;> conv => whnf)
    subst hr
    refine ⟨.inl rfl, ?_⟩
    conv => whnf
    exact ⟨Nat.le_refl 2, [], ⟨rfl, trivial⟩, ⟨.inl rfl, .inl rfl, trivial⟩⟩
  | succ m =>
    have hst : (s.take (m + 1)).length = m + 1 := by rw [List.length_take]; omega
    have hstk : (s.take (m + 1)).take m = s.take m := by rw [List.take_take, Nat.min_eq_left (by omega)]
    have hsm := last_ints hst (by omega)
    have hkm := last_ints hk hp0
    have hyes := rollW_yes hst hk hp0
    have hno := rollW_no hst hk hp0
    rw [Nat.add_sub_cancel] at hsm
    generalize s.take (m + 1) = s1 at *
    rw [show ((m + 1 : Nat) : Int) = (((ints s1).length : Nat) : Int) by rw [hsk]] at hsm
    have e3 : sub (ints s1) (Int.toNat 0) ((((ints s1).length : Nat) : Int) - 1 - 0).toNat = ints (s.take m) := by
      rw [sub_ints, hsk, show (((m + 1 : Nat) : Int) - 1 - 0).toNat = m by omega, ← hstk]
      rfl
    have e4 : sub (ints k) (((p : Nat) : Int) - 1).toNat ((((ints k).length : Nat) : Int) - (((p : Nat) : Int) - 1)).toNat = ints (k.drop (p - 1)) := by
      rw [sub_ints, hki, show (((p : Nat) : Int) - 1).toNat = p - 1 by omega, List.take_of_length_le (by rw [List.length_drop]; omega)]
    have e5 : sub (ints k) (Int.toNat 0) ((((p : Nat) : Int) - 1) - 0).toNat = ints (k.take (p - 1)) := by
      rw [sub_ints, show ((((p : Nat) : Int) - 1) - 0).toNat = p - 1 by omega]
      rfl
    have hrows : [[AV.val (sub (ints k) (((p : Nat) : Int) - 1).toNat ((((ints k).length : Nat) : Int) - (((p : Nat) : Int) - 1)).toNat)], [AV.val (sub (ints k) (Int.toNat 0) ((((p : Nat) : Int) - 1) - 0).toNat)]] = rowsL [k.drop (p - 1), k.take (p - 1)] := by
      rw [e4, e5]; rfl
    have hfl : [k.drop (p - 1), k.take (p - 1)].flatten.length = p := by simp; omega
    conv => whnf
    repeat' ((first | contradiction | (refine And.intro (fun hb => ?_) (fun hb => ?_) <;> first | contradiction | ((try simp only [SB, reduceCtorEq] at hb); try (exfalso; first | contradiction | omega))) | rw [hsm] | rw [hkm] | refine G2 ?_ | rw [ints_at (by omega)] | rw [ints_at0 (by omega)] | rw [ints_at' (by omega) (by omega)] | refine G1 ?_ | refine And.intro ints_w ?_ | refine ⟨_, _, RConcat_eq (Ls := [k.drop (p - 1), k.take (p - 1)]) (args_cons (snap_is rfl hrows rfl) rfl) (by simp) (by simp) (by omega), ?_⟩ | fail) <;> conv => whnf)
    · have hy := hyes (by assumption)
      rw [hstk] at hy
      refine ⟨(m, k.drop (p - 1) ++ k.take (p - 1)), ⟨by dsimp only; omega, by simp; omega, hy.symm.trans hr⟩, by dsimp only; omega, [some 0], rfl, rfl, And.intro (And.intro (.inl rfl) (And.intro (.inl rfl) trivial)) trivial, ?_⟩
      exact ⟨rfl, .inl (congrArg AV.val e3), .inr ((snap_all rfl (length_ints _)).trans (congrArg (fun l => AV.val (ints l)) (by simp))), .inl rfl, trivial⟩
    · rw [hno (by assumption)] at hr
      subst hr
      refine ⟨.inl rfl, ?_⟩
      conv => whnf
      exact ⟨Nat.le_refl 2, [], ⟨rfl, trivial⟩, ⟨.inl rfl, .inl rfl, trivial⟩⟩
noncomputable def sameW (s l s' l' : List Int) : Bool := open Classical in wordOk s l 8 && wordOk s' l' 8 && decide (canonW s l = canonW s' l')
def REqualW (xs : List AV) (r : AV) (objs : List AObj) : Prop := ∃ s l s' l', xs = [wordV s l, wordV s' l'] ∧ r = .bool (decide ((s, l) = (s', l'))) ∧ objs = []
theorem REqualW_eq {xs : List AV} {s l s' l' : List Int} (hx : xs = [wordV s l, wordV s' l']) : REqualW xs (.bool (decide ((s, l) = (s', l')))) [] := ⟨s, l, s', l', hx, rfl, rfl⟩
theorem s_impl_equalWords : PureSound Try.prog 145 REqualW := by
  have hR : Rely Try.prog (ctxOf [(184, .pure REqIntS)]) := rely_cons b_slices_Equal_int_int.has s_slices_EqualI (rely_nil mixed)
  refine pure_of_aw b_impl_equalWords ?_
  rintro xs r objs ⟨s, l, s', l', rfl, rfl, rfl⟩ -
  refine ⟨by simp, vc2_sound hR _ _ _ _ _ ?_⟩
  conv => whnf
  repeat' ((first | contradiction | (refine And.intro (fun hb => ?_) (fun hb => ?_) <;> first | contradiction | ((try simp only [SB, reduceCtorEq] at hb); try (exfalso; first | contradiction | omega))) | refine G2 ?_ | rw [ints_at (by omega)] | rw [ints_at0 (by omega)] | rw [ints_at' (by omega) (by omega)] | refine G1 ?_ | refine ⟨_, _, REqIntS_eq rfl, ?_⟩ | fail) <;> conv => whnf)
  all_goals
    refine ⟨.inl rfl, ?_⟩
    conv => whnf
    refine ⟨[], ⟨rfl, trivial⟩, ?_, rfl, rfl⟩
    conv => whnf
    left
    conv => lhs; whnf
    refine congrArg AV.bool ?_
    simp_all
def RSameW (xs : List AV) (r : AV) (objs : List AObj) : Prop := ∃ s l s' l', xs = [wordV s l, wordV s' l'] ∧ r = .bool (sameW s l s' l') ∧ objs = []
theorem RSameW_is {xs : List AV} {s l s' l' : List Int} {b : Bool} (hx : xs = [wordV s l, wordV s' l']) (h : sameW s l s' l' = b) : RSameW xs (.bool b) [] := ⟨s, l, s', l', hx, by rw [h], rfl⟩
theorem s_impl_WordSame : PureSound Try.prog 63 RSameW := by
  have hR : Rely Try.prog (ctxOf [(127, .pure RRight), (49, .loose RCanonW), (145, .pure REqualW)]) := rely_cons b_impl_isRight.has s_impl_isRight (rely_cons b_impl_WordCanon.has s_impl_WordCanon (rely_cons b_impl_equalWords.has s_impl_equalWords (rely_nil mixed)))
  refine pure_of_aw b_impl_WordSame ?_
  rintro xs r objs ⟨s, l, s', l', rfl, rfl, rfl⟩ -
  refine ⟨by simp, vc2_sound hR _ _ _ _ _ ?_⟩
  unfold sameW
  cases hw : wordOk s l 8 with
  | false =>
    conv => whnf
    repeat' ((first | contradiction | (refine And.intro (fun hb => ?_) (fun hb => ?_) <;> first | contradiction | ((try simp only [SB, reduceCtorEq] at hb); try (exfalso; first | contradiction | omega))) | refine G2 ?_ | rw [ints_at (by omega)] | rw [ints_at0 (by omega)] | rw [ints_at' (by omega) (by omega)] | refine G1 ?_ | refine ⟨_, _, RRight_b (s := s) (l := l) rfl hw, ?_⟩ | fail) <;> conv => whnf)
    refine ⟨.inl rfl, ?_⟩
    conv => whnf
    refine ⟨[], ⟨rfl, trivial⟩, ?_, rfl, rfl⟩
    conv => whnf
    left
    conv => lhs; whnf
    rfl
  | true =>
    cases hw' : wordOk s' l' 8 with
    | false =>
      conv => whnf
      repeat' ((first | contradiction | (refine And.intro (fun hb => ?_) (fun hb => ?_) <;> first | contradiction | ((try simp only [SB, reduceCtorEq] at hb); try (exfalso; first | contradiction | omega))) | refine G2 ?_ | rw [ints_at (by omega)] | rw [ints_at0 (by omega)] | rw [ints_at' (by omega) (by omega)] | refine G1 ?_ | refine ⟨_, _, RRight_b (s := s) (l := l) rfl hw, ?_⟩ | refine ⟨_, _, RRight_b (s := s') (l := l') rfl hw', ?_⟩ | fail) <;> conv => whnf)
      refine ⟨.inl rfl, ?_⟩
      conv => whnf
      refine ⟨[], ⟨rfl, trivial⟩, ?_, rfl, rfl⟩
      conv => whnf
      left
      conv => lhs; whnf
      rfl
    | true =>
      have hEq : ∀ xs, xs = [wordV (canonW s l).1 (canonW s l).2, wordV (canonW s' l').1 (canonW s' l').2] → REqualW xs (.bool (decide (((canonW s l).1, (canonW s l).2) = ((canonW s' l').1, (canonW s' l').2)))) [] := fun xs h => REqualW_eq h
      by_cases hc : canonW s l = canonW s' l'
      · rw [decide_eq_true hc] at hEq
        rw [decide_eq_true hc]
        conv => whnf
        repeat' ((first | contradiction | (refine And.intro (fun hb => ?_) (fun hb => ?_) <;> first | contradiction | ((try simp only [SB, reduceCtorEq] at hb); try (exfalso; first | contradiction | omega))) | refine G2 ?_ | rw [ints_at (by omega)] | rw [ints_at0 (by omega)] | rw [ints_at' (by omega) (by omega)] | refine G1 ?_ | refine ⟨_, _, RRight_b (s := s) (l := l) rfl hw, ?_⟩ | refine ⟨_, _, RRight_b (s := s') (l := l') rfl hw', ?_⟩ | refine ⟨_, _, RCanonW_eq (s := s) (l := l) rfl hw, ?_⟩ | refine ⟨_, _, RCanonW_eq (s := s') (l := l') rfl hw', ?_⟩ | refine ⟨_, _, hEq _ rfl, ?_⟩ | fail) <;> conv => whnf)
        refine ⟨.inl rfl, ?_⟩
        conv => whnf
        refine ⟨[], ⟨rfl, trivial⟩, ?_, rfl, rfl⟩
        conv => whnf
        left
        conv => lhs; whnf
        rfl
      · rw [decide_eq_false hc] at hEq
        rw [decide_eq_false hc]
        conv => whnf
        repeat' ((first | contradiction | (refine And.intro (fun hb => ?_) (fun hb => ?_) <;> first | contradiction | ((try simp only [SB, reduceCtorEq] at hb); try (exfalso; first | contradiction | omega))) | refine G2 ?_ | rw [ints_at (by omega)] | rw [ints_at0 (by omega)] | rw [ints_at' (by omega) (by omega)] | refine G1 ?_ | refine ⟨_, _, RRight_b (s := s) (l := l) rfl hw, ?_⟩ | refine ⟨_, _, RRight_b (s := s') (l := l') rfl hw', ?_⟩ | refine ⟨_, _, RCanonW_eq (s := s) (l := l) rfl hw, ?_⟩ | refine ⟨_, _, RCanonW_eq (s := s') (l := l') rfl hw', ?_⟩ | refine ⟨_, _, hEq _ rfl, ?_⟩ | fail) <;> conv => whnf)
        refine ⟨.inl rfl, ?_⟩
        conv => whnf
        refine ⟨[], ⟨rfl, trivial⟩, ?_, rfl, rfl⟩
        conv => whnf
        left
        conv => lhs; whnf
        rfl
theorem sameW_self {s l : List Int} (h : wordOk s l 8 = true) : sameW s l s l = true := by
  unfold sameW
  rw [h]
  simp
end Go.Proofs.Ythanhknkoikbfaa.Ct
namespace Go.Proofs.Ythanhknkoikbfaa.Ct
set_option linter.unusedSimpArgs false
set_option linter.unusedVariables false
open Go Go.Proofs Go.Proofs.Ythanhknkoikbfaa.Av Go.Proofs.Ythanhknkoikbfaa.Pl
def c_impl_AutoWord : ICode := (.seq (.reg [O1 1 (.box 4) 0, O0 2 (.alc [.snil, .snil]), Ol 3 .mv [cb false]]) (.seq (.seq (.reg [O1 12 (.ldn 4) 1, O1 13 (.call 70) 12, O1 14 .not 13]) (.cond (.t 14) (.seq (.reg [O0 15 (.bld [.snil, .snil] []), S2 (.st 2) 2 15, Ol 3 .mv [cb false]]) .ret) .skip)) (.seq (.reg [O1 16 (.fadr 2) 1, O1 17 .ld1 16, O2 18 (.call 112) 1 17, O1 19 (.call 121) 1, O1 20 (.call 104) 19, O1 4 .mv 18, O1 5 .mv 20]) (.seq (.seq (.reg [O1 21 (.fadr 3) 1, O1 22 .ld1 21, O1 23 .len 22, Ol 24 .mv [ci 0]]) (.block 0 (.loop (.seq (.reg [O2 25 (.bin .lss) 24 23]) (.seq (.cond (.t 25) .skip (.exit 0)) (.seq (.block 1 (.seq (.reg [O2 26 (.iadr 4) 22 24, O1 27 (.ldn 4) 26, O0 7 (.alc [(.int .i64 0), (.int .i64 0), (.int .i64 0), (.bool false)]), S2 (.st 4) 7 27]) (.seq (.seq (.drw [O1 28 (.fadr 3) 7, O1 29 .ld1 28, O1 30 .not 29, O1 31 .mv 30, Og 32 .mv [.t 4] 31 false, Og 33 (.fadr 0) [.t 7] 31 false, Og 34 .ld1 [.t 33] 31 false, Og 35 (.call 125) [.t 32, .t 34] 31 false, Og 36 .not [.t 35] 31 false, Ol 37 .pick [.t 31, cb true, .t 36], O1 38 .mv 37, Og 39 .mv [.t 5] 38 false, Og 40 (.fadr 0) [.t 7] 38 false, Og 41 .ld1 [.t 40] 38 false, Og 42 (.iadr 1) [.t 39, .t 41] 38 false, Og 43 .ld1 [.t 42] 38 false, Og 44 .mv [.t 5] 38 false, Og 45 (.fadr 2) [.t 7] 38 false, Og 46 .ld1 [.t 45] 38 false, Og 47 (.iadr 1) [.t 44, .t 46] 38 false, Og 48 .ld1 [.t 47] 38 false, Og 49 (.bin .neq) [.t 43, .t 48] 38 false, Ol 50 .pick [.t 38, cb true, .t 49]] (unB [0, 1, 3, 7, 15, 15, 47, 127, 255, 511, 1023, 2047, 2047, 6143, 16383, 32767, 2047, 2047, 133119, 460799, 985087, 2097151, 4194303] 0) true true) (.cond (.t 50) (.exit 1) .skip)) (.seq (.reg [O1 52 (.fadr 2) 1, O1 53 .ld1 52, O1 54 (.fadr 0) 7, O1 55 .ld1 54, O3 56 (.call 140) 1 53 55, O1 51 .mv 56, O1 57 (.ext 0) 51, O1 58 (.ext 1) 51, O1 8 .mv 57, O1 9 .mv 58]) (.seq (.drw [O1 60 (.fadr 2) 7, O1 61 .ld1 60, O1 62 (.call 141) 61, O1 63 (.fadr 0) 7, O1 64 .ld1 63, O3 65 (.call 140) 1 62 64, O1 59 .mv 65, O1 66 (.ext 0) 59, O1 67 (.ext 1) 59, O1 10 .mv 66, O1 11 .mv 67] (unB [0, 1, 3, 0, 8, 31, 63, 127, 127, 255, 1023] 0) true true) (.seq (.reg [O1 68 .mv 8, O1 69 (.fadr 1) 7, O1 70 .ld1 69, O1 71 (.bsl 1) 70, O1 72 .mv 10, O2 73 (.bsl 1) 71 72, O1 74 (.call 107) 73, O2 75 (.bld [.snil, .snil] [(0, 1), (1, 1)]) 68 74, S2 (.st 2) 2 75, Ol 3 .mv [cb true]]) .ret)))))) (.reg [Ol 76 (.bin .add) [.t 24, ci 1], O1 24 .mv 76]))))))) (.seq (.reg [O0 77 (.bld [.snil, .snil] []), S2 (.st 2) 2 77, Ol 3 .mv [cb false]]) .ret)))))
theorem b_impl_AutoWord : Body Try.prog 57 78 c_impl_AutoWord [(.cn 2 2), (.t 3)] := body_mk Try.func57 (by kernel_rfl) (by decide)
theorem adj_autoE {a : AutoD} (h : AutoOk a) : Adj (autoG a) = EA a := by
  funext p q; exact propext (adj_auto h)
theorem ring_ok {a : AutoD} (ha : AutoOk a) {out : List Int} (ho : IsRings (Adj (autoG a)) (autoG a).length out) {e : EdgeD} (he : e ∈ a.edges) :
    out.getD e.src.toNat 0 = out.getD e.dst.toNat 0 ↔ (pathW a (2 ^ e.dst.toNat) e.src.toNat).2 = true := by
  have hl := ea_lt ha ⟨e, he, rfl, rfl⟩
  rw [show (autoG a).length = a.states.toNat from length_mkG _ _, adj_autoE ha] at ho
  rw [ho.2.2 _ _ hl.1 hl.2, path_ok ha hl.2 hl.1]
  exact ⟨fun h => h.2, fun h => ⟨Rel1.one ⟨e, he, rfl, rfl⟩, h⟩⟩
set_option maxHeartbeats 8000000 in
theorem s_impl_AutoWord : PureSound Try.prog 57 RAWord := by
  have hR : Rely Try.prog (ctxOf [(70, .pure RAutoOk), (112, .pure RReach), (121, .pure RAutoG), (104, .gen 0 GRings), (125, .pure RHas), (141, .pure RBit), (140, .pure RPath), (107, .pure RConcat)]) :=
    rely_cons b_impl_AutoOk.has s_impl_AutoOk (rely_cons b_impl_Auto_reach.has s_impl_reach (rely_cons b_impl_Auto_graph.has s_impl_graph (rely_cons b_impl_graph_rings.has s_impl_rings (rely_cons b_impl_has.has s_impl_has (rely_cons b_impl_only.has s_impl_onlyB (rely_cons b_impl_Auto_pathWord.has s_impl_pathWord (rely_cons b_slices_Concat_int_int.has s_slices_Concat (rely_nil mixed))))))))
  refine pure_of_aw b_impl_AutoWord ?_
  rintro xs r objs ⟨a, rfl, rfl, rfl⟩ -
  refine ⟨by simp, vcS_sound hR [16, 68] _ _ _ _ _ ?_⟩
  by_cases ha : AutoOk a
  · have hs := ha.1.2.1
    have hlet := ha.1.1
    have hst := ha.1.2.2
    have hsl := start_lt ha
    have es : a.start = ((a.start.toNat : Nat) : Int) := by omega
    rw [if_pos ha, if_pos ha]
    generalize hw : autoW a = w
    have hle := length_edgeRows a.edges
    have hl := ha.2.1
    have hgl : (autoG a).length = a.states.toNat := length_mkG _ _
    have hgk := gok_auto ha
    have hst1 := steps_autoG ha
    have hs31 := lt31 ha hsl
    conv => whnf
    repeat' ((first | contradiction | (refine And.intro (fun hb => ?_) (fun hb => ?_) <;> first | contradiction | ((try simp only [SB, reduceCtorEq] at hb); try (exfalso; first | contradiction | omega))) | refine G2 ?_ | rw [ints_at (by omega)] | rw [ints_at0 (by omega)] | rw [ints_at' (by omega) (by omega)] | refine G1 ?_ | refine ⟨_, _, RAutoOk_mk, ?_⟩ | fail) <;> conv => whnf)
    refine Rg.split hR 4 ?_
    conv => whnf
    repeat' ((first | contradiction | (refine And.intro (fun hb => ?_) (fun hb => ?_) <;> first | contradiction | ((try simp only [SB, reduceCtorEq] at hb); try (exfalso; first | contradiction | omega))) | refine G2 ?_ | rw [ints_at (by omega)] | rw [ints_at0 (by omega)] | rw [ints_at' (by omega) (by omega)] | refine G1 ?_ | refine ⟨_, _, RReach_eq (congrArg (fun z => [AV.rptr (autoRow a) 0, AV.int .i64 z]) es) ha hs31, ?_⟩ | refine ⟨_, _, RAutoG_eq rfl ha, ?_⟩ | fail) <;> conv => whnf)
    refine ⟨[some 1], [(1, .rptr (autoRow a) 0), (2, .ptr 0 0 0), (18, .int .i64 ((autoR a a.start.toNat : Nat) : Int)), (19, .rptr [.val (gRows (autoG a))] 0)], [some (.box [.snil, .snil])], ⟨rfl, rfl, And.intro ⟨.inl rfl, .inl rfl, trivial⟩ trivial, ?_⟩, ?_⟩
    · exact ⟨.inr rfl, rfl, .inl rfl, .inr (snap_graph rfl rfl hgl.symm), trivial⟩
    conv => whnf
    repeat' ((first | contradiction | (refine And.intro (fun hb => ?_) (fun hb => ?_) <;> first | contradiction | ((try simp only [SB, reduceCtorEq] at hb); try (exfalso; first | contradiction | omega))) | refine G2 ?_ | rw [ints_at (by omega)] | rw [ints_at0 (by omega)] | rw [ints_at' (by omega) (by omega)] | refine G1 ?_ | refine ⟨GRings_mk hgk (by omega) hst1 (fun out hout => ?_)⟩ | fail) <;> conv => whnf)
    have hol : out.length = a.states.toNat := hout.1.trans hgl
    have hil := (length_ints out).trans hol
    refine Lp.intro (α := Nat) (fun i => i ≤ a.edges.length ∧ ∀ j, j < i → ¬ goodE a j) (fun i => a.edges.length - i) (fun i => [(1, .rptr (autoRow a) 0), (2, .ptr 0 0 0), (4, .int .i64 ((autoR a a.start.toNat : Nat) : Int)), (5, .val (ints out)), (22, .val (edgeRows a.edges)), (23, .int .i64 a.edges.length), (24, .int .i64 i)]) (fun _ => [some (.box [.snil, .snil])]) ?_ ?_
    · refine ⟨0, ⟨Nat.zero_le _, fun j hj => by omega⟩, [some 0], rfl, rfl, And.intro ⟨.inl rfl, .inl rfl, trivial⟩ trivial, ?_⟩
      exact ⟨.inl rfl, rfl, .inl rfl, .inr (snap_all rfl (by omega)), .inl rfl, .inl (congrArg (fun x : Nat => AV.int .i64 x) hle), .inl rfl, trivial⟩
    rintro i ⟨hi, hno⟩
    refine vcS_sound hR [68] _ _ _ _ _ ?_
    by_cases hlt : i < a.edges.length
    · have he := edge_in ha hlt
      have hat := edge_at hlt
      unfold EdgeIn at he
      have hem : a.edges.getD i default ∈ a.edges := getD_mem' hlt
      generalize hee : a.edges.getD i default = e at *
      obtain ⟨k1, k2⟩ := edge_key hee hno hlt hw
      have es1 : e.src = ((e.src.toNat : Nat) : Int) := by omega
      have hb2 : 2 ^ e.dst.toNat < 2 ^ a.states.toNat := Nat.pow_lt_pow_right (by decide) (by omega)
      have hp1 := path_rows ha (X := 2 ^ e.dst.toNat) (t := e.src.toNat) (by omega)
      have hp2 := path_len ha (X := 2 ^ e.dst.toNat) (t := e.src.toNat) (by omega)
      have hring := ring_ok ha hout hem
      have hsr : (ints out)[e.src.toNat]? = some [.int .i64 (out.getD e.src.toNat 0)] := by
        have := ints_at (xs := out) (i := e.src.toNat) (by omega)
        rwa [Int.toNat_natCast] at this
      have hds : (ints out)[e.dst.toNat]? = some [.int .i64 (out.getD e.dst.toNat 0)] := by
        have := ints_at (xs := out) (i := e.dst.toNat) (by omega)
        rwa [Int.toNat_natCast] at this
      conv => whnf
      repeat' ((first | contradiction | (refine And.intro (fun hb => ?_) (fun hb => ?_) <;> first | contradiction | ((try simp only [SB, reduceCtorEq] at hb); try (exfalso; first | contradiction | omega))) | refine G2 ?_ | rw [ints_at (by omega)] | rw [ints_at0 (by omega)] | rw [ints_at' (by omega) (by omega)] | refine G1 ?_ | rw [hat] | rw [hsr] | rw [hds] | refine ⟨_, _, RHas_mk autoR_lt (by omega) (by omega), ?_⟩ | refine ⟨_, _, RBit_mk (by omega) (by omega), ?_⟩ | refine ⟨_, _, RPath_eq (arg3 es es1) ha hsl (by omega), ?_⟩ | refine ⟨_, _, RPath_eq (arg3 rfl es1) ha hb2 (by omega), ?_⟩ | rw [snap_res (length_natsI _).symm] | fail) <;> conv => whnf)
      all_goals first
        | (refine ⟨i + 1, ⟨hlt, k2 ?_⟩, by omega, [some 0], rfl, rfl, And.intro ⟨.inl rfl, .inl rfl, trivial⟩ trivial, ?_⟩
           · first
             | exact .inl (by assumption)
             | exact .inr (.inl (by assumption))
             | exact .inr (.inr (Bool.eq_false_iff.2 fun h => absurd (hring.2 h) (by assumption)))
           · exact ⟨.inl rfl, rfl, .inl rfl, .inl rfl, .inl rfl, .inl rfl, .inl rfl, trivial⟩)
        | skip
      all_goals
        have hbk := hring.1 (by assumption)
        obtain rfl := k1 (by assumption) (by assumption) hbk
        generalize hst2 : (pathW a a.start.toNat e.src.toNat).1 = st at *
        generalize hbk2 : (pathW a (2 ^ e.dst.toNat) e.src.toNat).1 = bk at *
        clear k1 k2
        refine Rg.split hR 5 ?_
      all_goals
        conv => whnf
        repeat' ((first | contradiction | (refine And.intro (fun hb => ?_) (fun hb => ?_) <;> first | contradiction | ((try simp only [SB, reduceCtorEq] at hb); try (exfalso; first | contradiction | omega))) | refine G2 ?_ | rw [ints_at (by omega)] | rw [ints_at0 (by omega)] | rw [ints_at' (by omega) (by omega)] | refine G1 ?_ | fail) <;> conv => whnf)
        refine ⟨[some 0, some 2], [(2, .ptr 0 0 0), (68, .ref 1 0 st.length), (71, .val (ints [e.letter])), (72, .val (ints (natsI bk)))], [some (.box [.snil, .snil]), some (.arr 1 (ints (natsI st)))], ⟨rfl, rfl, And.intro ⟨.inl rfl, .inl rfl, trivial⟩ (And.intro (And.intro rfl rfl) trivial), ?_⟩, ?_⟩
        · exact ⟨rfl, rfl, .inr (snap_all rfl rfl), .inl rfl, trivial⟩
        conv => whnf
        repeat' ((first | contradiction | (refine And.intro (fun hb => ?_) (fun hb => ?_) <;> first | contradiction | ((try simp only [SB, reduceCtorEq] at hb); try (exfalso; first | contradiction | omega))) | refine G2 ?_ | rw [ints_at (by omega)] | rw [ints_at0 (by omega)] | rw [ints_at' (by omega) (by omega)] | refine G1 ?_ | (refine ⟨_, _, RConcat_eq (Ls := [[e.letter], natsI bk]) (congrArg (fun v => [v]) (snap_all rfl rfl)) (by simp) (by simp) (by simp; omega), ?_⟩) | fail) <;> conv => whnf)
        refine ⟨.inl rfl, ?_⟩
        conv => whnf
        refine ⟨by simp, [some 1, some 3], ⟨rfl, And.intro (And.intro rfl rfl) (And.intro (And.intro rfl ?_) trivial)⟩, ⟨⟨congrArg (AV.ref 1 0) (length_natsI _).symm, congrArg (AV.ref 3 0) ?_, trivial⟩, .inl rfl, trivial⟩, rfl, ?_⟩
        · simp
        · simp
        · simp [wordO, AObj.nov, ints_nov]
    · conv => whnf
      repeat' ((first | contradiction | (refine And.intro (fun hb => ?_) (fun hb => ?_) <;> first | contradiction | ((try simp only [SB, reduceCtorEq] at hb); try (exfalso; first | contradiction | omega))) | refine G2 ?_ | rw [ints_at (by omega)] | rw [ints_at0 (by omega)] | rw [ints_at' (by omega) (by omega)] | refine G1 ?_ | fail) <;> conv => whnf)
      rw [autoW_none (fun j hj => hno j (by omega))] at hw
      subst hw
      refine ⟨.inl rfl, ?_⟩
      conv => whnf
      exact ⟨Nat.le_refl 2, [none, none], ⟨rfl, And.intro rfl (And.intro rfl trivial)⟩, ⟨⟨⟨rfl, rfl, rfl⟩, ⟨rfl, rfl, rfl⟩, trivial⟩, .inl rfl, trivial⟩, rfl, rfl⟩
  · rw [if_neg ha, if_neg ha]
    conv => whnf
    repeat' ((first | contradiction | (refine And.intro (fun hb => ?_) (fun hb => ?_) <;> first | contradiction | ((try simp only [SB, reduceCtorEq] at hb); try (exfalso; first | contradiction | omega))) | refine G2 ?_ | rw [ints_at (by omega)] | rw [ints_at0 (by omega)] | rw [ints_at' (by omega) (by omega)] | refine G1 ?_ | refine ⟨_, _, RAutoOk_mk, ?_⟩ | fail) <;> conv => whnf)
    refine ⟨.inl rfl, ?_⟩
    conv => whnf
    exact ⟨Nat.le_refl 2, [none, none], ⟨rfl, And.intro rfl (And.intro rfl trivial)⟩, ⟨⟨⟨rfl, rfl, rfl⟩, ⟨rfl, rfl, rfl⟩, trivial⟩, .inl rfl, trivial⟩, rfl, rfl⟩
end Go.Proofs.Ythanhknkoikbfaa.Ct
namespace Go.Proofs.Ythanhknkoikbfaa.Ct
set_option linter.unusedSimpArgs false
set_option linter.unusedVariables false
open Go Go.Proofs Go.Proofs.Ythanhknkoikbfaa.Av Go.Proofs.Ythanhknkoikbfaa.Pl
def c_spec_l16Found : ICode := (.seq (.reg [O1 2 (.box 2) 0, O0 4 (.alc [(.int .i64 0), .snil, .snil])]) (.seq (.seq (.reg [O1 5 .mv 1]) (.cond (.t 5) (.seq (.reg [O1 6 (.ldn 2) 2, Ol 7 (.bld [(.int .i64 0), .snil, .snil] [(0, 1), (1, 2)]) [ci 2, .t 6], S2 (.st 3) 4 7]) .ret) .skip)) (.seq (.reg [Ol 8 (.bld [(.int .i64 0), .snil, .snil] [(0, 1)]) [ci 1], S2 (.st 3) 4 8]) .ret)))
theorem b_spec_l16Found : Body Try.prog 144 9 c_spec_l16Found [(.cn 4 3)] := body_mk Try.func144 (by kernel_rfl) (by decide)
def c_spec_AskEmpty : ICode := (.seq (.reg [O1 1 (.box 4) 0, O0 2 (.alc [(.int .i64 0), .snil, .snil])]) (.seq (.seq (.reg [O1 5 (.ldn 4) 1, O1 6 (.call 38) 5, O1 7 .not 6]) (.cond (.t 7) (.seq (.reg [Ol 8 (.bld [(.int .i64 0), .snil, .snil] [(0, 1)]) [ci 4], S2 (.st 3) 2 8]) .ret) .skip)) (.seq (.reg [O1 10 (.ldn 4) 1, O1 11 (.call 58) 10, O1 9 .mv 11, O1 12 (.ext 0) 9, O1 13 (.ext 1) 9, O0 3 (.alc [.snil, .snil]), S2 (.st 2) 3 12, O1 4 .mv 13]) (.seq (.reg [O1 14 (.ldn 2) 3, O1 15 .mv 4, O2 16 (.call 144) 14 15, S2 (.st 3) 2 16]) .ret))))
theorem b_spec_AskEmpty : Body Try.prog 62 17 c_spec_AskEmpty [(.cn 2 3)] := body_mk Try.func62 (by kernel_rfl) (by decide)
def c_impl_AskEmpty : ICode := (.seq (.reg [O1 1 (.box 4) 0, O0 2 (.alc [(.int .i64 0), .snil, .snil])]) (.seq (.seq (.reg [O1 5 (.ldn 4) 1, O1 6 (.call 70) 5, O1 7 .not 6]) (.cond (.t 7) (.seq (.reg [Ol 8 (.bld [(.int .i64 0), .snil, .snil] [(0, 1)]) [ci 4], S2 (.st 3) 2 8]) .ret) .skip)) (.seq (.reg [O1 10 (.ldn 4) 1, O1 11 (.call 57) 10, O1 9 .mv 11, O1 12 (.ext 0) 9, O1 13 (.ext 1) 9, O0 3 (.alc [.snil, .snil]), S2 (.st 2) 3 12, O1 4 .mv 13]) (.seq (.seq (.reg [O1 14 .mv 4, O1 15 .not 14]) (.cond (.t 15) (.seq (.reg [Ol 16 (.bld [(.int .i64 0), .snil, .snil] [(0, 1)]) [ci 1], S2 (.st 3) 2 16]) .ret) .skip)) (.seq (.reg [O1 17 (.ldn 2) 3, Ol 18 (.bld [(.int .i64 0), .snil, .snil] [(0, 1), (1, 2)]) [ci 2, .t 17], S2 (.st 3) 2 18]) .ret)))))
theorem b_impl_AskEmpty : Body Try.prog 61 19 c_impl_AskEmpty [(.cn 2 3)] := body_mk Try.func61 (by kernel_rfl) (by decide)
noncomputable def sayA (a : AutoD) : Int × (List Int × List Int) := open Classical in if AutoOk a then (if (autoW a).2 = true then (2, (autoW a).1) else (1, ([], []))) else (4, ([], []))
theorem RAWord_at {xs : List AV} {a : AutoD} (hx : xs = [.agg (autoRow a)]) (h : AutoOk a) : RAWord xs (wordR (autoW a)) (wordO (autoW a)) := ⟨a, hx, by rw [if_pos h], by rw [if_pos h]⟩
def GFound : GFun := fun xs objs Q => ∃ (s l : List Int) (ok : Bool), xs = [.agg [.ref 0 0 s.length, .ref 1 0 l.length], .bool ok] ∧ objs = [.arr 1 (ints s), .arr 1 (ints l)] ∧
  (ok = true → Q (.agg [.int .i64 2, .ref 0 0 s.length, .ref 1 0 l.length]) [some (.arr 1 (ints s)), some (.arr 1 (ints l))]) ∧ (ok = false → Q (.agg [.int .i64 1, .snil, .snil]) [some (.arr 1 (ints s)), some (.arr 1 (ints l))])
theorem GFound_mk {s l : List Int} {ok : Bool} {Q : AV → List (Option AObj) → Prop} (h1 : ok = true → Q (.agg [.int .i64 2, .ref 0 0 s.length, .ref 1 0 l.length]) [some (.arr 1 (ints s)), some (.arr 1 (ints l))])
    (h2 : ok = false → Q (.agg [.int .i64 1, .snil, .snil]) [some (.arr 1 (ints s)), some (.arr 1 (ints l))]) : GFound [.agg [.ref 0 0 s.length, .ref 1 0 l.length], .bool ok] [.arr 1 (ints s), .arr 1 (ints l)] Q := ⟨s, l, ok, rfl, rfl, h1, h2⟩
theorem s_spec_l16Found : GenSound Try.prog 144 2 GFound := by
  have hR : Rely Try.prog (ctxOf []) := rely_nil mixed
  refine gen_of_aw b_spec_l16Found ?_
  rintro xs objs Q - ⟨s, l, ok, rfl, rfl, h1, h2⟩ -
  refine ⟨by simp, vc2_sound hR _ _ _ _ _ ?_⟩
  cases ok
  · conv => whnf
    repeat' ((first | contradiction | (refine And.intro (fun hb => ?_) (fun hb => ?_) <;> first | contradiction | ((try simp only [SB, reduceCtorEq] at hb); try (exfalso; first | contradiction | omega))) | refine G2 ?_ | rw [ints_at (by omega)] | rw [ints_at0 (by omega)] | rw [ints_at' (by omega) (by omega)] | refine G1 ?_ | fail) <;> conv => whnf)
    refine ⟨.inl rfl, ?_⟩
    conv => whnf
    refine ⟨Nat.le_refl 3, [some 0, some 1], .agg [.int .i64 1, .snil, .snil], [some (.arr 1 (ints s)), some (.arr 1 (ints l))], ⟨rfl, And.intro (And.intro rfl rfl) (And.intro (And.intro rfl rfl) trivial)⟩, ?_, rfl, h2 rfl⟩
    exact ⟨.inl rfl, .inl rfl, .inl rfl, trivial⟩
  · conv => whnf
    repeat' ((first | contradiction | (refine And.intro (fun hb => ?_) (fun hb => ?_) <;> first | contradiction | ((try simp only [SB, reduceCtorEq] at hb); try (exfalso; first | contradiction | omega))) | refine G2 ?_ | rw [ints_at (by omega)] | rw [ints_at0 (by omega)] | rw [ints_at' (by omega) (by omega)] | refine G1 ?_ | fail) <;> conv => whnf)
    refine ⟨.inl rfl, ?_⟩
    conv => whnf
    refine ⟨Nat.le_refl 3, [some 0, some 1], .agg [.int .i64 2, .ref 0 0 s.length, .ref 1 0 l.length], [some (.arr 1 (ints s)), some (.arr 1 (ints l))], ⟨rfl, And.intro (And.intro rfl rfl) (And.intro (And.intro rfl rfl) trivial)⟩, ?_, rfl, h1 rfl⟩
    exact ⟨.inl rfl, rfl, rfl, trivial⟩
def RAsk (xs : List AV) (r : AV) (objs : List AObj) : Prop := ∃ a, xs = [.agg (autoRow a)] ∧ r = resR (sayA a).1 (sayA a).2 ∧ objs = resO (sayA a).2
theorem RAsk_eq {xs : List AV} {a : AutoD} (hx : xs = [.agg (autoRow a)]) : RAsk xs (resR (sayA a).1 (sayA a).2) (resO (sayA a).2) := ⟨a, hx, rfl, rfl⟩
set_option maxHeartbeats 2000000 in
theorem s_spec_AskEmpty : PureSound Try.prog 62 RAsk := by
  have hR : Rely Try.prog (ctxOf [(38, .pure RAutoOk), (58, .pure RAWord), (144, .gen 2 GFound)]) :=
    rely_cons b_spec_AutoOk.has s_spec_AutoOk (rely_cons b_spec_AutoWord.has s_spec_AutoWord (rely_cons b_spec_l16Found.has s_spec_l16Found (rely_nil mixed)))
  refine pure_of_aw b_spec_AskEmpty ?_
  rintro xs r objs ⟨a, rfl, rfl, rfl⟩ -
  refine ⟨by simp, vc2_sound hR _ _ _ _ _ ?_⟩
  unfold sayA
  by_cases ha : AutoOk a
  · have hg : ∀ xs, xs = [.agg (autoRow a)] → RAWord xs (wordR (autoW a)) (wordO (autoW a)) := fun xs h => RAWord_at h ha
    rw [if_pos ha]
    generalize autoW a = g at *
    obtain ⟨⟨s, l⟩, ok⟩ := g
    cases ok
    · conv => whnf
      repeat' ((first | contradiction | (refine And.intro (fun hb => ?_) (fun hb => ?_) <;> first | contradiction | ((try simp only [SB, reduceCtorEq] at hb); try (exfalso; first | contradiction | omega))) | refine G2 ?_ | rw [ints_at (by omega)] | rw [ints_at0 (by omega)] | rw [ints_at' (by omega) (by omega)] | refine G1 ?_ | refine ⟨_, _, RAutoOk_mk, ?_⟩ | refine ⟨_, _, hg _ rfl, ?_⟩ | refine ⟨GFound_mk (s := s) (l := l) (ok := false) (fun h => by cases h) (fun _ => ?_)⟩ | fail) <;> conv => whnf)
      refine ⟨.inl rfl, ?_⟩
      conv => whnf
      exact ⟨Nat.le_refl 3, [none, none], ⟨rfl, And.intro rfl (And.intro rfl trivial)⟩, ⟨.inl rfl, ⟨rfl, rfl, rfl⟩, ⟨rfl, rfl, rfl⟩, trivial⟩, rfl, rfl⟩
    · conv => whnf
      repeat' ((first | contradiction | (refine And.intro (fun hb => ?_) (fun hb => ?_) <;> first | contradiction | ((try simp only [SB, reduceCtorEq] at hb); try (exfalso; first | contradiction | omega))) | refine G2 ?_ | rw [ints_at (by omega)] | rw [ints_at0 (by omega)] | rw [ints_at' (by omega) (by omega)] | refine G1 ?_ | refine ⟨_, _, RAutoOk_mk, ?_⟩ | refine ⟨_, _, hg _ rfl, ?_⟩ | refine ⟨GFound_mk (s := s) (l := l) (ok := true) (fun _ => ?_) (fun h => by cases h)⟩ | fail) <;> conv => whnf)
      refine ⟨.inl rfl, ?_⟩
      conv => whnf
      exact ⟨Nat.le_refl 3, [some 2, some 3], ⟨rfl, And.intro (And.intro rfl rfl) (And.intro (And.intro rfl rfl) trivial)⟩, ⟨.inl rfl, rfl, rfl, trivial⟩, rfl, by simp [resO, AObj.nov, ints_nov]⟩
  · rw [if_neg ha]
    conv => whnf
    repeat' ((first | contradiction | (refine And.intro (fun hb => ?_) (fun hb => ?_) <;> first | contradiction | ((try simp only [SB, reduceCtorEq] at hb); try (exfalso; first | contradiction | omega))) | refine G2 ?_ | rw [ints_at (by omega)] | rw [ints_at0 (by omega)] | rw [ints_at' (by omega) (by omega)] | refine G1 ?_ | refine ⟨_, _, RAutoOk_mk, ?_⟩ | fail) <;> conv => whnf)
    refine ⟨.inl rfl, ?_⟩
    conv => whnf
    exact ⟨Nat.le_refl 3, [none, none], ⟨rfl, And.intro rfl (And.intro rfl trivial)⟩, ⟨.inl rfl, ⟨rfl, rfl, rfl⟩, ⟨rfl, rfl, rfl⟩, trivial⟩, rfl, rfl⟩
set_option maxHeartbeats 2000000 in
theorem s_impl_AskEmpty : PureSound Try.prog 61 RAsk := by
  have hR : Rely Try.prog (ctxOf [(70, .pure RAutoOk), (57, .pure RAWord)]) :=
    rely_cons b_impl_AutoOk.has s_impl_AutoOk (rely_cons b_impl_AutoWord.has s_impl_AutoWord (rely_nil mixed))
  refine pure_of_aw b_impl_AskEmpty ?_
  rintro xs r objs ⟨a, rfl, rfl, rfl⟩ -
  refine ⟨by simp, vc2_sound hR _ _ _ _ _ ?_⟩
  unfold sayA
  by_cases ha : AutoOk a
  · have hg : ∀ xs, xs = [.agg (autoRow a)] → RAWord xs (wordR (autoW a)) (wordO (autoW a)) := fun xs h => RAWord_at h ha
    rw [if_pos ha]
    generalize autoW a = g at *
    obtain ⟨⟨s, l⟩, ok⟩ := g
    cases ok
    · conv => whnf
      repeat' ((first | contradiction | (refine And.intro (fun hb => ?_) (fun hb => ?_) <;> first | contradiction | ((try simp only [SB, reduceCtorEq] at hb); try (exfalso; first | contradiction | omega))) | refine G2 ?_ | rw [ints_at (by omega)] | rw [ints_at0 (by omega)] | rw [ints_at' (by omega) (by omega)] | refine G1 ?_ | refine ⟨_, _, RAutoOk_mk, ?_⟩ | refine ⟨_, _, hg _ rfl, ?_⟩ | fail) <;> conv => whnf)
      refine ⟨.inl rfl, ?_⟩
      conv => whnf
      exact ⟨Nat.le_refl 3, [none, none], ⟨rfl, And.intro rfl (And.intro rfl trivial)⟩, ⟨.inl rfl, ⟨rfl, rfl, rfl⟩, ⟨rfl, rfl, rfl⟩, trivial⟩, rfl, rfl⟩
    · conv => whnf
      repeat' ((first | contradiction | (refine And.intro (fun hb => ?_) (fun hb => ?_) <;> first | contradiction | ((try simp only [SB, reduceCtorEq] at hb); try (exfalso; first | contradiction | omega))) | refine G2 ?_ | rw [ints_at (by omega)] | rw [ints_at0 (by omega)] | rw [ints_at' (by omega) (by omega)] | refine G1 ?_ | refine ⟨_, _, RAutoOk_mk, ?_⟩ | refine ⟨_, _, hg _ rfl, ?_⟩ | fail) <;> conv => whnf)
      refine ⟨.inl rfl, ?_⟩
      conv => whnf
      exact ⟨Nat.le_refl 3, [some 2, some 3], ⟨rfl, And.intro (And.intro rfl rfl) (And.intro (And.intro rfl rfl) trivial)⟩, ⟨.inl rfl, rfl, rfl, trivial⟩, rfl, by simp [resO, AObj.nov, ints_nov]⟩
  · rw [if_neg ha]
    conv => whnf
    repeat' ((first | contradiction | (refine And.intro (fun hb => ?_) (fun hb => ?_) <;> first | contradiction | ((try simp only [SB, reduceCtorEq] at hb); try (exfalso; first | contradiction | omega))) | refine G2 ?_ | rw [ints_at (by omega)] | rw [ints_at0 (by omega)] | rw [ints_at' (by omega) (by omega)] | refine G1 ?_ | refine ⟨_, _, RAutoOk_mk, ?_⟩ | fail) <;> conv => whnf)
    refine ⟨.inl rfl, ?_⟩
    conv => whnf
    exact ⟨Nat.le_refl 3, [none, none], ⟨rfl, And.intro rfl (And.intro rfl trivial)⟩, ⟨.inl rfl, ⟨rfl, rfl, rfl⟩, ⟨rfl, rfl, rfl⟩, trivial⟩, rfl, rfl⟩
end Go.Proofs.Ythanhknkoikbfaa.Ct
namespace Go.Proofs.Ythanhknkoikbfaa.Ct
set_option linter.unusedSimpArgs false
set_option linter.unusedVariables false
open Go Go.Proofs Go.Proofs.Ythanhknkoikbfaa.Av Go.Proofs.Ythanhknkoikbfaa.Pl
structure RunA (a : AutoD) (w : Nat → Int) (q : Nat → Nat) (e : Nat → EdgeD) : Prop where
  start : a.start.toNat.testBit (q 0) = true
  edge : ∀ i, e i ∈ a.edges
  letter : ∀ i, (e i).letter = w i
  src : ∀ i, (e i).src.toNat = q i
  dst : ∀ i, (e i).dst.toNat = q (i + 1)
  mark : ∀ i, ∃ j, i ≤ j ∧ (e j).mark = true
theorem markG_bit {e : EdgeD} : (markG e).marks.toNat.testBit 0 = true ↔ e.mark = true := by
  unfold markG
  cases e.mark <;> simp
end Go.Proofs.Ythanhknkoikbfaa.Ct
namespace Go.Proofs.Ythanhknkoikbfaa.Ct
set_option linter.unusedSimpArgs false
set_option linter.unusedVariables false
open Go Go.Proofs Go.Proofs.Ythanhknkoikbfaa.Av Go.Proofs.Ythanhknkoikbfaa.Pl
def EWay (a : AutoD) : Nat → List EdgeD → Nat → Prop
  | p, [], q => p = q
  | p, e :: es, q => e ∈ a.edges ∧ e.src.toNat = p ∧ EWay a e.dst.toNat es q
theorem EWay.snoc {a : AutoD} {e : EdgeD} {q : Nat} : ∀ {es : List EdgeD} {p : Nat}, EWay a p es e.src.toNat → e ∈ a.edges → e.dst.toNat = q → EWay a p (es ++ [e]) q
  | [], p, h, he, hq => ⟨he, h.symm, hq⟩
  | x :: es, p, h, he, hq => ⟨h.1, h.2.1, EWay.snoc h.2.2 he hq⟩
theorem Pt.way {a : AutoD} {F : List Int} {b X0 k X : Nat} {out : List Nat} (h : Pt a F b X0 k X out) : ∀ q, X.testBit q = true → ∃ p es, X0.testBit p = true ∧ EWay a p es q ∧ es.map (·.letter) = natsI out := by
  induction h with
  | start => exact fun q hq => ⟨q, [], hq, rfl, rfl⟩
  | @step k X x out h1 h2 h3 ih =>
    intro q hq
    unfold down at hq
    rw [Nat.testBit_and, Bool.and_eq_true, bit_stepU] at hq
    obtain ⟨⟨e, he, g1, g2, g3⟩, _⟩ := hq
    obtain ⟨p, es, k1, k2, k3⟩ := ih _ g2
    exact ⟨p, es ++ [e], k1, k2.snoc he g3, by simp [k3, g1, natsI]⟩
theorem pw_ex {a : AutoD} (ha : AutoOk a) {t b X0 : Nat} (hf : Far a t b X0) : ∃ out X', Pt a (farT a t) b X0 0 X' out := by
  have key : ∀ j, j ≤ b → ∃ out X', Pt a (farT a t) b X0 (b - j) X' out := fun j => by
    induction j with
    | zero => exact fun _ => ⟨[], X0, .start⟩
    | succ j ih =>
      intro hj
      obtain ⟨out, X', hp⟩ := ih (by omega)
      rw [show b - j = (b - (j + 1)) + 1 by omega] at hp
      have hf2 := hp.far hf
      obtain ⟨x, _, hx⟩ := far_some ha hf2
      obtain ⟨y, h1, h2⟩ := least (fun x : Nat => down a (farT a t) X' x (b - (j + 1)) ≠ 0) ⟨x, hx⟩
      exact ⟨_, _, hp.step (fun z hz => Classical.byContradiction fun hn => by have := h2 z hn; omega) h1⟩
  obtain ⟨out, X', h⟩ := key b (Nat.le_refl b)
  rw [Nat.sub_self] at h
  exact ⟨out, X', h⟩
theorem pathW_way {a : AutoD} (ha : AutoOk a) {X t : Nat} (ht : t < a.states.toNat) (h : (pathW a X t).2 = true) : ∃ p es, X.testBit p = true ∧ EWay a p es t ∧ es.map (·.letter) = natsI (pathW a X t).1 := by
  unfold pathW at h ⊢
  split at h
  · cases h
  · rename_i hb
    rw [if_neg hb]
    have hf := path_far (a := a) (to := t) (X := X) (by omega)
    have hex := pw_ex ha hf
    obtain ⟨out, X', hp⟩ := hex
    rw [pwOf_eq hp]
    have hf0 := hp.far hf
    obtain ⟨q, hq⟩ := bit_ne hf0.1
    obtain ⟨_, hd⟩ := hf0.2 q hq
    have hqt : q = t := by
      have h0 : q ∈ [t] := hd.2.1
      simpa using h0
    subst hqt
    obtain ⟨p, es, g1, g2, g3⟩ := hp.way q hq
    rw [Nat.testBit_and, Bool.and_eq_true] at g1
    exact ⟨p, es, g1.1, g2, g3⟩
theorem way_pts {a : AutoD} (ha : AutoOk a) {s l : List Int} (hl0 : 0 < l.length) : ∀ {es : List EdgeD} {p q i : Nat}, EWay a p es q → p < a.states.toNat → (∀ j, j < es.length → (es.getD j default).letter = seqN s l (i + j)) →
    Rel1 (PA (genOfD a) s l) (placeN s l i * a.states.toNat + p) (placeN s l (i + es.length) * a.states.toNat + q)
  | [], p, q, i, h, _, _ => by cases h; exact Rel1.refl
  | e :: es, p, q, i, h, hp, hj => by
    obtain ⟨h1, h2, h3⟩ := h
    obtain ⟨k, hk, hke⟩ := List.getElem_of_mem h1
    have hin := edge_in ha hk
    rw [List.getD_eq_getElem?_getD, List.getElem?_eq_getElem hk] at hin
    dsimp only [Option.getD_some] at hin
    rw [hke] at hin
    unfold EdgeIn at hin
    have ih := way_pts ha hl0 (s := s) (i := i + 1) h3 (by omega) (fun j hjl => by
      have := hj (j + 1) (by simp; omega)
      rw [List.getD_cons_succ] at this
      rw [this]; congr 1; omega)
    rw [show i + 1 + es.length = i + (e :: es).length by simp; omega] at ih
    refine Rel1.head ?_ ih
    unfold PA
    have hst : (genOfD a).states = a.states := rfl
    rw [hst, pt_div hp, pt_mod hp]
    refine ⟨placeN_lt hl0 i, markG e, List.mem_map.2 ⟨e, h1, rfl⟩, ?_, h2, rfl⟩
    have := hj 0 (by simp)
    exact this
theorem placeN_lin {s l : List Int} : ∀ i, i < s.length + l.length → placeN s l i = i
  | 0, _ => rfl
  | i + 1, h => by
    show nextN s l (placeN s l i) = i + 1
    rw [placeN_lin i (by omega)]
    unfold nextN
    rw [if_neg (by omega)]
theorem placeN_turn {s l : List Int} (hl0 : 0 < l.length) : placeN s l (s.length + l.length) = s.length := by
  obtain ⟨n, hn⟩ : ∃ n, s.length + l.length = n + 1 := ⟨s.length + l.length - 1, by omega⟩
  rw [hn]
  show nextN s l (placeN s l n) = s.length
  rw [placeN_lin n (by omega)]
  unfold nextN
  rw [if_pos (by omega)]
theorem seqN_stem {s l : List Int} {i : Nat} (h : i < s.length) : seqN s l i = s.getD i 0 := by
  unfold seqN letN
  rw [placeN_lin i (by omega), if_pos h]
theorem seqN_loop {s l : List Int} {i : Nat} (h : i < l.length) : seqN s l (s.length + i) = l.getD i 0 := by
  unfold seqN letN
  rw [placeN_lin _ (by omega), if_neg (by omega)]
  congr 1; omega
theorem map_getD {es : List EdgeD} {l : List Int} (h : es.map (·.letter) = l) {j : Nat} (hj : j < es.length) : (es.getD j default).letter = l.getD j 0 := by
  subst h
  simp [List.getD_eq_getElem?_getD, hj]
theorem pa_ea {a : AutoD} {s l : List Int} (ha : AutoOk a) {x y : Nat} (h : PA (genOfD a) s l x y) : EA a (x % a.states.toNat) (y % a.states.toNat) := by
  obtain ⟨_, e, he, _, h2, rfl⟩ := h
  obtain ⟨f, hf, rfl⟩ := List.mem_map.1 he
  obtain ⟨k, hk, hke⟩ := List.getElem_of_mem hf
  have hin := edge_in ha hk
  rw [List.getD_eq_getElem?_getD, List.getElem?_eq_getElem hk] at hin
  dsimp only [Option.getD_some] at hin
  rw [hke] at hin
  unfold EdgeIn at hin
  refine ⟨f, hf, h2, ?_⟩
  have hst : (genOfD a).states = a.states := rfl
  rw [hst]
  exact (pt_mod (by show f.dst.toNat < _; omega)).symm
theorem rel_ea {a : AutoD} {s l : List Int} (ha : AutoOk a) {x y : Nat} (h : Rel1 (PA (genOfD a) s l) x y) : Rel1 (EA a) (x % a.states.toNat) (y % a.states.toNat) := by
  induction h with
  | base h => subst h; exact Rel1.refl
  | step _ hp ih => exact ih.trans (Rel1.one (pa_ea ha hp))
theorem mem_edge_in {a : AutoD} (ha : AutoOk a) {e : EdgeD} (he : e ∈ a.edges) : EdgeIn a e := by
  obtain ⟨k, hk, rfl⟩ := List.getElem_of_mem he
  have := edge_in ha hk
  rwa [List.getD_eq_getElem?_getD, List.getElem?_eq_getElem hk] at this
theorem letters_ok {a : AutoD} (ha : AutoOk a) {es : List EdgeD} {l : List Int} (hm : es.map (·.letter) = l) {p q : Nat} (h : EWay a p es q) : lettersB l a.letters = true := by
  subst hm
  induction es generalizing p with
  | nil => rfl
  | cons e es ih =>
    have := mem_edge_in ha h.1
    unfold EdgeIn at this
    have := ih h.2.2
    simp only [lettersB, List.map_cons, List.all_cons, Bool.and_eq_true, decide_eq_true_eq] at this ⊢
    exact ⟨by omega, this⟩
theorem lasso_takes {a : AutoD} (ha : AutoOk a) {s l : List Int} {p0 : Nat} {es1 es2 : List EdgeD} {e : EdgeD} (h0 : a.start.toNat.testBit p0 = true) (hp0 : p0 < a.states.toNat) (h1 : EWay a p0 es1 e.src.toNat) (hs : es1.map (·.letter) = s)
    (he : e ∈ a.edges) (hm : e.mark = true) (h2 : EWay a e.dst.toNat es2 e.src.toNat) (hl : e.letter :: es2.map (·.letter) = l) (hls : s.length ≤ 40) (hll : l.length ≤ 40) : TakesA a s l := by
  have hg := genOf_ok ha
  have hin := mem_edge_in ha he
  unfold EdgeIn at hin
  have hst := ha.1.2.1
  have hl0 : 0 < l.length := by rw [← hl]; simp
  have hlen1 : es1.length = s.length := by rw [← hs]; simp
  have hlen2 : es2.length + 1 = l.length := by rw [← hl]; simp
  have hw : wordOk s l a.letters = true := by
    have e1 := letters_ok ha hs h1
    have e2 := letters_ok ha (es := e :: es2) (l := l) (by rw [← hl]; rfl) (p := e.src.toNat) ⟨he, rfl, h2⟩
    unfold wordOk
    rw [e1, e2]
    have := ha.1.1
    simp only [Bool.and_true, Bool.and_eq_true, decide_eq_true_eq]
    omega
  refine ⟨ha, hg, hw, ?_⟩
  have r1 := way_pts ha hl0 (s := s) (i := 0) h1 hp0 (fun j hj => by
    rw [Nat.zero_add, seqN_stem (by omega)]
    exact map_getD hs hj)
  rw [Nat.zero_add, hlen1] at r1
  have r2 := way_pts ha hl0 (s := s) (i := s.length + 1) h2 (by omega) (fun j hj => by
    rw [show s.length + 1 + j = s.length + (j + 1) by omega, seqN_loop (by omega), ← hl, List.getD_cons_succ]
    exact map_getD rfl hj)
  rw [show s.length + 1 + es2.length = s.length + l.length by omega, placeN_turn hl0] at r2
  have hps : placeN s l s.length = s.length := placeN_lin _ (by omega)
  have hpn : placeN s l (s.length + 1) = nextN s l s.length := by
    show nextN s l (placeN s l s.length) = _
    rw [hps]
  rw [hps] at r1
  rw [hpn] at r2
  have hlet : (markG e).letter = letN s l s.length := by
    show e.letter = _
    unfold letN
    rw [if_neg (Nat.lt_irrefl _), Nat.sub_self, ← hl]
    rfl
  have hstep : (nextN s l s.length * a.states.toNat + e.dst.toNat, (markG e).marks) ∈ (ptsG (genOfD a).states.toNat s l (genOfD a).edges).getD (s.length * a.states.toNat + e.src.toNat) [] := by
    rw [step_pts hg]
    have hstt : (genOfD a).states = a.states := rfl
    rw [hstt, pt_div (by omega), pt_mod (by omega)]
    exact ⟨by omega, markG e, List.mem_map.2 ⟨e, he, rfl⟩, hlet, rfl, rfl, rfl⟩
  have hone : PA (genOfD a) s l (s.length * a.states.toNat + e.src.toNat) (nextN s l s.length * a.states.toNat + e.dst.toNat) := by
    rw [← adj_pts hg]; exact ⟨_, hstep⟩
  have hmut : Mut (PA (genOfD a) s l) (s.length * a.states.toNat + e.src.toNat) (nextN s l s.length * a.states.toNat + e.dst.toNat) := ⟨Rel1.one hone, r2⟩
  unfold Lives
  rw [length_ptsG, adj_pts hg]
  refine ⟨s.length * a.states.toNat + e.src.toNat, pt_lt (by omega) (by show e.src.toNat < a.states.toNat; omega), rch_mk (s := p0) ?_ ?_, ⟨_, hstep, hmut⟩, fun b hb => ?_⟩
  · exact mem_bitL.2 ⟨by omega, h0⟩
  · rw [show placeN s l 0 = 0 from rfl, Nat.zero_mul, Nat.zero_add] at r1
    exact r1
  · refine ⟨_, _, hstep, Mut.refl, hmut, ?_⟩
    have hb0 : b < (1 : Int).toNat := by
      have := hb
      rw [Nat.testBit_two_pow_sub_one] at this
      exact of_decide_eq_true this
    obtain rfl : b = 0 := by
      have : (1 : Int).toNat = 1 := rfl
      omega
    exact markG_bit.2 hm
theorem start_lt2 {a : AutoD} (ha : AutoOk a) : a.start.toNat < 2 ^ a.states.toNat := gstart_lt (g := genOfD a) (genOf_ok ha)
theorem autoW_good {a : AutoD} (h : (autoW a).2 = true) : ∃ i, i < a.edges.length ∧ goodE a i ∧ autoW a = (wordE a i, true) := by
  by_cases hex : ∃ i, i < a.edges.length ∧ goodE a i
  · obtain ⟨i, ⟨h1, h2⟩, h3⟩ := least _ hex
    exact ⟨i, h1, h2, autoW_at h1 h2 (fun j hj hg => by have := h3 j ⟨by omega, hg⟩; omega)⟩
  · rw [autoW_none (fun j hj hg => hex ⟨j, hj, hg⟩)] at h
    cases h
theorem rch_path {a : AutoD} (ha : AutoOk a) {t : Nat} (ht : t < a.states.toNat) (h : (autoR a a.start.toNat).testBit t = true) : (pathW a a.start.toNat t).2 = true := by
  unfold autoR reachN at h
  rw [testBit_bitsOf] at h
  obtain ⟨_, hr⟩ := h
  obtain ⟨p, hp, hrel⟩ := rch_of hr
  have hpl := bit_lt (start_lt2 ha) hp
  have := (path_ok ha hpl ht).2 hrel
  unfold pathW at this ⊢
  split at this
  · cases this
  · rename_i hb
    obtain ⟨q, g1, g2⟩ := best_mem (F := farT a t) (L := bitL (2 ^ p) (farT a t).length) (by omega)
    have hq : q = p := by
      rw [mem_bitL, Nat.testBit_two_pow, decide_eq_true_eq] at g1
      exact g1.2.symm
    subst hq
    have hm : q ∈ bitL a.start.toNat (farT a t).length := by
      rw [mem_bitL, farT_len]; exact ⟨hpl, hp⟩
    have := best_le (F := farT a t) hm (by omega)
    rw [if_neg (by omega)]
theorem autoW_takes {a : AutoD} (ha : AutoOk a) (h : (autoW a).2 = true) : TakesA a (autoW a).1.1 (autoW a).1.2 := by
  obtain ⟨i, hi, ⟨g1, g2, g3⟩, he⟩ := autoW_good h
  have hin := edge_in ha hi
  have hmem : a.edges.getD i default ∈ a.edges := getD_mem' hi
  rw [he]
  unfold EdgeIn at hin
  have ht : (a.edges.getD i default).src.toNat < a.states.toNat := by omega
  obtain ⟨p0, es1, k1, k2, k3⟩ := pathW_way ha ht (rch_path ha ht g2)
  obtain ⟨p1, es2, k4, k5, k6⟩ := pathW_way ha ht g3
  have hp1 : p1 = (a.edges.getD i default).dst.toNat := by
    rw [Nat.testBit_two_pow, decide_eq_true_eq] at k4; exact k4.symm
  subst hp1
  have l1 := path_len ha (X := a.start.toNat) ht
  have l2 := path_len ha (X := 2 ^ (a.edges.getD i default).dst.toNat) ht
  exact lasso_takes ha k1 (bit_lt (start_lt2 ha) k1) k2 k3 hmem g1 k5 (by unfold wordE; rw [k6]) (by show (natsI _).length ≤ 40; rw [length_natsI]; omega) (by show (natsI _).length + 1 ≤ 40; rw [length_natsI]; omega)
theorem takes_autoW {a : AutoD} {s l : List Int} (h : TakesA a s l) : (autoW a).2 = true := by
  obtain ⟨ha, hg, hw, hL⟩ := h
  have hl0 := (let_ok hw).2.2.2
  unfold Lives at hL
  rw [adj_pts hg] at hL
  obtain ⟨p, hp, hr, _, hall⟩ := hL
  obtain ⟨q, ⟨y, m⟩, hs, hpq, hpy, hb⟩ := hall 0 (by show (2 ^ (1 : Int).toNat - 1).testBit 0 = true; decide)
  obtain ⟨h1, e, he, h2, h3, h4, h5⟩ := (step_pts hg).1 hs
  obtain ⟨f, hf, rfl⟩ := List.mem_map.1 he
  obtain ⟨i, hi, hfi⟩ : ∃ i, i < a.edges.length ∧ a.edges.getD i default = f := by
    obtain ⟨i, hi, rfl⟩ := List.getElem_of_mem hf
    exact ⟨i, hi, by rw [List.getD_eq_getElem?_getD, List.getElem?_eq_getElem hi]; rfl⟩
  have hin := mem_edge_in ha hf
  unfold EdgeIn at hin
  have hstt : (genOfD a).states = a.states := rfl
  have hst := ha.1.2.1
  dsimp only at hb h4 h5
  rw [h5] at hb
  have hmark := markG_bit.1 hb
  have hsrc : f.src.toNat = q % a.states.toNat := h3
  have hdst : f.dst.toNat = y % a.states.toNat := by
    rw [h4, hstt]
    exact (pt_mod (by show f.dst.toNat < _; omega)).symm
  have hgood : goodE a i := by
    unfold goodE
    rw [hfi]
    refine ⟨hmark, ?_, ?_⟩
    · unfold autoR reachN
      rw [testBit_bitsOf]
      refine ⟨by omega, ?_⟩
      obtain ⟨x, hx, hrel⟩ := rch_of hr
      have hxm := mem_bitL.1 hx
      have hxl := bit_lt (start_lt2 ha) hxm.2
      have := rel_ea ha (hrel.trans hpq.1)
      rw [Nat.mod_eq_of_lt hxl] at this
      rw [hsrc]
      exact rch_mk hxm.2 this
    · rw [path_ok ha (by omega) (by omega), hdst, hsrc]
      exact rel_ea ha (hpy.2.trans hpq.1)
  by_cases hw2 : (autoW a).2 = true
  · exact hw2
  · exfalso
    obtain ⟨j, ⟨h1, h2⟩, h3⟩ := least (fun i => i < a.edges.length ∧ goodE a i) ⟨i, hi, hgood⟩
    rw [autoW_at h1 h2 (fun k hk hg => by have := h3 k ⟨by omega, hg⟩; omega)] at hw2
    exact hw2 rfl
end Go.Proofs.Ythanhknkoikbfaa.Ct
namespace Go.Proofs.Ythanhknkoikbfaa.Ct
set_option linter.unusedSimpArgs false
set_option linter.unusedVariables false
open Go Go.Proofs Go.Proofs.Ythanhknkoikbfaa.Av
def c_laws_big : ICode := (.seq (.reg [Ol 2 .mv [cb false]]) (.seq (.reg [O1 3 .mv 0, O1 4 .len 3, Ol 5 (.bin .gtr) [.t 4, ci 1048576], O1 2 .mv 5]) .ret))
theorem b_laws_big : Body Try.prog 35 6 c_laws_big [(.t 2)] := body_mk Try.func35 (by kernel_rfl) (by decide)
def RBig (xs : List AV) (r : AV) (objs : List AObj) : Prop := ∃ code : List UInt8, xs = [.val (code.map byteRow)] ∧ r = .bool (decide (1048576 < code.length)) ∧ objs = []
theorem RBig_mk {code : List UInt8} : RBig [.val (code.map byteRow)] (.bool (decide (1048576 < code.length))) [] := ⟨code, rfl, rfl, rfl⟩
theorem s_laws_big : PureSound Try.prog 35 RBig := by
  have hR : Rely Try.prog (ctxOf []) := rely_nil mixed
  refine pure_of_aw b_laws_big ?_
  rintro xs r objs ⟨code, rfl, rfl, rfl⟩ -
  have hbl : (code.map byteRow).length = code.length := by simp
  refine ⟨by simp, vc2_sound hR _ _ _ _ _ ?_⟩
  conv => whnf
  repeat' ((first | (refine And.intro (fun hb => ?_) (fun hb => ?_) <;> ((try simp only [SB, reduceCtorEq] at hb); try (exfalso; omega))) | refine G2 ?_ | rw [ints_at (by omega)] | rw [ints_at0 (by omega)] | rw [ints_at' (by omega) (by omega)] | refine G1 ?_ | fail) <;> conv => whnf)
  · refine ⟨.inl rfl, ?_⟩
    conv => whnf
    refine ⟨[], ⟨rfl, trivial⟩, ?_, rfl, rfl⟩
    conv => whnf
    left
    conv => lhs; whnf
    exact congrArg AV.bool (decide_eq_true (by omega)).symm
  · refine ⟨.inl rfl, ?_⟩
    conv => whnf
    refine ⟨[], ⟨rfl, trivial⟩, ?_, rfl, rfl⟩
    conv => whnf
    left
    conv => lhs; whnf
    exact congrArg AV.bool (decide_eq_false (by omega)).symm
def RTrueCode (xs : List AV) (r : AV) (objs : List AObj) : Prop := ∃ code : List UInt8, xs = [.val (code.map byteRow)] ∧ r = .bool true ∧ objs = []
end Go.Proofs.Ythanhknkoikbfaa.Ct
namespace Go.Proofs.Ythanhknkoikbfaa.Ct
set_option linter.unusedSimpArgs false
set_option linter.unusedVariables false
open Go Go.Proofs Go.Proofs.Ythanhknkoikbfaa.Av Go.Proofs.Ythanhknkoikbfaa.Pl
def c_laws_FnAskOne : ICode := (.seq (.reg [Ol 2 .mv [cb false]]) (.seq (.seq (.reg [O1 7 .mv 0, O1 8 (.call 35) 7]) (.cond (.t 8) (.seq (.reg [Ol 2 .mv [cb true]]) .ret) .skip)) (.seq (.reg [O1 10 .mv 0, O1 11 (.call 60) 10, O1 9 .mv 11, O1 12 (.ext 0) 9, O1 13 (.ext 1) 9, O0 3 (.alc [(.int .i64 0), (.int .i64 0), (.int .i64 0), .snil]), O0 4 (.alc [.snil, .snil]), S2 (.st 4) 3 12, S2 (.st 2) 4 13]) (.seq (.reg [O1 14 (.ldn 4) 3, O1 15 (.ldn 2) 4, O2 16 (.call 21) 14 15, O0 5 (.alc [(.int .i64 0), .snil, .snil]), S2 (.st 3) 5 16]) (.seq (.reg [O1 17 (.ldn 4) 3, O1 18 (.call 61) 17, O0 6 (.alc [(.int .i64 0), .snil, .snil]), S2 (.st 3) 6 18]) (.seq (.seq (.drw [O1 19 (.fadr 0) 5, O1 20 .ld1 19, O1 21 (.ldn 4) 3, O1 22 (.ldn 2) 4, O2 23 (.call 19) 21 22, O1 24 (.fld1 0) 23, O2 25 (.bin .neq) 20 24, O1 26 .mv 25, Og 27 (.fadr 0) [.t 6] 26 false, Og 28 .ld1 [.t 27] 26 false, Og 29 (.ldn 4) [.t 3] 26 false, Og 30 (.call 62) [.t 29] 26 false, Og 31 (.fld1 0) [.t 30] 26 false, Og 32 (.bin .neq) [.t 28, .t 31] 26 false, Ol 33 .pick [.t 26, cb true, .t 32]] (unB [0, 1, 0, 0, 12, 28, 63, 127, 255, 511, 255, 1279, 3327, 8191, 16383] 0) true true) (.cond (.t 33) (.seq (.reg [Ol 2 .mv [cb false]]) .ret) .skip)) (.seq (.seq (.reg [O1 34 (.fadr 0) 6, O1 35 .ld1 34, Ol 36 (.bin .eql) [.t 35, ci 2], O1 37 .mv 36, Og 38 (.ldn 4) [.t 3] 37 true, Og 39 (.fadr 1) [.t 6] 37 true, Og 40 (.ldn 2) [.t 39] 37 true, Og 41 (.call 39) [.t 38, .t 40] 37 true, Og 42 .not [.t 41] 37 true, Ol 43 .pick [.t 37, .t 42, cb false], O1 44 .mv 43, Og 45 (.fadr 0) [.t 6] 44 false, Og 46 .ld1 [.t 45] 44 false, Og 47 (.bin .eql) [.t 46, ci 1] 44 false, Og 48 .mv [.t 47] 44 false, Og 49 (.fadr 0) [.t 5] 48 true, Og 50 .ld1 [.t 49] 48 true, Og 51 (.bin .eql) [.t 50, ci 1] 48 true, Og 52 .pick [.t 48, .t 51, cb false] 44 false, Ol 53 .pick [.t 44, cb true, .t 52]]) (.cond (.t 53) (.seq (.reg [Ol 2 .mv [cb false]]) .ret) .skip)) (.seq (.seq (.reg [O1 54 (.fadr 0) 5, O1 55 .ld1 54, Ol 56 (.bin .eql) [.t 55, ci 4]]) (.cond (.t 56) (.seq (.reg [O1 57 (.ldn 4) 3, O1 58 (.ldn 2) 4, O2 59 (.call 39) 57 58, O1 60 .not 59, O1 2 .mv 60]) .ret) .skip)) (.seq (.drw [O1 61 (.fadr 0) 5, O1 62 .ld1 61, Ol 63 (.bin .eql) [.t 62, ci 1], O1 64 (.ldn 4) 3, O1 65 (.ldn 2) 4, O2 66 (.call 39) 64 65, O2 67 (.beq false) 63 66, O1 68 .mv 67, Og 69 (.fadr 1) [.t 5] 68 true, Og 70 (.ldn 2) [.t 69] 68 true, Og 71 (.ldn 2) [.t 4] 68 true, Og 72 (.call 63) [.t 70, .t 71] 68 true, Ol 73 .pick [.t 68, .t 72, cb false], O1 2 .mv 73] (unB [0, 1, 3, 0, 0, 24, 63, 127, 255, 511, 255, 2047, 4095, 8191] 0) true true) .ret)))))))))
theorem b_laws_FnAskOne : Body Try.prog 11 74 c_laws_FnAskOne [(.t 2)] := body_mk Try.func11 (by kernel_rfl) (by decide)
theorem lettersB_mono {l : List Int} {n m : Int} (h : lettersB l n = true) (hnm : n ≤ m) : lettersB l m = true := by
  simp only [lettersB, List.all_eq_true, decide_eq_true_eq] at h ⊢
  intro x hx
  have := h x hx
  omega
theorem wordOk_8 {s l : List Int} {n : Int} (h : wordOk s l n = true) : wordOk s l 8 = true := by
  unfold wordOk at h ⊢
  simp only [Bool.and_eq_true, decide_eq_true_eq] at h ⊢
  obtain ⟨⟨⟨⟨h1, h2⟩, h3⟩, h4⟩, h5⟩ := h
  exact ⟨⟨⟨⟨by omega, h2⟩, h3⟩, lettersB_mono h4 (by omega)⟩, lettersB_mono h5 (by omega)⟩
open Classical in
theorem ask_cases (a : AutoD) (s l : List Int) : ∃ (c d : Int) (s' l' se le : List Int) (bt : Bool), sayH a s l = (c, (s', l')) ∧ sayA a = (d, (se, le)) ∧ (bt = true ↔ TakesA a s l) ∧ (d = 2 → TakesA a se le) ∧ (c ≠ 4 → s' = s ∧ l' = l ∧ wordOk s l 8 = true) ∧
    ((c = 1 ∧ d = 2 ∧ bt = true) ∨ (c = 2 ∧ d = 1 ∧ bt = false) ∨ (c = 2 ∧ d = 2 ∧ bt = false) ∨ (c = 4 ∧ d = 1 ∧ bt = false) ∨ (c = 4 ∧ d = 2 ∧ bt = false) ∨ (c = 4 ∧ d = 4 ∧ bt = false)) := by
  unfold sayH sayA
  by_cases ha : AutoOk a
  · rw [if_pos ha]
    by_cases hw : wordOk s l a.letters = true
    · rw [if_pos ⟨ha, hw⟩]
      by_cases hT : TakesA a s l
      · have h2 := takes_autoW hT
        rw [if_pos hT, if_pos h2]
        exact ⟨1, 2, s, l, _, _, true, rfl, rfl, ⟨fun _ => hT, fun _ => rfl⟩, fun _ => autoW_takes ha h2, fun _ => ⟨rfl, rfl, wordOk_8 hw⟩, .inl ⟨rfl, rfl, rfl⟩⟩
      · rw [if_neg hT]
        by_cases h2 : (autoW a).2 = true
        · rw [if_pos h2]
          exact ⟨2, 2, s, l, _, _, false, rfl, rfl, ⟨fun h => (by cases h), fun h => absurd h hT⟩, fun _ => autoW_takes ha h2, fun _ => ⟨rfl, rfl, wordOk_8 hw⟩, .inr (.inr (.inl ⟨rfl, rfl, rfl⟩))⟩
        · rw [if_neg h2]
          exact ⟨2, 1, s, l, _, _, false, rfl, rfl, ⟨fun h => (by cases h), fun h => absurd h hT⟩, fun h => absurd h (by decide), fun _ => ⟨rfl, rfl, wordOk_8 hw⟩, .inr (.inl ⟨rfl, rfl, rfl⟩)⟩
    · rw [if_neg (fun h => hw h.2)]
      have hT : ¬ TakesA a s l := fun h => hw h.2.2.1
      by_cases h2 : (autoW a).2 = true
      · rw [if_pos h2]
        exact ⟨4, 2, [], [], _, _, false, rfl, rfl, ⟨fun h => (by cases h), fun h => absurd h hT⟩, fun _ => autoW_takes ha h2, fun h => absurd rfl h, .inr (.inr (.inr (.inr (.inl ⟨rfl, rfl, rfl⟩))))⟩
      · rw [if_neg h2]
        exact ⟨4, 1, [], [], _, _, false, rfl, rfl, ⟨fun h => (by cases h), fun h => absurd h hT⟩, fun h => absurd h (by decide), fun h => absurd rfl h, .inr (.inr (.inr (.inl ⟨rfl, rfl, rfl⟩)))⟩
  · rw [if_neg ha, if_neg (fun h => ha h.1)]
    have hT : ¬ TakesA a s l := fun h => ha h.1
    exact ⟨4, 4, [], [], _, _, false, rfl, rfl, ⟨fun h => (by cases h), fun h => absurd h hT⟩, fun h => absurd h (by decide), fun h => absurd rfl h, .inr (.inr (.inr (.inr (.inr ⟨rfl, rfl, rfl⟩))))⟩
set_option maxRecDepth 4000 in
set_option maxHeartbeats 16000000 in
theorem s_laws_FnAskOne : PureSound Try.prog 11 RTrueCode := by
  have hR : Rely Try.prog (ctxOf [(35, .pure RBig), (60, .gen 0 GDrawAW), (21, .pure RHasA), (19, .pure RHasA), (61, .pure RAsk), (62, .pure RAsk), (39, .pure RTakesA), (63, .pure RSameW)]) :=
    rely_cons b_laws_big.has s_laws_big (rely_cons b_spec_DrawAskHas.has s_spec_DrawAskHas (rely_cons b_impl_AskHas.has s_impl_AskHas (rely_cons b_spec_AskHas.has s_spec_AskHas (rely_cons b_impl_AskEmpty.has s_impl_AskEmpty (rely_cons b_spec_AskEmpty.has s_spec_AskEmpty (rely_cons b_impl_AutoTakes.has s_impl_AutoTakes (rely_cons b_impl_WordSame.has s_impl_WordSame (rely_nil mixed))))))))
  refine pure_of_aw b_laws_FnAskOne ?_
  rintro xs r objs ⟨code, rfl, rfl, rfl⟩ -
  refine ⟨by simp, vcS_sound hR [10] _ _ _ _ _ ?_⟩
  conv => whnf
  repeat' ((first | (refine And.intro (fun hb => ?_) (fun hb => ?_) <;> ((try simp only [SB, reduceCtorEq] at hb); try (exfalso; omega))) | refine G2 ?_ | rw [ints_at (by omega)] | rw [ints_at0 (by omega)] | rw [ints_at' (by omega) (by omega)] | refine G1 ?_ | refine ⟨_, _, RBig_mk, ?_⟩ | fail) <;> conv => whnf)
  · refine ⟨.inl rfl, ?_⟩
    conv => whnf
    refine ⟨[], ⟨rfl, trivial⟩, ?_, rfl, rfl⟩
    conv => whnf
    left
    conv => lhs; whnf
  have h2 : code.length ≤ 1048576 := by omega
  refine Rg.split hR 2 ?_
  conv => whnf
  repeat' ((first | (refine And.intro (fun hb => ?_) (fun hb => ?_) <;> ((try simp only [SB, reduceCtorEq] at hb); try (exfalso; omega))) | refine G2 ?_ | rw [ints_at (by omega)] | rw [ints_at0 (by omega)] | rw [ints_at' (by omega) (by omega)] | refine G1 ?_ | refine ⟨GDrawAW_mk h2 (fun a s l k1 k2 k3 => ?_)⟩ | fail) <;> conv => whnf)
  refine ⟨[some 0, some 1, some 2], [(0, .val (code.map byteRow)), (2, .bool false), (11, takenR 0 a s l)], [some (.arr 4 (edgeRows a.edges)), some (.arr 1 (ints s)), some (.arr 1 (ints l))], ⟨rfl, rfl, And.intro (And.intro rfl rfl) (And.intro (And.intro rfl rfl) (And.intro (And.intro rfl rfl) trivial)), ?_⟩, ?_⟩
  · exact ⟨.inl rfl, .inl rfl, And.intro (And.intro (.inl rfl) (And.intro (.inl rfl) (And.intro (.inl rfl) (And.intro rfl trivial)))) (And.intro (And.intro rfl (And.intro rfl trivial)) trivial), trivial⟩
  have hH : ∀ xs, xs = [.agg (autoRow a), wordV s l] → RHasA xs (resR (sayH a s l).1 (sayH a s l).2) (resO (sayH a s l).2) := fun xs h => RHasA_eq h (by omega) (by omega)
  have hE : ∀ xs, xs = [.agg (autoRow a)] → RAsk xs (resR (sayA a).1 (sayA a).2) (resO (sayA a).2) := fun xs h => RAsk_eq h
  obtain ⟨c, d, s', l', se, le, bt, e1, e2, hbt, hd, hc, hcases⟩ := ask_cases a s l
  rw [e1] at hH
  rw [e2] at hE
  clear e1 e2
  have hTT : ∀ xs, xs = [.agg (autoRow a), wordV s l] → RTakesA xs (.bool bt) [] := fun xs h => RTakesA_is h hbt
  rcases hcases with ⟨rfl, rfl, rfl⟩ | ⟨rfl, rfl, rfl⟩ | ⟨rfl, rfl, rfl⟩ | ⟨rfl, rfl, rfl⟩ | ⟨rfl, rfl, rfl⟩ | ⟨rfl, rfl, rfl⟩
  · obtain ⟨rfl, rfl, hw⟩ := hc (by decide)
    have hS : ∀ xs, xs = [wordV s' l', wordV s' l'] → RSameW xs (.bool true) [] := fun xs h => RSameW_is h (sameW_self hw)
    have hTe : ∀ xs, xs = [.agg (autoRow a), wordV se le] → RTakesA xs (.bool true) [] := fun xs h => RTakesA_is h ⟨fun _ => hd rfl, fun _ => rfl⟩
    conv => whnf
    repeat' ((first | contradiction | (refine And.intro (fun hb => ?_) (fun hb => ?_) <;> first | contradiction | ((try simp only [SB, reduceCtorEq] at hb); try (exfalso; first | contradiction | omega))) | refine G2 ?_ | rw [ints_at (by omega)] | rw [ints_at0 (by omega)] | rw [ints_at' (by omega) (by omega)] | refine G1 ?_ | refine ⟨_, _, hH _ (args_cons (snap_auto rfl) (args_cons (snap_woT rfl rfl rfl rfl) rfl)), ?_⟩ | refine ⟨_, _, hE _ (args_cons (snap_auto rfl) rfl), ?_⟩ | refine ⟨_, _, hTe _ (args_cons (snap_auto rfl) (args_cons (snap_woT rfl rfl rfl rfl) rfl)), ?_⟩ | refine ⟨_, _, hTT _ (args_cons (snap_auto rfl) (args_cons (snap_woT rfl rfl rfl rfl) rfl)), ?_⟩ | refine ⟨_, _, hS _ (args_cons (snap_woT rfl rfl rfl rfl) (args_cons (snap_woT rfl rfl rfl rfl) rfl)), ?_⟩ | fail) <;> conv => whnf)
    refine ⟨.inl rfl, ?_⟩
    conv => whnf
    refine ⟨[], ⟨rfl, trivial⟩, ?_, rfl, rfl⟩
    conv => whnf
    left
    conv => lhs; whnf
  · obtain ⟨rfl, rfl, hw⟩ := hc (by decide)
    have hS : ∀ xs, xs = [wordV s' l', wordV s' l'] → RSameW xs (.bool true) [] := fun xs h => RSameW_is h (sameW_self hw)
    conv => whnf
    repeat' ((first | contradiction | (refine And.intro (fun hb => ?_) (fun hb => ?_) <;> first | contradiction | ((try simp only [SB, reduceCtorEq] at hb); try (exfalso; first | contradiction | omega))) | refine G2 ?_ | rw [ints_at (by omega)] | rw [ints_at0 (by omega)] | rw [ints_at' (by omega) (by omega)] | refine G1 ?_ | refine ⟨_, _, hH _ (args_cons (snap_auto rfl) (args_cons (snap_woT rfl rfl rfl rfl) rfl)), ?_⟩ | refine ⟨_, _, hE _ (args_cons (snap_auto rfl) rfl), ?_⟩ | refine ⟨_, _, hTT _ (args_cons (snap_auto rfl) (args_cons (snap_woT rfl rfl rfl rfl) rfl)), ?_⟩ | refine ⟨_, _, hS _ (args_cons (snap_woT rfl rfl rfl rfl) (args_cons (snap_woT rfl rfl rfl rfl) rfl)), ?_⟩ | fail) <;> conv => whnf)
    refine ⟨.inl rfl, ?_⟩
    conv => whnf
    refine ⟨[], ⟨rfl, trivial⟩, ?_, rfl, rfl⟩
    conv => whnf
    left
    conv => lhs; whnf
  · obtain ⟨rfl, rfl, hw⟩ := hc (by decide)
    have hS : ∀ xs, xs = [wordV s' l', wordV s' l'] → RSameW xs (.bool true) [] := fun xs h => RSameW_is h (sameW_self hw)
    have hTe : ∀ xs, xs = [.agg (autoRow a), wordV se le] → RTakesA xs (.bool true) [] := fun xs h => RTakesA_is h ⟨fun _ => hd rfl, fun _ => rfl⟩
    conv => whnf
    repeat' ((first | contradiction | (refine And.intro (fun hb => ?_) (fun hb => ?_) <;> first | contradiction | ((try simp only [SB, reduceCtorEq] at hb); try (exfalso; first | contradiction | omega))) | refine G2 ?_ | rw [ints_at (by omega)] | rw [ints_at0 (by omega)] | rw [ints_at' (by omega) (by omega)] | refine G1 ?_ | refine ⟨_, _, hH _ (args_cons (snap_auto rfl) (args_cons (snap_woT rfl rfl rfl rfl) rfl)), ?_⟩ | refine ⟨_, _, hE _ (args_cons (snap_auto rfl) rfl), ?_⟩ | refine ⟨_, _, hTe _ (args_cons (snap_auto rfl) (args_cons (snap_woT rfl rfl rfl rfl) rfl)), ?_⟩ | refine ⟨_, _, hTT _ (args_cons (snap_auto rfl) (args_cons (snap_woT rfl rfl rfl rfl) rfl)), ?_⟩ | refine ⟨_, _, hS _ (args_cons (snap_woT rfl rfl rfl rfl) (args_cons (snap_woT rfl rfl rfl rfl) rfl)), ?_⟩ | fail) <;> conv => whnf)
    refine ⟨.inl rfl, ?_⟩
    conv => whnf
    refine ⟨[], ⟨rfl, trivial⟩, ?_, rfl, rfl⟩
    conv => whnf
    left
    conv => lhs; whnf
  · conv => whnf
    repeat' ((first | contradiction | (refine And.intro (fun hb => ?_) (fun hb => ?_) <;> first | contradiction | ((try simp only [SB, reduceCtorEq] at hb); try (exfalso; first | contradiction | omega))) | refine G2 ?_ | rw [ints_at (by omega)] | rw [ints_at0 (by omega)] | rw [ints_at' (by omega) (by omega)] | refine G1 ?_ | refine ⟨_, _, hH _ (args_cons (snap_auto rfl) (args_cons (snap_woT rfl rfl rfl rfl) rfl)), ?_⟩ | refine ⟨_, _, hE _ (args_cons (snap_auto rfl) rfl), ?_⟩ | refine ⟨_, _, hTT _ (args_cons (snap_auto rfl) (args_cons (snap_woT rfl rfl rfl rfl) rfl)), ?_⟩ | fail) <;> conv => whnf)
    refine ⟨.inl rfl, ?_⟩
    conv => whnf
    refine ⟨[], ⟨rfl, trivial⟩, ?_, rfl, rfl⟩
    conv => whnf
    left
    conv => lhs; whnf
  · have hTe : ∀ xs, xs = [.agg (autoRow a), wordV se le] → RTakesA xs (.bool true) [] := fun xs h => RTakesA_is h ⟨fun _ => hd rfl, fun _ => rfl⟩
    conv => whnf
    repeat' ((first | contradiction | (refine And.intro (fun hb => ?_) (fun hb => ?_) <;> first | contradiction | ((try simp only [SB, reduceCtorEq] at hb); try (exfalso; first | contradiction | omega))) | refine G2 ?_ | rw [ints_at (by omega)] | rw [ints_at0 (by omega)] | rw [ints_at' (by omega) (by omega)] | refine G1 ?_ | refine ⟨_, _, hH _ (args_cons (snap_auto rfl) (args_cons (snap_woT rfl rfl rfl rfl) rfl)), ?_⟩ | refine ⟨_, _, hE _ (args_cons (snap_auto rfl) rfl), ?_⟩ | refine ⟨_, _, hTe _ (args_cons (snap_auto rfl) (args_cons (snap_woT rfl rfl rfl rfl) rfl)), ?_⟩ | refine ⟨_, _, hTT _ (args_cons (snap_auto rfl) (args_cons (snap_woT rfl rfl rfl rfl) rfl)), ?_⟩ | fail) <;> conv => whnf)
    refine ⟨.inl rfl, ?_⟩
    conv => whnf
    refine ⟨[], ⟨rfl, trivial⟩, ?_, rfl, rfl⟩
    conv => whnf
    left
    conv => lhs; whnf
  · conv => whnf
    repeat' ((first | contradiction | (refine And.intro (fun hb => ?_) (fun hb => ?_) <;> first | contradiction | ((try simp only [SB, reduceCtorEq] at hb); try (exfalso; first | contradiction | omega))) | refine G2 ?_ | rw [ints_at (by omega)] | rw [ints_at0 (by omega)] | rw [ints_at' (by omega) (by omega)] | refine G1 ?_ | refine ⟨_, _, hH _ (args_cons (snap_auto rfl) (args_cons (snap_woT rfl rfl rfl rfl) rfl)), ?_⟩ | refine ⟨_, _, hE _ (args_cons (snap_auto rfl) rfl), ?_⟩ | refine ⟨_, _, hTT _ (args_cons (snap_auto rfl) (args_cons (snap_woT rfl rfl rfl rfl) rfl)), ?_⟩ | fail) <;> conv => whnf)
    refine ⟨.inl rfl, ?_⟩
    conv => whnf
    refine ⟨[], ⟨rfl, trivial⟩, ?_, rfl, rfl⟩
    conv => whnf
    left
    conv => lhs; whnf
end Go.Proofs.Ythanhknkoikbfaa.Ct
