/- Part 8 of the proof of FnDegenSaid: CtDegenS, CtBig, CtLawDegen. Conditions: none. -/
import Derived.Test.YthanhknkoikbfaaT7
import Derived.Test.YthanhknkoikbfaaT5
set_option linter.unusedSimpArgs false
set_option linter.unusedVariables false
namespace Go.Proofs.Ythanhknkoikbfaa.Ct
open Go Go.Proofs Go.Proofs.Ythanhknkoikbfaa.Av Go.Proofs.Ythanhknkoikbfaa.Pl
def c_spec_GenDegen : ICode := (.seq (.reg [O1 1 (.box 5) 0, O0 2 (.alc [(.int .i64 0), (.int .i64 0), (.int .i64 0), .snil]), Ol 3 .mv [cb false]]) (.seq (.seq (.drw [O1 13 (.ldn 5) 1, O1 14 (.call 69) 13, O1 15 .not 14, O1 16 .mv 15, Og 17 (.fadr 1) [.t 1] 16 false, Og 18 .ld1 [.t 17] 16 false, Og 19 (.fadr 3) [.t 1] 16 false, Og 20 .ld1 [.t 19] 16 false, Og 21 (.call 153) [.t 20, ci 1] 16 false, Og 22 (.bin .mul) [.t 18, .t 21] 16 false, Og 23 (.bin .gtr) [.t 22, ci 31] 16 false, Ol 24 .pick [.t 16, cb true, .t 23], O1 25 .mv 24, Og 26 (.fadr 4) [.t 1] 25 false, Og 27 .ld1 [.t 26] 25 false, Og 28 .len [.t 27] 25 false, Og 29 (.fadr 3) [.t 1] 25 false, Og 30 .ld1 [.t 29] 25 false, Og 31 (.call 153) [.t 30, ci 1] 25 false, Og 32 (.bin .mul) [.t 28, .t 31] 25 false, Og 33 (.bin .gtr) [.t 32, ci 2000] 25 false, Ol 34 .pick [.t 25, cb true, .t 33]] (unB [0, 1, 3, 7, 15, 31, 15, 79, 207, 511, 1023, 2047, 4095, 8191, 16383, 32767, 8191, 73727, 204799, 524287, 1048575, 2097151] 0) true true) (.cond (.t 34) (.seq (.reg [O0 35 (.bld [(.int .i64 0), (.int .i64 0), (.int .i64 0), .snil] []), S2 (.st 4) 2 35, Ol 3 .mv [cb false]]) .ret) .skip)) (.seq (.reg [O1 36 (.fadr 3) 1, O1 37 .ld1 36, Ol 38 (.call 153) [.t 37, ci 1], O1 4 .mv 38]) (.seq (.reg [Ol 5 .mv [ci 0]]) (.seq (.seq (.reg [Ol 6 .mv [ci 0]]) (.block 0 (.loop (.seq (.seq (.reg [O1 39 .mv 6, O1 40 (.fadr 1) 1, O1 41 .ld1 40, O2 42 (.bin .lss) 39 41]) (.cond (.t 42) .skip (.exit 0))) (.seq (.block 1 (.seq (.reg [O1 45 (.fadr 2) 1, O1 46 .ld1 45, O1 47 .mv 6, O2 48 (.call 73) 46 47]) (.cond (.t 48) (.reg [O1 49 .mv 5, O1 50 .mv 6, O1 51 .mv 4, O2 52 (.bin .mul) 50 51, O1 53 (.call 123) 52, O2 54 (.bin .or) 49 53, O1 5 .mv 54]) .skip))) (.reg [O1 43 .mv 6, Ol 44 (.bin .add) [.t 43, ci 1], O1 6 .mv 44])))))) (.seq (.reg [O0 55 .bsle, O1 7 .mv 55]) (.seq (.seq (.reg [Ol 8 .mv [ci 0]]) (.block 2 (.loop (.seq (.seq (.reg [O1 56 .mv 8, O1 57 (.fadr 4) 1, O1 58 .ld1 57, O1 59 .len 58, O2 60 (.bin .lss) 56 59]) (.cond (.t 60) .skip (.exit 2))) (.seq (.block 3 (.seq (.reg [O1 63 (.fadr 4) 1, O1 64 .ld1 63, O1 65 .mv 8, O2 66 (.iadr 4) 64 65, O1 67 (.ldn 4) 66, O0 9 (.alc [(.int .i64 0), (.int .i64 0), (.int .i64 0), (.int .i64 0)]), S2 (.st 4) 9 67]) (.seq (.reg [Ol 10 .mv [ci 0]]) (.block 4 (.loop (.seq (.seq (.reg [O1 68 .mv 10, O1 69 .mv 4, O2 70 (.bin .lss) 68 69]) (.cond (.t 70) .skip (.exit 4))) (.seq (.block 5 (.seq (.reg [O1 73 .mv 10, O1 11 .mv 73]) (.seq (.block 6 (.loop (.seq (.seq (.reg [O1 74 .mv 11, O1 75 (.fadr 3) 1, O1 76 .ld1 75, O2 77 (.bin .lss) 74 76, O1 78 .mv 77, Og 79 (.fadr 3) [.t 9] 78 true, Og 80 .ld1 [.t 79] 78 true, Og 81 .mv [.t 11] 78 true, Og 82 (.call 73) [.t 80, .t 81] 78 true, Ol 83 .pick [.t 78, .t 82, cb false]]) (.cond (.t 83) .skip (.exit 6))) (.block 7 (.reg [O1 84 .mv 11, Ol 85 (.bin .add) [.t 84, ci 1], O1 11 .mv 85]))))) (.seq (.reg [O1 86 .mv 11, O1 87 (.fadr 3) 1, O1 88 .ld1 87, O2 89 (.bin .geq) 86 88, O1 12 .mv 89]) (.seq (.seq (.reg [O1 90 .mv 12]) (.cond (.t 90) (.reg [Ol 11 .mv [ci 0]]) .skip)) (.reg [O1 91 .mv 7, O1 92 (.fadr 0) 9, O1 93 .ld1 92, O1 94 .mv 4, O2 95 (.bin .mul) 93 94, O1 96 .mv 10, O2 97 (.bin .add) 95 96, O1 98 (.fadr 1) 9, O1 99 .ld1 98, O1 100 (.fadr 2) 9, O1 101 .ld1 100, O1 102 .mv 4, O2 103 (.bin .mul) 101 102, O1 104 .mv 11, O2 105 (.bin .add) 103 104, O1 106 .mv 12, Ol 107 (.bld [(.int .i64 0), (.int .i64 0), (.int .i64 0), (.bool false)] [(0, 1), (1, 1), (2, 1), (3, 1)]) [.t 97, .t 99, .t 105, .t 106], O1 108 (.bslv 4) 107, O2 109 (.app 4 32) 91 108, O1 7 .mv 109])))))) (.reg [O1 71 .mv 10, Ol 72 (.bin .add) [.t 71, ci 1], O1 10 .mv 72])))))))) (.reg [O1 61 .mv 8, Ol 62 (.bin .add) [.t 61, ci 1], O1 8 .mv 62])))))) (.seq (.reg [O1 110 (.fadr 0) 1, O1 111 .ld1 110, O1 112 (.fadr 1) 1, O1 113 .ld1 112, O1 114 .mv 4, O2 115 (.bin .mul) 113 114, O1 116 .mv 5, O1 117 .mv 7, Ol 118 (.call 154) [.t 111, .t 115, .t 116, .t 117], O1 119 (.ext 0) 118, O1 120 (.ext 1) 118, S2 (.st 4) 2 119, O1 3 .mv 120]) .ret))))))))
theorem b_spec_GenDegen : Body Try.prog 67 121 c_spec_GenDegen [(.cn 2 4), (.t 3)] := body_mk Try.func67 (by kernel_rfl) (by decide)
open Classical in
noncomputable def degS (g : GenD) : AutoD × Bool := if DegOk g then makeD g.letters (g.states * ((setsN g : Nat) : Int)) ((stN (setsN g) (bitL g.start.toNat 31) : Nat) : Int) (degL g g.edges.length) else (zeroAuto, false)
def RDegenS (xs : List AV) (r : AV) (objs : List AObj) : Prop := ∃ g : GenD, xs = [.agg (genRow g)] ∧ r = makeR (degS g) ∧ objs = [.arr 4 (edgeRows (degS g).1.edges)]
theorem RDegenS_eq {xs : List AV} {g : GenD} (hx : xs = [.agg (genRow g)]) : RDegenS xs (makeR (degS g)) [.arr 4 (edgeRows (degS g).1.edges)] := ⟨g, hx, rfl, rfl⟩
theorem stN_bits {n X i : Nat} : stN n (bitL X (i + 1)) = if X.testBit i = true then stN n (bitL X i) ||| 2 ^ (i * n) else stN n (bitL X i) := by
  rw [bitL_succ]
  split
  · exact stN_snoc
  · rw [List.append_nil]
set_option maxHeartbeats 8000000 in
theorem s_spec_GenDegen : PureSound Try.prog 67 RDegenS := by
  have hR : Rely Try.prog (ctxOf [(69, .pure RGenOk), (153, .pure RMax), (73, .pure RHas), (123, .pure RBit), (154, .pure RMake)]) :=
    rely_cons b_spec_GenOk.has s_spec_GenOk (rely_cons b_spec_l1Max.has s_spec_l1Max (rely_cons b_spec_l1Has.has s_spec_l1Has (rely_cons b_spec_l1Bit.has s_spec_l1Bit (rely_cons b_spec_AutoMake.has s_spec_AutoMake (rely_nil mixed)))))
  refine pure_of_aw b_spec_GenDegen ?_
  rintro xs r objs ⟨g, rfl, rfl, rfl⟩ -
  refine ⟨by simp, ?_⟩
  unfold degS
  by_cases hg : GenOk g
  rotate_left
  · have hg' : decide (GenOk g) = false := decide_eq_false hg
    rw [if_neg (fun h => hg h.1)]
    refine vc2_sound hR _ _ _ _ _ ?_
    conv => whnf
    repeat' ((first | contradiction | (refine And.intro (fun hb => ?_) (fun hb => ?_) <;> first | contradiction | ((try simp only [SB, reduceCtorEq] at hb); try (exfalso; first | contradiction | omega))) | refine G2 ?_ | rw [ints_at (by omega)] | rw [ints_at0 (by omega)] | rw [ints_at' (by omega) (by omega)] | refine G1 ?_ | refine ⟨_, _, RGenOk_b rfl hg', ?_⟩ | fail) <;> conv => whnf)
    refine ⟨.inl rfl, ?_⟩
    conv => whnf
    exact ⟨by simp, [none], ⟨rfl, And.intro rfl trivial⟩, ⟨⟨.inl rfl, .inl rfl, .inl rfl, ⟨rfl, rfl, rfl⟩, trivial⟩, .inl rfl, trivial⟩, rfl, rfl⟩
  have hg' : decide (GenOk g) = true := decide_eq_true hg
  have hst := hg.1.2.1
  have hsr := hg.1.2.2
  have hse := hg.2.1
  have hel := hg.2.2.1
  have hgr := length_gedgeRows g.edges
  obtain ⟨n, hn⟩ : ∃ n, n = setsN g := ⟨_, rfl⟩
  have hn4 : 1 ≤ n ∧ n ≤ 4 ∧ n = max g.sets.toNat 1 := ⟨by rw [hn]; exact setsN_pos g, by rw [hn]; unfold setsN; omega, hn⟩
  have p1 : 0 ≤ g.states * ((n : Nat) : Int) := Int.mul_nonneg hst.1 (by omega)
  have p2 : g.states * ((n : Nat) : Int) ≤ 31 * 4 := Int.mul_le_mul hst.2 (by omega) (by omega) (by omega)
  have p3 : 0 ≤ ((g.edges.length : Nat) : Int) * ((n : Nat) : Int) := Int.mul_nonneg (by omega) (by omega)
  have p4 : ((g.edges.length : Nat) : Int) * ((n : Nat) : Int) ≤ 2000 * 4 := Int.mul_le_mul (by omega) (by omega) (by omega) (by omega)
  have hmx : ∀ xs, xs = [.int .i64 g.sets, .int .i64 1] → RMax xs (.int .i64 ((n : Nat) : Int)) [] := fun xs h => ⟨g.sets, 1, h, congrArg (AV.int .i64) (by split <;> omega), rfl⟩
  by_cases hD : DegOk g
  rotate_left
  · rw [if_neg hD]
    have hbig : ¬ (g.states * ((n : Nat) : Int) ≤ 31 ∧ ((g.edges.length : Nat) : Int) * ((n : Nat) : Int) ≤ 2000) := fun h => hD ⟨hg, by rw [← hn]; exact h.1, by rw [← hn]; exact h.2⟩
    refine vc2_sound hR _ _ _ _ _ ?_
    conv => whnf
    repeat' ((first | contradiction | (refine And.intro (fun hb => ?_) (fun hb => ?_) <;> first | contradiction | ((try simp only [SB, reduceCtorEq] at hb); try (exfalso; first | contradiction | omega))) | rw [hgr] | refine G2 ?_ | rw [ints_at (by omega)] | rw [ints_at0 (by omega)] | rw [ints_at' (by omega) (by omega)] | refine G1 ?_ | refine ⟨_, _, RGenOk_b rfl hg', ?_⟩ | refine ⟨_, _, hmx _ rfl, ?_⟩ | fail) <;> conv => whnf)
    all_goals
      refine ⟨.inl rfl, ?_⟩
      conv => whnf
      exact ⟨by simp, [none], ⟨rfl, And.intro rfl trivial⟩, ⟨⟨.inl rfl, .inl rfl, .inl rfl, ⟨rfl, rfl, rfl⟩, trivial⟩, .inl rfl, trivial⟩, rfl, rfl⟩
  rw [if_pos hD]
  have hd31 := hD.2.1
  have hd20 := hD.2.2
  rw [← hn] at hd31 hd20
  have hsl : g.start = ((g.start.toNat : Nat) : Int) := by omega
  have hglt := gstart_lt hg
  have h31 : g.start.toNat < 2 ^ 31 := Nat.lt_of_lt_of_le hglt (pow_le31 (by omega))
  have hMk := deg_make hD
  have hsm := degL_small hD
  have hdl := fun i (h : i ≤ g.edges.length) => degL_len (g := g) h
  have hbl : bitL g.start.toNat 31 = bitL g.start.toNat g.states.toNat := bitL_more hglt (by omega)
  have hmk : ∀ xs, xs = [.int .i64 g.letters, .int .i64 (g.states * ((setsN g : Nat) : Int)), .int .i64 ((stN (setsN g) (bitL g.start.toNat 31) : Nat) : Int), .val (edgeRows (degL g g.edges.length))] → RMake xs (makeR (makeD g.letters (g.states * ((setsN g : Nat) : Int)) ((stN (setsN g) (bitL g.start.toNat 31) : Nat) : Int) (degL g g.edges.length))) [.arr 4 (edgeRows (makeD g.letters (g.states * ((setsN g : Nat) : Int)) ((stN (setsN g) (bitL g.start.toNat 31) : Nat) : Int) (degL g g.edges.length)).1.edges)] := fun xs h => ⟨_, _, _, _, h, by omega, rfl, rfl⟩
  have hok2 : (makeD g.letters (g.states * ((setsN g : Nat) : Int)) ((stN (setsN g) (bitL g.start.toNat 31) : Nat) : Int) (degL g g.edges.length)).2 = true := by unfold makeD; rw [if_pos hMk]
  rw [hbl, ← hn] at hmk hok2 ⊢
  rw [← hn] at hdl
  generalize makeD g.letters (g.states * ((n : Nat) : Int)) ((stN n (bitL g.start.toNat g.states.toNat) : Nat) : Int) (degL g g.edges.length) = D at *
  obtain ⟨D, db⟩ := D
  dsimp only at hok2
  subst hok2
  dsimp only at hmk ⊢
  have hstl : ∀ i, i ≤ g.states.toNat → stN n (bitL g.start.toNat i) < 2 ^ 31 := fun i hi => by
    refine Nat.lt_of_lt_of_le (stN_lt (m := g.states.toNat) (fun s hs => ?_) (by omega)) (pow_le31 ?_)
    · have := (mem_bitL.1 hs).1
      omega
    · have : ((g.states.toNat * n : Nat) : Int) ≤ 31 := by rw [Int.natCast_mul, Int.toNat_of_nonneg hst.1]; exact hd31
      omega
  refine vc2_sound hR _ _ _ _ _ ?_
  conv => whnf
  repeat' ((first | contradiction | (refine And.intro (fun hb => ?_) (fun hb => ?_) <;> first | contradiction | ((try simp only [SB, reduceCtorEq] at hb); try (exfalso; first | contradiction | omega))) | rw [hgr] | refine G2 ?_ | rw [ints_at (by omega)] | rw [ints_at0 (by omega)] | rw [ints_at' (by omega) (by omega)] | refine G1 ?_ | refine ⟨_, _, RGenOk_b rfl hg', ?_⟩ | refine ⟨_, _, hmx _ rfl, ?_⟩ | fail) <;> conv => whnf)
  refine Lp.intro (α := Nat) (fun i => i ≤ g.states.toNat) (fun i => g.states.toNat - i)
    (fun i => [(1, .ptr 0 0 0), (2, .ptr 1 0 0), (3, .bool false), (4, .int .i64 ((n : Nat) : Int)), (5, .int .i64 ((stN n (bitL g.start.toNat i) : Nat) : Int)), (6, .int .i64 ((i : Nat) : Int))]) (fun _ => [some (.box (genRow g)), some zBox]) ?_ ?_
  · refine ⟨0, Nat.zero_le _, [some 0, some 1], rfl, rfl, And.intro ⟨.inl rfl, .inl rfl, .inl rfl, .inl rfl, .inl rfl, trivial⟩ (And.intro ⟨.inl rfl, .inl rfl, .inl rfl, .inl rfl, trivial⟩ trivial), ⟨rfl, rfl, .inl rfl, .inl rfl, .inl rfl, .inl rfl, trivial⟩⟩
  intro i hi
  refine vc2_sound hR _ _ _ _ _ ?_
  by_cases hlt : i < g.states.toNat
  · have hsb := stN_bits (n := n) (X := g.start.toNat) (i := i)
    have hv1 : ((i : Nat) : Int) * ((n : Nat) : Int) ≤ (g.states - 1) * ((n : Nat) : Int) := Int.mul_le_mul_of_nonneg_right (by omega) (by omega)
    rw [Int.sub_mul, Int.one_mul] at hv1
    have hv0 : 0 ≤ ((i : Nat) : Int) * ((n : Nat) : Int) := Int.mul_nonneg (by omega) (by omega)
    have hor := or_bit (X := stN n (bitL g.start.toNat i)) (i := ((i : Nat) : Int) * ((n : Nat) : Int)) (hstl i hi) hv0 (by omega)
    have hbt : ∀ xs, xs = [.int .i64 g.start, .int .i64 ((i : Nat) : Int)] → RHas xs (.bool (g.start.toNat.testBit i)) [] := fun xs h => RHas_st (X := g.start.toNat) (v := i) (by rw [h, ← hsl]) h31 (by omega)
    cases hb2 : g.start.toNat.testBit i with
    | true =>
      rw [hb2] at hbt hsb
      rw [if_pos rfl] at hsb
      have e1 : (((i : Nat) : Int) * ((n : Nat) : Int)).toNat = i * n := by rw [← Int.natCast_mul, Int.toNat_natCast]
      rw [e1] at hor
      have hbit : ∀ xs, xs = [.int .i64 (((i : Nat) : Int) * ((n : Nat) : Int))] → RBit xs (.int .i64 ((2 ^ (i * n) : Nat) : Int)) [] := fun xs h => ⟨_, h, hv0, by omega, by rw [e1], rfl⟩
      conv => whnf
      repeat' ((first | contradiction | (refine And.intro (fun hb => ?_) (fun hb => ?_) <;> first | contradiction | ((try simp only [SB, reduceCtorEq] at hb); try (exfalso; first | contradiction | omega))) | rw [hor] | refine G2 ?_ | rw [ints_at (by omega)] | rw [ints_at0 (by omega)] | rw [ints_at' (by omega) (by omega)] | refine G1 ?_ | refine ⟨_, _, hbt _ rfl, ?_⟩ | refine ⟨_, _, hbit _ rfl, ?_⟩ | fail) <;> conv => whnf)
      refine ⟨i + 1, hlt, by omega, [some 0, some 1], rfl, rfl, And.intro ⟨.inl rfl, .inl rfl, .inl rfl, .inl rfl, .inl rfl, trivial⟩ (And.intro ⟨.inl rfl, .inl rfl, .inl rfl, .inl rfl, trivial⟩ trivial), ⟨rfl, rfl, .inl rfl, .inl rfl, .inl (congrArg (fun x : Nat => AV.int .i64 x) hsb.symm), .inl rfl, trivial⟩⟩
    | false =>
      rw [hb2] at hbt hsb
      rw [if_neg (by decide)] at hsb
      conv => whnf
      repeat' ((first | contradiction | (refine And.intro (fun hb => ?_) (fun hb => ?_) <;> first | contradiction | ((try simp only [SB, reduceCtorEq] at hb); try (exfalso; first | contradiction | omega))) | refine G2 ?_ | rw [ints_at (by omega)] | rw [ints_at0 (by omega)] | rw [ints_at' (by omega) (by omega)] | refine G1 ?_ | refine ⟨_, _, hbt _ rfl, ?_⟩ | fail) <;> conv => whnf)
      refine ⟨i + 1, hlt, by omega, [some 0, some 1], rfl, rfl, And.intro ⟨.inl rfl, .inl rfl, .inl rfl, .inl rfl, .inl rfl, trivial⟩ (And.intro ⟨.inl rfl, .inl rfl, .inl rfl, .inl rfl, trivial⟩ trivial), ⟨rfl, rfl, .inl rfl, .inl rfl, .inl (congrArg (fun x : Nat => AV.int .i64 x) hsb.symm), .inl rfl, trivial⟩⟩
  obtain rfl : i = g.states.toNat := by omega
  obtain ⟨st, hst1⟩ : ∃ st, st = stN n (bitL g.start.toNat g.states.toNat) := ⟨_, rfl⟩
  rw [← hst1] at hmk ⊢
  conv => whnf
  repeat' ((first | contradiction | (refine And.intro (fun hb => ?_) (fun hb => ?_) <;> first | contradiction | ((try simp only [SB, reduceCtorEq] at hb); try (exfalso; first | contradiction | omega))) | refine G2 ?_ | rw [ints_at (by omega)] | rw [ints_at0 (by omega)] | rw [ints_at' (by omega) (by omega)] | refine G1 ?_ | fail) <;> conv => whnf)
  refine Lp.intro (α := Nat) (fun i => i ≤ g.edges.length) (fun i => g.edges.length - i)
    (fun i => [(1, .ptr 0 0 0), (2, .ptr 1 0 0), (3, .bool false), (4, .int .i64 ((n : Nat) : Int)), (5, .int .i64 ((st : Nat) : Int)), (7, .ref 2 0 (degL g i).length), (8, .int .i64 ((i : Nat) : Int))]) (fun i => [some (.box (genRow g)), some zBox, some (.arr 4 (edgeRows (degL g i)))]) ?_ ?_
  · refine ⟨0, Nat.zero_le _, [some 0, some 1, none], rfl, rfl, And.intro ⟨.inl rfl, .inl rfl, .inl rfl, .inl rfl, .inl rfl, trivial⟩ (And.intro ⟨.inl rfl, .inl rfl, .inl rfl, .inl rfl, trivial⟩ (And.intro rfl trivial)), ⟨rfl, rfl, .inl rfl, .inl rfl, .inl rfl, ⟨rfl, rfl, rfl⟩, .inl rfl, trivial⟩⟩
  clear hi hlt
  intro i hi
  refine vc2_sound hR _ _ _ _ _ ?_
  by_cases hlt : i < g.edges.length
  · have hat := gedge_at hlt
    have hin := gmem_in hg (getD_mem' hlt)
    unfold GIn at hin
    have hJz := degJ_zero (g := g) (i := i)
    have hJs := fun j => degJ_succ (g := g) (i := i) (j := j)
    have hJa := degJ_all hlt
    have hJl := fun j => degJ_len (g := g) (i := i) (j := j) (by omega)
    rw [← hn] at hJs hJa hJl
    generalize g.edges.getD i default = e at *
    have q1 : 0 ≤ e.src * ((n : Nat) : Int) := Int.mul_nonneg hin.1.1 (by omega)
    have q2 : e.src * ((n : Nat) : Int) ≤ 31 * 4 := Int.mul_le_mul (by omega) (by omega) (by omega) (by omega)
    have q3 : 0 ≤ e.dst * ((n : Nat) : Int) := Int.mul_nonneg hin.2.1.1 (by omega)
    have q4 : e.dst * ((n : Nat) : Int) ≤ 31 * 4 := Int.mul_le_mul (by omega) (by omega) (by omega) (by omega)
    conv => whnf
    repeat' ((first | contradiction | (refine And.intro (fun hb => ?_) (fun hb => ?_) <;> first | contradiction | ((try simp only [SB, reduceCtorEq] at hb); try (exfalso; first | contradiction | omega))) | rw [hat] | refine G2 ?_ | rw [ints_at (by omega)] | rw [ints_at0 (by omega)] | rw [ints_at' (by omega) (by omega)] | refine G1 ?_ | fail) <;> conv => whnf)
    refine Lp.intro (α := Nat) (fun j => j ≤ n) (fun j => n - j)
      (fun j => [(1, .ptr 0 0 0), (2, .ptr 1 0 0), (3, .bool false), (4, .int .i64 ((n : Nat) : Int)), (5, .int .i64 ((st : Nat) : Int)), (7, .ref 2 0 (degJ g i j).length), (8, .int .i64 ((i : Nat) : Int)), (9, .ptr 3 0 0), (10, .int .i64 ((j : Nat) : Int))])
      (fun j => [some (.box (genRow g)), some zBox, some (.arr 4 (edgeRows (degJ g i j))), some (.box (gedgeRow e))]) ?_ ?_
    · refine ⟨0, Nat.zero_le _, [some 0, some 1, some 2, some 3], rfl, rfl, And.intro ⟨.inl rfl, .inl rfl, .inl rfl, .inl rfl, .inl rfl, trivial⟩ (And.intro ⟨.inl rfl, .inl rfl, .inl rfl, .inl rfl, trivial⟩ (And.intro ⟨rfl, congrArg edgeRows hJz.symm⟩ (And.intro ⟨.inl rfl, .inl rfl, .inl rfl, .inl rfl, trivial⟩ trivial))), ⟨rfl, rfl, .inl rfl, .inl rfl, .inl rfl, congrArg (fun l : List EdgeD => AV.ref 2 0 l.length) hJz.symm, .inl rfl, rfl, .inl rfl, trivial⟩⟩
    intro j hj
    refine vc2_sound hR _ _ _ _ _ ?_
    by_cases hltj : j < n
    · obtain ⟨M, hM⟩ : ∃ M, M = e.marks.toNat := ⟨_, rfl⟩
      obtain ⟨S, hS⟩ : ∃ S, S = g.sets.toNat := ⟨_, rfl⟩
      have hM1 : e.marks = ((M : Nat) : Int) := by omega
      have hS1 : g.sets = ((S : Nat) : Int) := by omega
      have hJs1 := hJs j
      have hJl1 := hJl j
      have hJe := length_edgeRows (degJ g i j)
      have hiN : i * n + n ≤ g.edges.length * n := by
        have := Nat.mul_le_mul_right n hlt
        rw [Nat.succ_mul] at this
        exact this
      rw [hdl _ (Nat.le_refl _)] at hsm
      unfold degE waitJ at hJs1
      rw [← hM, ← hS] at hJs1
      obtain ⟨U, hU⟩ : ∃ U, nextU M S j = U := ⟨_, rfl⟩
      have hin2 := nextU_in (m := M) (S := S) (k := j) (by omega)
      simp only [hU] at hJs1 hin2
      have hyes := fun u => nextU_yes (m := M) (S := S) (k := u)
      have hno := fun u => nextU_no (m := M) (S := S) (k := u)
      conv => whnf
      repeat' ((first | contradiction | (refine And.intro (fun hb => ?_) (fun hb => ?_) <;> first | contradiction | ((try simp only [SB, reduceCtorEq] at hb); try (exfalso; first | contradiction | omega))) | refine G2 ?_ | rw [ints_at (by omega)] | rw [ints_at0 (by omega)] | rw [ints_at' (by omega) (by omega)] | refine G1 ?_ | fail) <;> conv => whnf)
      refine Lp.intro (α := Nat) (fun u => u ≤ S ∧ nextU M S u = U) (fun u => S - u)
        (fun u => [(1, .ptr 0 0 0), (2, .ptr 1 0 0), (3, .bool false), (4, .int .i64 ((n : Nat) : Int)), (5, .int .i64 ((st : Nat) : Int)), (7, .ref 2 0 (degJ g i j).length), (8, .int .i64 ((i : Nat) : Int)), (9, .ptr 3 0 0), (10, .int .i64 ((j : Nat) : Int)), (11, .int .i64 ((u : Nat) : Int))])
        (fun _ => [some (.box (genRow g)), some zBox, some (.arr 4 (edgeRows (degJ g i j))), some (.box (gedgeRow e))]) ?_ ?_
      · refine ⟨j, ⟨by omega, hU⟩, [some 0, some 1, some 2, some 3], rfl, rfl, And.intro ⟨.inl rfl, .inl rfl, .inl rfl, .inl rfl, .inl rfl, trivial⟩ (And.intro ⟨.inl rfl, .inl rfl, .inl rfl, .inl rfl, trivial⟩ (And.intro ⟨rfl, rfl⟩ (And.intro ⟨.inl rfl, .inl rfl, .inl rfl, .inl rfl, trivial⟩ trivial))), ⟨rfl, rfl, .inl rfl, .inl rfl, .inl rfl, rfl, .inl rfl, rfl, .inl rfl, .inl rfl, trivial⟩⟩
      rintro u ⟨hu, hun⟩
      refine vc2_sound hR _ _ _ _ _ ?_
      have hbt : ∀ xs, xs = [.int .i64 e.marks, .int .i64 ((u : Nat) : Int)] → u ≤ 30 → RHas xs (.bool (M.testBit u)) [] := fun xs h h3 => RHas_st (X := M) (v := u) (by rw [h, hM1]) (by omega) h3
      by_cases hltu : u < S
      · cases hb2 : M.testBit u with
        | true =>
          rw [hb2] at hbt
          have hy : nextU M S (u + 1) = U := by rw [← hyes u hltu hb2]; exact hun
          conv => whnf
          repeat' ((first | contradiction | (refine And.intro (fun hb => ?_) (fun hb => ?_) <;> first | contradiction | ((try simp only [SB, reduceCtorEq] at hb); try (exfalso; first | contradiction | omega))) | refine G2 ?_ | rw [ints_at (by omega)] | rw [ints_at0 (by omega)] | rw [ints_at' (by omega) (by omega)] | refine G1 ?_ | refine ⟨_, _, hbt _ rfl (by omega), ?_⟩ | fail) <;> conv => whnf)
          refine ⟨u + 1, ⟨hltu, hy⟩, by omega, [some 0, some 1, some 2, some 3], rfl, rfl, And.intro ⟨.inl rfl, .inl rfl, .inl rfl, .inl rfl, .inl rfl, trivial⟩ (And.intro ⟨.inl rfl, .inl rfl, .inl rfl, .inl rfl, trivial⟩ (And.intro ⟨rfl, rfl⟩ (And.intro ⟨.inl rfl, .inl rfl, .inl rfl, .inl rfl, trivial⟩ trivial))), ⟨rfl, rfl, .inl rfl, .inl rfl, .inl rfl, rfl, .inl rfl, rfl, .inl rfl, .inl rfl, trivial⟩⟩
        | false =>
          rw [hb2] at hbt
          obtain rfl : U = u := by rw [← hun]; exact hno u (fun h => by rw [hb2] at h; exact absurd h.2 (by decide))
          have hne : ¬ U = S := by omega
          rw [if_neg hne, decide_eq_false hne] at hJs1
          conv => whnf
          repeat' ((first | contradiction | (refine And.intro (fun hb => ?_) (fun hb => ?_) <;> first | contradiction | ((try simp only [SB, reduceCtorEq] at hb); try (exfalso; first | contradiction | omega))) | refine G2 ?_ | rw [ints_at (by omega)] | rw [ints_at0 (by omega)] | rw [ints_at' (by omega) (by omega)] | refine G1 ?_ | refine ⟨_, _, hbt _ rfl (by omega), ?_⟩ | fail) <;> conv => whnf)
          refine ⟨j + 1, hltj, by omega, [some 0, some 1, some 4, some 3], rfl, rfl, And.intro ⟨.inl rfl, .inl rfl, .inl rfl, .inl rfl, .inl rfl, trivial⟩ (And.intro ⟨.inl rfl, .inl rfl, .inl rfl, .inl rfl, trivial⟩ (And.intro ⟨rfl, by rw [hJs1]; exact deg_app⟩ (And.intro ⟨.inl rfl, .inl rfl, .inl rfl, .inl rfl, trivial⟩ trivial))), ⟨rfl, rfl, .inl rfl, .inl rfl, .inl rfl, congrArg (AV.ref 4 0) (by rw [hJs1, List.length_append]; rfl), .inl rfl, rfl, .inl rfl, trivial⟩⟩
      · obtain rfl : U = u := by rw [← hun]; exact hno u (fun h => hltu h.1)
        have hUS : U = S := by omega
        rw [if_pos hUS, decide_eq_true hUS] at hJs1
        conv => whnf
        repeat' ((first | contradiction | (refine And.intro (fun hb => ?_) (fun hb => ?_) <;> first | contradiction | ((try simp only [SB, reduceCtorEq] at hb); try (exfalso; first | contradiction | omega))) | refine G2 ?_ | rw [ints_at (by omega)] | rw [ints_at0 (by omega)] | rw [ints_at' (by omega) (by omega)] | refine G1 ?_ | fail) <;> conv => whnf)
        refine ⟨j + 1, hltj, by omega, [some 0, some 1, some 4, some 3], rfl, rfl, And.intro ⟨.inl rfl, .inl rfl, .inl rfl, .inl rfl, .inl rfl, trivial⟩ (And.intro ⟨.inl rfl, .inl rfl, .inl rfl, .inl rfl, trivial⟩ (And.intro ⟨rfl, by rw [hJs1]; exact deg_app⟩ (And.intro ⟨.inl rfl, .inl rfl, .inl rfl, .inl rfl, trivial⟩ trivial))), ⟨rfl, rfl, .inl rfl, .inl rfl, .inl rfl, congrArg (AV.ref 4 0) (by rw [hJs1, List.length_append]; rfl), .inl rfl, rfl, .inl rfl, trivial⟩⟩
    · obtain rfl : j = n := by omega
      conv => whnf
      repeat' ((first | contradiction | (refine And.intro (fun hb => ?_) (fun hb => ?_) <;> first | contradiction | ((try simp only [SB, reduceCtorEq] at hb); try (exfalso; first | contradiction | omega))) | refine G2 ?_ | rw [ints_at (by omega)] | rw [ints_at0 (by omega)] | rw [ints_at' (by omega) (by omega)] | refine G1 ?_ | fail) <;> conv => whnf)
      refine ⟨i + 1, hlt, by omega, [some 0, some 1, some 2], rfl, rfl, And.intro ⟨.inl rfl, .inl rfl, .inl rfl, .inl rfl, .inl rfl, trivial⟩ (And.intro ⟨.inl rfl, .inl rfl, .inl rfl, .inl rfl, trivial⟩ (And.intro ⟨rfl, congrArg edgeRows hJa⟩ trivial)), ⟨rfl, rfl, .inl rfl, .inl rfl, .inl rfl, congrArg (fun l : List EdgeD => AV.ref 2 0 l.length) hJa, .inl rfl, trivial⟩⟩
  · obtain rfl : i = g.edges.length := by omega
    conv => whnf
    repeat' ((first | contradiction | (refine And.intro (fun hb => ?_) (fun hb => ?_) <;> first | contradiction | ((try simp only [SB, reduceCtorEq] at hb); try (exfalso; first | contradiction | omega))) | refine G2 ?_ | rw [ints_at (by omega)] | rw [ints_at0 (by omega)] | rw [ints_at' (by omega) (by omega)] | refine G1 ?_ | refine ⟨_, _, hmk _ (args_cons rfl (args_cons rfl (args_cons rfl (args_cons (snap_all rfl (length_edgeRows _)) rfl)))), ?_⟩ | fail) <;> conv => whnf)
    refine ⟨.inl rfl, ?_⟩
    conv => whnf
    exact ⟨by simp, [some 3], ⟨rfl, And.intro ⟨rfl, rfl⟩ trivial⟩, ⟨⟨.inl rfl, .inl rfl, .inl rfl, rfl, trivial⟩, .inl rfl, trivial⟩, rfl, by simp [AObj.nov, edgeRows_nov]⟩
end Go.Proofs.Ythanhknkoikbfaa.Ct
namespace Go.Proofs.Ythanhknkoikbfaa.Ct
open Go Go.Proofs Go.Proofs.Ythanhknkoikbfaa.Av
def c_laws_big : ICode := (.seq (.reg [Ol 2 .mv [cb false]]) (.seq (.reg [O1 3 .mv 0, O1 4 .len 3, Ol 5 (.bin .gtr) [.t 4, ci 1048576], O1 2 .mv 5]) .ret))
theorem b_laws_big : Body Try.prog 35 6 c_laws_big [(.t 2)] := body_mk Try.func35 (by kernel_rfl) (by decide)
def RBig (xs : List AV) (r : AV) (objs : List AObj) : Prop := ∃ code : List UInt8, xs = [.val (code.map byteRow)] ∧ r = .bool (decide (1048576 < code.length)) ∧ objs = []
theorem RBig_mk {code : List UInt8} : RBig [.val (code.map byteRow)] (.bool (decide (1048576 < code.length))) [] := ⟨code, rfl, rfl, rfl⟩
theorem s_laws_big : PureSound Try.prog 35 RBig := by
  have hR : Rely Try.prog (ctxOf []) := rely_nil mixed
  refine pure_of_aw b_laws_big ?_
  rintro xs r objs ⟨code, rfl, rfl, rfl⟩ -
  have hbl : (code.map byteRow).length = code.length := by simp
  refine ⟨by simp, vc2_sound hR _ _ _ _ _ ?_⟩
  conv => whnf
  repeat' ((first | (refine And.intro (fun hb => ?_) (fun hb => ?_) <;> ((try simp only [SB, reduceCtorEq] at hb); try (exfalso; omega))) | refine G2 ?_ | rw [ints_at (by omega)] | rw [ints_at0 (by omega)] | rw [ints_at' (by omega) (by omega)] | refine G1 ?_ | fail) <;> conv => whnf)
  · refine ⟨.inl rfl, ?_⟩
    conv => whnf
    refine ⟨[], ⟨rfl, trivial⟩, ?_, rfl, rfl⟩
    conv => whnf
    left
    conv => lhs; whnf
    exact congrArg AV.bool (decide_eq_true (by omega)).symm
  · refine ⟨.inl rfl, ?_⟩
    conv => whnf
    refine ⟨[], ⟨rfl, trivial⟩, ?_, rfl, rfl⟩
    conv => whnf
    left
    conv => lhs; whnf
    exact congrArg AV.bool (decide_eq_false (by omega)).symm
def RTrueCode (xs : List AV) (r : AV) (objs : List AObj) : Prop := ∃ code : List UInt8, xs = [.val (code.map byteRow)] ∧ r = .bool true ∧ objs = []
end Go.Proofs.Ythanhknkoikbfaa.Ct
namespace Go.Proofs.Ythanhknkoikbfaa.Ct
open Go Go.Proofs Go.Proofs.Ythanhknkoikbfaa.Av Go.Proofs.Ythanhknkoikbfaa.Pl
def c_laws_FnDegen : ICode := (.seq (.reg [Ol 2 .mv [cb false]]) (.seq (.seq (.reg [O1 10 .mv 0, O1 11 (.call 35) 10]) (.cond (.t 11) (.seq (.reg [Ol 2 .mv [cb true]]) .ret) .skip)) (.seq (.reg [O1 13 .mv 0, O1 14 (.call 64) 13, O1 12 .mv 14, O1 15 (.ext 0) 12, O1 16 (.ext 1) 12, O0 3 (.alc [(.int .i64 0), (.int .i64 0), (.int .i64 0), (.int .i64 0), .snil]), O0 4 (.alc [.snil, .snil]), S2 (.st 5) 3 15, S2 (.st 2) 4 16]) (.seq (.reg [O1 17 (.ldn 5) 3, O1 18 (.ldn 2) 4, O2 19 (.call 65) 17 18, O1 5 .mv 19]) (.seq (.reg [O1 21 (.ldn 5) 3, O1 22 (.call 66) 21, O1 20 .mv 22, O1 23 (.ext 0) 20, O1 24 (.ext 1) 20, O0 6 (.alc [(.int .i64 0), (.int .i64 0), (.int .i64 0), .snil]), S2 (.st 4) 6 23, O1 7 .mv 24]) (.seq (.reg [O1 26 (.ldn 5) 3, O1 27 (.call 67) 26, O1 25 .mv 27, O1 28 (.ext 0) 25, O1 29 (.ext 1) 25, O0 8 (.alc [(.int .i64 0), (.int .i64 0), (.int .i64 0), .snil]), S2 (.st 4) 8 28, O1 9 .mv 29]) (.seq (.seq (.reg [O1 30 .mv 7, O1 31 .mv 9, O2 32 (.beq true) 30 31, O1 33 .mv 32, Og 34 .mv [.t 5] 33 false, Og 35 (.ldn 5) [.t 3] 33 false, Og 36 (.ldn 2) [.t 4] 33 false, Og 37 (.call 68) [.t 35, .t 36] 33 false, Og 38 (.beq true) [.t 34, .t 37] 33 false, Ol 39 .pick [.t 33, cb true, .t 38]]) (.cond (.t 39) (.seq (.reg [Ol 2 .mv [cb false]]) .ret) .skip)) (.seq (.seq (.reg [O1 40 .mv 7, O1 41 .not 40]) (.cond (.t 41) (.seq (.reg [O1 42 (.ldn 5) 3, O1 43 (.call 69) 42, O1 44 .not 43, O1 45 .mv 44, Og 46 (.fadr 1) [.t 3] 45 false, Og 47 .ld1 [.t 46] 45 false, Og 48 (.fadr 3) [.t 3] 45 false, Og 49 .ld1 [.t 48] 45 false, Og 50 (.bin .mul) [.t 47, .t 49] 45 false, Og 51 (.bin .gtr) [.t 50, ci 31] 45 false, Ol 52 .pick [.t 45, cb true, .t 51], O1 53 .mv 52, Og 54 (.fadr 4) [.t 3] 53 false, Og 55 .ld1 [.t 54] 53 false, Og 56 .len [.t 55] 53 false, Og 57 (.fadr 3) [.t 3] 53 false, Og 58 .ld1 [.t 57] 53 false, Og 59 (.bin .mul) [.t 56, .t 58] 53 false, Og 60 (.bin .gtr) [.t 59, ci 2000] 53 false, Ol 61 .pick [.t 53, cb true, .t 60], O1 2 .mv 61]) .ret) .skip)) (.seq (.reg [O1 62 (.ldn 4) 6, O1 63 (.ldn 2) 4, O2 64 (.call 39) 62 63, O1 65 .mv 5, O2 66 (.beq false) 64 65, O1 67 .mv 66, Og 68 (.ldn 4) [.t 6] 67 true, Og 69 (.call 70) [.t 68] 67 true, Ol 70 .pick [.t 67, .t 69, cb false], O1 2 .mv 70]) .ret)))))))))
theorem b_laws_FnDegen : Body Try.prog 12 71 c_laws_FnDegen [(.t 2)] := body_mk Try.func12 (by kernel_rfl) (by decide)
theorem RTakesG_b {xs : List AV} {g : GenD} {s l : List Int} {b : Bool} (hx : xs = [.agg (genRow g), wordV s l]) (h : b = true ↔ TakesG g s l) : RTakesG xs (.bool b) [] := ⟨g, s, l, b, hx, h, rfl, rfl⟩
set_option maxRecDepth 4000 in
set_option maxHeartbeats 16000000 in
theorem s_laws_FnDegen : PureSound Try.prog 12 RTrueCode := by
  have hR : Rely Try.prog (ctxOf [(35, .pure RBig), (64, .gen 0 GDrawGW), (65, .pure RTakesG), (66, .pure RDegen), (67, .pure RDegenS), (68, .pure RTakesG), (69, .pure RGenOk), (39, .pure RTakesA), (70, .pure RAutoOk)]) :=
    rely_cons b_laws_big.has s_laws_big (rely_cons b_spec_DrawGenTakes.has s_spec_DrawGenTakes (rely_cons b_impl_GenTakes.has s_impl_GenTakes (rely_cons b_impl_GenDegen.has s_impl_GenDegen (rely_cons b_spec_GenDegen.has s_spec_GenDegen (rely_cons b_spec_GenTakes.has s_spec_GenTakes (rely_cons b_spec_GenOk.has s_spec_GenOk (rely_cons b_impl_AutoTakes.has s_impl_AutoTakes (rely_cons b_impl_AutoOk.has s_impl_AutoOk (rely_nil mixed)))))))))
  refine pure_of_aw b_laws_FnDegen ?_
  rintro xs r objs ⟨code, rfl, rfl, rfl⟩ -
  refine ⟨by simp, vcS_sound hR [13] _ _ _ _ _ ?_⟩
  conv => whnf
  repeat' ((first | (refine And.intro (fun hb => ?_) (fun hb => ?_) <;> ((try simp only [SB, reduceCtorEq] at hb); try (exfalso; omega))) | refine G2 ?_ | rw [ints_at (by omega)] | rw [ints_at0 (by omega)] | rw [ints_at' (by omega) (by omega)] | refine G1 ?_ | refine ⟨_, _, RBig_mk, ?_⟩ | fail) <;> conv => whnf)
  · refine ⟨.inl rfl, ?_⟩
    conv => whnf
    refine ⟨[], ⟨rfl, trivial⟩, ?_, rfl, rfl⟩
    conv => whnf
    left
    conv => lhs; whnf
  have h2 : code.length ≤ 1048576 := by omega
  refine Rg.split hR 2 ?_
  conv => whnf
  repeat' ((first | (refine And.intro (fun hb => ?_) (fun hb => ?_) <;> ((try simp only [SB, reduceCtorEq] at hb); try (exfalso; omega))) | refine G2 ?_ | rw [ints_at (by omega)] | rw [ints_at0 (by omega)] | rw [ints_at' (by omega) (by omega)] | refine G1 ?_ | refine ⟨GDrawGW_mk h2 (fun g s l k1 k2 k3 => ?_)⟩ | fail) <;> conv => whnf)
  refine ⟨[], [(0, .val (code.map byteRow)), (2, .bool false), (14, .tup [.agg (genRow g), wordV s l])], [], ⟨rfl, rfl, trivial, ?_⟩, ?_⟩
  · exact ⟨.inl rfl, .inl rfl, And.intro (And.intro (.inl rfl) (And.intro (.inl rfl) (And.intro (.inl rfl) (And.intro (.inl rfl) (And.intro (.inr (snap_all rfl (length_gedgeRows _))) trivial))))) (And.intro (And.intro (.inr (snap_all rfl (length_ints _))) (And.intro (.inr (snap_all rfl (length_ints _))) trivial)) trivial), trivial⟩
  obtain ⟨b, hA⟩ : ∃ b : Bool, (b = true ↔ TakesG g s l) := by
    by_cases hT : TakesG g s l
    · exact ⟨true, fun _ => hT, fun _ => rfl⟩
    · exact ⟨false, fun h => (by cases h), fun h => absurd h hT⟩
  have hI : ∀ xs, xs = [.agg (genRow g)] → RDegen xs (makeR (degR g)) [.arr 4 (edgeRows (degR g).1.edges)] := fun xs h => RDegen_eq h
  have hS : ∀ xs, xs = [.agg (genRow g)] → RDegenS xs (makeR (degS g)) [.arr 4 (edgeRows (degS g).1.edges)] := fun xs h => RDegenS_eq h
  unfold degR at hI
  unfold degS at hS
  by_cases hD : DegOk g
  · rw [if_pos hD] at hI hS
    have hT := hA.trans (degD_takes hD (s := s) (l := l)).symm
    have hok : decide (AutoOk (degD g)) = true := decide_eq_true (degD_ok hD)
    have hMk := deg_make hD
    have hok2 : (makeD g.letters (g.states * ((setsN g : Nat) : Int)) ((stN (setsN g) (bitL g.start.toNat 31) : Nat) : Int) (degL g g.edges.length)).2 = true := by unfold makeD; rw [if_pos hMk]
    generalize makeD g.letters (g.states * ((setsN g : Nat) : Int)) ((stN (setsN g) (bitL g.start.toNat 31) : Nat) : Int) (degL g g.edges.length) = E at *
    obtain ⟨E, eb⟩ := E
    dsimp only at hok2
    subst hok2
    generalize degD g = D at *
    cases b
    all_goals
      conv => whnf
      repeat' ((first | contradiction | (refine And.intro (fun hb => ?_) (fun hb => ?_) <;> first | contradiction | ((try simp only [SB, reduceCtorEq] at hb); try (exfalso; first | contradiction | omega))) | refine G2 ?_ | rw [ints_at (by omega)] | rw [ints_at0 (by omega)] | rw [ints_at' (by omega) (by omega)] | refine G1 ?_ | refine ⟨_, _, RTakesG_b (g := g) rfl hA, ?_⟩ | refine ⟨_, _, hI _ rfl, ?_⟩ | refine ⟨_, _, hS _ rfl, ?_⟩ | refine ⟨_, _, RTakesA_b (args_cons (snap_auto (a := D) (id := 2) rfl) rfl) hT, ?_⟩ | refine ⟨_, _, RAutoOk_b (args_cons (snap_auto (a := D) (id := 2) rfl) rfl) hok, ?_⟩ | fail) <;> conv => whnf)
      refine ⟨.inl rfl, ?_⟩
      conv => whnf
      refine ⟨[], ⟨rfl, trivial⟩, ?_, rfl, rfl⟩
      conv => whnf
      left
      conv => lhs; whnf
  · rw [if_neg hD] at hI hS
    by_cases hg : GenOk g
    · have hg' : decide (GenOk g) = true := decide_eq_true hg
      have hst := hg.1.2.1
      have hse := hg.2.1
      have hel := hg.2.2.1
      have hgr := length_gedgeRows g.edges
      have h0 : 0 < g.sets := by
        refine Classical.byContradiction fun h => hD ⟨hg, ?_, ?_⟩
        · rw [show setsN g = 1 by unfold setsN; omega]; omega
        · rw [show setsN g = 1 by unfold setsN; omega]; omega
      have hsn : ((setsN g : Nat) : Int) = g.sets := by unfold setsN; omega
      have hbig : ¬ (g.states * g.sets ≤ 31 ∧ ((g.edges.length : Nat) : Int) * g.sets ≤ 2000) := fun h => hD ⟨hg, by rw [hsn]; exact h.1, by rw [hsn]; exact h.2⟩
      have p1 : 0 ≤ g.states * g.sets := Int.mul_nonneg hst.1 (by omega)
      have p2 : g.states * g.sets ≤ 31 * 4 := Int.mul_le_mul hst.2 (by omega) (by omega) (by omega)
      have p3 : 0 ≤ ((g.edges.length : Nat) : Int) * g.sets := Int.mul_nonneg (by omega) (by omega)
      have p4 : ((g.edges.length : Nat) : Int) * g.sets ≤ 2000 * 4 := Int.mul_le_mul (by omega) (by omega) (by omega) (by omega)
      cases b
      all_goals
        conv => whnf
        repeat' ((first | contradiction | (refine And.intro (fun hb => ?_) (fun hb => ?_) <;> first | contradiction | ((try simp only [SB, reduceCtorEq] at hb); try (exfalso; first | contradiction | omega))) | rw [hgr] | refine G2 ?_ | rw [ints_at (by omega)] | rw [ints_at0 (by omega)] | rw [ints_at' (by omega) (by omega)] | refine G1 ?_ | refine ⟨_, _, RTakesG_b (g := g) rfl hA, ?_⟩ | refine ⟨_, _, hI _ rfl, ?_⟩ | refine ⟨_, _, hS _ rfl, ?_⟩ | refine ⟨_, _, RGenOk_b rfl hg', ?_⟩ | fail) <;> conv => whnf)
        all_goals
          refine ⟨.inl rfl, ?_⟩
          conv => whnf
          refine ⟨[], ⟨rfl, trivial⟩, ?_, rfl, rfl⟩
          conv => whnf
          left
          conv => lhs; whnf
    · have hg' : decide (GenOk g) = false := decide_eq_false hg
      obtain rfl : b = false := Bool.eq_false_iff.2 fun h => hg (hA.1 h).1
      conv => whnf
      repeat' ((first | contradiction | (refine And.intro (fun hb => ?_) (fun hb => ?_) <;> first | contradiction | ((try simp only [SB, reduceCtorEq] at hb); try (exfalso; first | contradiction | omega))) | refine G2 ?_ | rw [ints_at (by omega)] | rw [ints_at0 (by omega)] | rw [ints_at' (by omega) (by omega)] | refine G1 ?_ | refine ⟨_, _, RTakesG_b (g := g) rfl hA, ?_⟩ | refine ⟨_, _, hI _ rfl, ?_⟩ | refine ⟨_, _, hS _ rfl, ?_⟩ | refine ⟨_, _, RGenOk_b rfl hg', ?_⟩ | fail) <;> conv => whnf)
      refine ⟨.inl rfl, ?_⟩
      conv => whnf
      refine ⟨[], ⟨rfl, trivial⟩, ?_, rfl, rfl⟩
      conv => whnf
      left
      conv => lhs; whnf
end Go.Proofs.Ythanhknkoikbfaa.Ct
