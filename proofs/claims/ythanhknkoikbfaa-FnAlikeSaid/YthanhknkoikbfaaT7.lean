/- Part 7 of the proof of FnAlikeSaid: CtMake to CtDrawB. Conditions: none. -/
import Derived.Test.YthanhknkoikbfaaT6
import Derived.Test.YthanhknkoikbfaaT1
import Derived.Test.YthanhknkoikbfaaT5
import Derived.Test.YthanhknkoikbfaaT4
set_option linter.unusedSimpArgs false
set_option linter.unusedVariables false
namespace Go.Proofs.Ythanhknkoikbfaa.Ct
open Go Go.Proofs Go.Proofs.Ythanhknkoikbfaa.Av
def c_spec_l1Max : ICode := (.seq (.reg [Ol 4 .mv [ci 0]]) (.seq (.seq (.reg [O1 5 .mv 0, O1 6 .mv 1, O2 7 (.bin .gtr) 5 6]) (.cond (.t 7) (.seq (.reg [O1 8 .mv 0, O1 4 .mv 8]) .ret) .skip)) (.seq (.reg [O1 9 .mv 1, O1 4 .mv 9]) .ret)))
theorem b_spec_l1Max : Body Try.prog 153 10 c_spec_l1Max [(.t 4)] := body_mk Try.func153 (by kernel_rfl) (by decide)
def c_spec_AutoMake : ICode := (.seq (.reg [O0 8 (.alc [(.int .i64 0), (.int .i64 0), (.int .i64 0), .snil]), Ol 9 .mv [cb false]]) (.seq (.reg [O1 17 .mv 0, O1 18 .mv 1, O1 19 .mv 2, O3 20 (.bld [(.int .i64 0), (.int .i64 0), (.int .i64 0), .snil] [(0, 1), (1, 1), (2, 1)]) 17 18 19, O0 10 (.alc [(.int .i64 0), (.int .i64 0), (.int .i64 0), .snil]), S2 (.st 4) 10 20]) (.seq (.seq (.reg [O1 21 (.ldn 4) 10, O1 22 (.call 38) 21, O1 23 .not 22, O1 24 .mv 23, Og 25 .mv [.t 3] 24 false, Og 26 .len [.t 25] 24 false, Og 27 (.bin .gtr) [.t 26, ci 2000] 24 false, Ol 28 .pick [.t 24, cb true, .t 27]]) (.cond (.t 28) (.seq (.reg [O0 29 (.bld [(.int .i64 0), (.int .i64 0), (.int .i64 0), .snil] []), S2 (.st 4) 8 29, Ol 9 .mv [cb false]]) .ret) .skip)) (.seq (.reg [O1 30 .mv 1, O1 31 .mv 0, O2 32 (.bin .mul) 30 31, O1 33 .mv 1, O2 34 (.bin .mul) 32 33, O2 35 (.mks 1 8 [(.int .i64 0)]) 34 34, O1 11 .mv 35]) (.seq (.seq (.reg [Ol 12 .mv [ci 0]]) (.block 0 (.loop (.seq (.seq (.reg [O1 36 .mv 12, O1 37 .mv 3, O1 38 .len 37, O2 39 (.bin .lss) 36 38]) (.cond (.t 39) .skip (.exit 0))) (.seq (.block 1 (.seq (.reg [O1 42 .mv 3, O1 43 .mv 12, O2 44 (.iadr 4) 42 43, O1 45 (.ldn 4) 44, O0 13 (.alc [(.int .i64 0), (.int .i64 0), (.int .i64 0), (.bool false)]), S2 (.st 4) 13 45]) (.seq (.seq (.reg [O1 46 (.fadr 0) 13, O1 47 .ld1 46, O1 48 .mv 1, O2 49 (.call 116) 47 48, O1 50 .not 49, O1 51 .mv 50, Og 52 (.fadr 2) [.t 13] 51 false, Og 53 .ld1 [.t 52] 51 false, Og 54 .mv [.t 1] 51 false, Og 55 (.call 116) [.t 53, .t 54] 51 false, Og 56 .not [.t 55] 51 false, Ol 57 .pick [.t 51, cb true, .t 56], O1 58 .mv 57, Og 59 (.fadr 1) [.t 13] 58 false, Og 60 .ld1 [.t 59] 58 false, Og 61 .mv [.t 0] 58 false, Og 62 (.bin .sub) [.t 61, ci 1] 58 false, Og 63 (.call 114) [.t 60, ci 0, .t 62] 58 false, Og 64 .not [.t 63] 58 false, Ol 65 .pick [.t 58, cb true, .t 64]]) (.cond (.t 65) (.seq (.reg [O0 66 (.bld [(.int .i64 0), (.int .i64 0), (.int .i64 0), .snil] []), S2 (.st 4) 8 66, Ol 9 .mv [cb false]]) .ret) .skip)) (.seq (.reg [O1 67 (.fadr 0) 13, O1 68 .ld1 67, O1 69 .mv 0, O2 70 (.bin .mul) 68 69, O1 71 (.fadr 1) 13, O1 72 .ld1 71, O2 73 (.bin .add) 70 72, O1 74 .mv 1, O2 75 (.bin .mul) 73 74, O1 76 (.fadr 2) 13, O1 77 .ld1 76, O2 78 (.bin .add) 75 77, O1 14 .mv 78]) (.seq (.reg [Ol 15 .mv [ci 1]]) (.seq (.seq (.reg [O1 79 (.fadr 3) 13, O1 80 .ld1 79]) (.cond (.t 80) (.reg [Ol 15 .mv [ci 2]]) .skip)) (.reg [O1 81 .mv 11, O1 82 .mv 14, O1 83 .mv 11, O1 84 .mv 14, O2 85 (.iadr 1) 83 84, O1 86 .ld1 85, O1 87 .mv 15, O2 88 (.call 153) 86 87, O2 89 (.iadr 1) 81 82, S2 (.st 1) 89 88]))))))) (.reg [O1 40 .mv 12, Ol 41 (.bin .add) [.t 40, ci 1], O1 12 .mv 41])))))) (.seq (.seq (.reg [Ol 16 .mv [ci 0]]) (.block 2 (.loop (.seq (.seq (.reg [O1 90 .mv 16, O1 91 .mv 11, O1 92 .len 91, O2 93 (.bin .lss) 90 92]) (.cond (.t 93) .skip (.exit 2))) (.seq (.block 3 (.seq (.reg [O1 96 .mv 11, O1 97 .mv 16, O2 98 (.iadr 1) 96 97, O1 99 .ld1 98, Ol 100 (.bin .gtr) [.t 99, ci 0]]) (.cond (.t 100) (.drw [O1 101 (.fadr 3) 10, O1 102 .ld1 101, O1 103 .mv 16, O1 104 .mv 1, O2 105 (.bin .quo) 103 104, O1 106 .mv 0, O2 107 (.bin .quo) 105 106, O1 108 .mv 16, O1 109 .mv 1, O2 110 (.bin .quo) 108 109, O1 111 .mv 0, O2 112 (.bin .rem) 110 111, O1 113 .mv 16, O1 114 .mv 1, O2 115 (.bin .rem) 113 114, O1 116 .mv 11, O1 117 .mv 16, O2 118 (.iadr 1) 116 117, O1 119 .ld1 118, Ol 120 (.bin .eql) [.t 119, ci 2], Ol 121 (.bld [(.int .i64 0), (.int .i64 0), (.int .i64 0), (.bool false)] [(0, 1), (1, 1), (2, 1), (3, 1)]) [.t 107, .t 112, .t 115, .t 120], O1 122 (.bslv 4) 121, O2 123 (.app 4 32) 102 122, O1 124 (.fadr 3) 10, S2 (.st 1) 124 123] (unB [0, 1, 0, 0, 12, 0, 60, 0, 0, 384, 0, 1920, 0, 0, 12288, 0, 0, 98304, 229376, 491520, 1048572, 2097148, 4194303, 8388607, 16777215] 0) true true) .skip))) (.reg [O1 94 .mv 16, Ol 95 (.bin .add) [.t 94, ci 1], O1 16 .mv 95])))))) (.seq (.reg [O1 125 (.ldn 4) 10, S2 (.st 4) 8 125, Ol 9 .mv [cb true]]) .ret)))))))
theorem b_spec_AutoMake : Body Try.prog 154 126 c_spec_AutoMake [(.cn 8 4), (.t 9)] := body_mk Try.func154 (by kernel_rfl) (by decide)
def RMax (xs : List AV) (r : AV) (objs : List AObj) : Prop := ∃ a b, xs = [.int .i64 a, .int .i64 b] ∧ r = .int .i64 (if a > b then a else b) ∧ objs = []
theorem RMax_mk {a b : Int} : RMax [.int .i64 a, .int .i64 b] (.int .i64 (if a > b then a else b)) [] := ⟨a, b, rfl, rfl, rfl⟩
theorem s_spec_l1Max : PureSound Try.prog 153 RMax := by
  have hR : Rely Try.prog (ctxOf []) := rely_nil mixed
  refine pure_of_aw b_spec_l1Max ?_
  rintro xs r objs ⟨a, b, rfl, rfl, rfl⟩ -
  refine ⟨by simp, vc2_sound hR _ _ _ _ _ ?_⟩
  conv => whnf
  repeat' ((first | contradiction | (refine And.intro (fun hb => ?_) (fun hb => ?_) <;> first | contradiction | ((try simp only [SB, reduceCtorEq] at hb); try (exfalso; first | contradiction | omega))) | refine G2 ?_ | rw [ints_at (by omega)] | rw [ints_at0 (by omega)] | rw [ints_at' (by omega) (by omega)] | refine G1 ?_ | fail) <;> conv => whnf)
  all_goals
    refine ⟨.inl rfl, ?_⟩
    conv => whnf
    refine ⟨[], ⟨rfl, trivial⟩, ?_, rfl, rfl⟩
    conv => whnf
    left
    conv => lhs; whnf
    exact congrArg (AV.int .i64) (by split <;> omega)
def EdgeH (l n : Int) (e : EdgeD) : Prop := (0 ≤ e.src ∧ e.src ≤ n - 1) ∧ (0 ≤ e.dst ∧ e.dst ≤ n - 1) ∧ (0 ≤ e.letter ∧ e.letter ≤ l - 1)
instance (l n : Int) (e : EdgeD) : Decidable (EdgeH l n e) := by unfold EdgeH; infer_instance
def MakeOk (l n st : Int) (es : List EdgeD) : Prop := HeadOk l n st ∧ es.length ≤ 2000 ∧ ∀ i, i < es.length → EdgeH l n (es.getD i default)
def zeroAuto : AutoD := ⟨0, 0, 0, []⟩
open Classical in
noncomputable def makeD (l n st : Int) (es : List EdgeD) : AutoD × Bool := if MakeOk l n st es then (⟨l, n, st, mkAll l.toNat n.toNat es⟩, true) else (zeroAuto, false)
def makeR (d : AutoD × Bool) : AV := .tup [.agg (autoRef 0 d.1), .bool d.2]
def RMake (xs : List AV) (r : AV) (objs : List AObj) : Prop := ∃ l n st es, xs = [.int .i64 l, .int .i64 n, .int .i64 st, .val (edgeRows es)] ∧ es.length ≤ 1048576 ∧ r = makeR (makeD l n st es) ∧ objs = [.arr 4 (edgeRows (makeD l n st es).1.edges)]
def marksL (l n : Nat) (es : List EdgeD) : List Int := (List.range (n * l * n)).map fun j => ((markN l n es j : Nat) : Int)
@[simp] theorem length_marksL (l n : Nat) (es : List EdgeD) : (marksL l n es).length = n * l * n := by simp [marksL]
theorem marksL_at {l n : Nat} {es : List EdgeD} {j : Nat} (h : j < n * l * n) : (marksL l n es).getD j 0 = ((markN l n es j : Nat) : Int) := by simp [marksL, List.getD_eq_getElem?_getD, h]
theorem marksL_nil (l n : Nat) : marksL l n [] = List.replicate (n * l * n) 0 := by
  unfold marksL
  have : (fun j => ((markN l n [] j : Nat) : Int)) = fun _ => 0 := by funext j; simp [markN]
  rw [this, List.map_const', List.length_range]
theorem markN_snoc {l n : Nat} {es : List EdgeD} {e : EdgeD} {j : Nat} : markN l n (es ++ [e]) j = if ixE l n e = j then Nat.max (markN l n es j) (if e.mark = true then 2 else 1) else markN l n es j := by
  unfold markN
  simp only [List.any_append, List.any_cons, List.any_nil, Bool.or_false, Bool.or_eq_true]
  by_cases h : ixE l n e = j
  · simp only [h, beq_self_eq_true, Bool.true_and, if_true]
    cases e.mark <;> simp <;> split <;> simp_all
    all_goals (try split) <;> decide
  · simp [h]
theorem marks_step {l n : Nat} {es : List EdgeD} {e : EdgeD} {x : Int} (hx : x = (((if (markN l n es (ixE l n e) : Int) > (if e.mark = true then 2 else 1) then (markN l n es (ixE l n e) : Int) else (if e.mark = true then 2 else 1) : Int)))) (h : ixE l n e < n * l * n) :
    (marksL l n es).set (ixE l n e) x = marksL l n (es ++ [e]) := by
  refine List.ext_getElem? fun j => ?_
  rw [List.getElem?_set]
  by_cases hj : ixE l n e = j
  · subst hj
    rw [if_pos rfl, length_marksL, if_pos h]
    simp only [marksL, List.getElem?_map, List.getElem?_range h, Option.map_some, markN_snoc, if_true]
    rw [hx]
    congr 1
    show _ = ((max (markN l n es (ixE l n e)) (if e.mark = true then 2 else 1) : Nat) : Int)
    cases e.mark <;> simp <;> omega
  · rw [if_neg hj]
    by_cases hl : j < n * l * n
    · simp only [marksL, List.getElem?_map, List.getElem?_range hl, Option.map_some, markN_snoc, if_neg hj]
    · simp [marksL, hl]
theorem ints_setM {xs : List Int} {j : Nat} {v : Int} : (ints xs).set j [.int .i64 v] = ints (xs.set j v) := by simp [ints, List.map_set]
theorem cell_le {l n : Nat} {es : List EdgeD} {i : Nat} : (cellE l n es i).length ≤ 1 := by unfold cellE; split <;> simp
theorem mkEs_le {l n : Nat} {es : List EdgeD} : ∀ k, (mkEs l n es k).length ≤ k
  | 0 => by simp [mkEs]
  | k + 1 => by
    have := mkEs_le (l := l) (n := n) (es := es) k
    have := cell_le (l := l) (n := n) (es := es) (i := k)
    rw [mkEs_succ, List.length_append]; omega
theorem make_app {M : List EdgeD} {l n k : Nat} {b : Bool} : List.take M.length (edgeRows M) ++ [[.int .i64 ((k / n / l : Nat) : Int), .int .i64 ((k / n % l : Nat) : Int), .int .i64 ((k % n : Nat) : Int), .bool b]] = edgeRows (M ++ [ofIx l n k b]) := by
  rw [List.take_of_length_le (by rw [length_edgeRows]; exact Nat.le_refl _)]
  simp [edgeRows, edgeRow, ofIx]
theorem take_succ_E {es : List EdgeD} {i : Nat} (h : i < es.length) : es.take i ++ [es.getD i default] = es.take (i + 1) := by
  rw [List.take_add_one, List.getElem?_eq_getElem h, List.getD_eq_getElem?_getD, List.getElem?_eq_getElem h]; rfl
theorem ixE_int {l n : Int} {e : EdgeD} (hl : 0 ≤ l) (hn : 0 ≤ n) (h : EdgeH l n e) : (e.src * l + e.letter) * n + e.dst = ((ixE l.toNat n.toNat e : Nat) : Int) := by
  unfold EdgeH at h
  unfold ixE
  rw [Int.natCast_add, Int.natCast_mul, Int.natCast_add, Int.natCast_mul, Int.toNat_of_nonneg hl, Int.toNat_of_nonneg hn, Int.toNat_of_nonneg h.1.1, Int.toNat_of_nonneg h.2.2.1, Int.toNat_of_nonneg h.2.1.1]
theorem head_auto {l n st : Int} : AutoOk ⟨l, n, st, []⟩ ↔ HeadOk l n st := ⟨fun h => h.1, fun h => ⟨h, by simp, fun i hi => by simp at hi⟩⟩
theorem RAutoOk_H {xs : List AV} {l n st : Int} {b : Bool} (hx : xs = [.agg (autoRow ⟨l, n, st, []⟩)]) (h : decide (HeadOk l n st) = b) : RAutoOk xs (.bool b) [] := ⟨_, hx, by subst h; exact congrArg AV.bool (by simp only [head_auto]), rfl⟩
set_option maxHeartbeats 4000000 in
theorem s_spec_AutoMake : PureSound Try.prog 154 RMake := by
  have hR : Rely Try.prog (ctxOf [(38, .pure RAutoOk), (116, .pure RState), (114, .pure RIn), (153, .pure RMax)]) :=
    rely_cons b_spec_AutoOk.has s_spec_AutoOk (rely_cons b_spec_l4State.has s_spec_l4State (rely_cons b_spec_l1In.has s_spec_l1In (rely_cons b_spec_l1Max.has s_spec_l1Max (rely_nil mixed))))
  refine pure_of_aw b_spec_AutoMake ?_
  rintro xs r objs ⟨l, n, st, es, rfl, hel, rfl, rfl⟩ -
  have hle := length_edgeRows es
  refine ⟨by simp, vc2_sound hR _ _ _ _ _ ?_⟩
  by_cases hh : HeadOk l n st
  rotate_left
  · have hh' : decide (HeadOk l n st) = false := decide_eq_false hh
    rw [show makeD l n st es = (zeroAuto, false) from if_neg (fun h => hh h.1)]
    conv => whnf
    repeat' ((first | contradiction | (refine And.intro (fun hb => ?_) (fun hb => ?_) <;> first | contradiction | ((try simp only [SB, reduceCtorEq] at hb); try (exfalso; first | contradiction | omega))) | refine G2 ?_ | rw [ints_at (by omega)] | rw [ints_at0 (by omega)] | rw [ints_at' (by omega) (by omega)] | refine G1 ?_ | refine ⟨_, _, RAutoOk_H rfl hh', ?_⟩ | fail) <;> conv => whnf)
    refine ⟨.inl rfl, ?_⟩
    conv => whnf
    exact ⟨Nat.le_refl 4, [none], ⟨rfl, And.intro rfl trivial⟩, ⟨⟨.inl rfl, .inl rfl, .inl rfl, ⟨rfl, rfl, rfl⟩, trivial⟩, .inl rfl, trivial⟩, rfl, rfl⟩
  have hh' : decide (HeadOk l n st) = true := decide_eq_true hh
  have hH := hh
  obtain ⟨hl, hn, hs⟩ := hh
  have p1 : 0 ≤ n * l ∧ n * l ≤ 31 * 8 := ⟨Int.mul_nonneg (by omega) (by omega), Int.mul_le_mul (by omega) (by omega) (by omega) (by omega)⟩
  have p2 : 0 ≤ n * l * n ∧ n * l * n ≤ 31 * 8 * 31 := ⟨Int.mul_nonneg (by omega) (by omega), Int.mul_le_mul (by omega) (by omega) (by omega) (by omega)⟩
  have p3 : n * l * n = ((n.toNat * l.toNat * n.toNat : Nat) : Int) := by rw [Int.natCast_mul, Int.natCast_mul, Int.toNat_of_nonneg (by omega), Int.toNat_of_nonneg (by omega)]
  conv => whnf
  repeat' ((first | contradiction | (refine And.intro (fun hb => ?_) (fun hb => ?_) <;> first | contradiction | ((try simp only [SB, reduceCtorEq] at hb); try (exfalso; first | contradiction | omega))) | refine G2 ?_ | rw [ints_at (by omega)] | rw [ints_at0 (by omega)] | rw [ints_at' (by omega) (by omega)] | refine G1 ?_ | refine ⟨_, _, RAutoOk_H rfl hh', ?_⟩ | fail) <;> conv => whnf)
  · rw [show makeD l n st es = (zeroAuto, false) from if_neg (fun h => by have := h.2.1; omega)]
    refine ⟨.inl rfl, ?_⟩
    conv => whnf
    exact ⟨Nat.le_refl 4, [none], ⟨rfl, And.intro rfl trivial⟩, ⟨⟨.inl rfl, .inl rfl, .inl rfl, ⟨rfl, rfl, rfl⟩, trivial⟩, .inl rfl, trivial⟩, rfl, rfl⟩
  have he2 : es.length ≤ 2000 := by omega
  refine Lp.intro (α := Nat) (fun i => i ≤ es.length ∧ ∀ j, j < i → EdgeH l n (es.getD j default)) (fun i => es.length - i) (fun i => [(0, .int .i64 l), (1, .int .i64 n), (3, .val (edgeRows es)), (8, .ptr 0 0 0), (9, .bool false), (10, .ptr 1 0 0), (11, .ref 2 0 (n.toNat * l.toNat * n.toNat)), (12, .int .i64 i)])
    (fun i => [some (.box [.int .i64 0, .int .i64 0, .int .i64 0, .snil]), some (.box [.int .i64 l, .int .i64 n, .int .i64 st, .snil]), some (.arr 1 (ints (marksL l.toNat n.toNat (es.take i))))]) ?_ ?_
  · refine ⟨0, ⟨Nat.zero_le _, fun j hj => by omega⟩, [some 0, some 1, some 2], rfl, rfl, And.intro ⟨.inl rfl, .inl rfl, .inl rfl, .inl rfl, trivial⟩ (And.intro ⟨.inl rfl, .inl rfl, .inl rfl, .inl rfl, trivial⟩ (And.intro ⟨rfl, ?_⟩ trivial)), ?_⟩
    · show List.replicate (n * l * n).toNat [AV.int .i64 0] = _
      rw [List.take_zero, marksL_nil, p3, Int.toNat_natCast]
      simp [ints]
    · repeat' (first
        | exact trivial
        | refine ⟨?_, ?_⟩
        | fail)
      all_goals first
        | with_reducible rfl
        | (conv => whnf
           try left
           conv => lhs; whnf
           first
             | rfl
             | exact congrArg (AV.int .i64) (by omega)
             | skip)
      rw [p3, Int.toNat_natCast]
  intro i hi
  obtain ⟨hi, hpre⟩ := hi
  have hml := length_ints (marksL l.toNat n.toNat (es.take i))
  rw [length_marksL] at hml
  refine vc2_sound hR _ _ _ _ _ ?_
  by_cases hlt : i < es.length
  · have hat := edge_at hlt
    have hts := take_succ_E hlt
    by_cases hE : EdgeH l n (es.getD i default)
    · have hix := ixE_int (by omega) (by omega) hE
      have hlt2 : ixE l.toNat n.toNat (es.getD i default) < n.toNat * l.toNat * n.toNat := ixE_lt (by unfold EdgeH at hE; omega) (by unfold EdgeH at hE; omega) (by unfold EdgeH at hE; omega)
      have hpre' : ∀ j, j < i + 1 → EdgeH l n (es.getD j default) := fun j hj => by
        rcases Nat.lt_or_ge j i with g | g
        · exact hpre j g
        · obtain rfl : j = i := by omega
          exact hE
      have hst := fun x => marks_step (l := l.toNat) (n := n.toNat) (es := es.take i) (e := es.getD i default) (x := x)
      have hma := marksL_at (es := es.take i) hlt2
      have q1 : 0 ≤ (es.getD i default).src * l ∧ (es.getD i default).src * l ≤ 31 * 8 := ⟨Int.mul_nonneg hE.1.1 (by omega), Int.mul_le_mul (by have := hE.1.2; omega) (by omega) (by omega) (by omega)⟩
      have q2 : 0 ≤ ((es.getD i default).src * l + (es.getD i default).letter) * n ∧ ((es.getD i default).src * l + (es.getD i default).letter) * n ≤ 256 * 31 := ⟨Int.mul_nonneg (by have := hE.2.2.1; omega) (by omega), Int.mul_le_mul (by have := hE.2.2.2; omega) (by omega) (by omega) (by omega)⟩
      rw [hts] at hst
      generalize es.getD i default = e at *
      unfold EdgeH at hE
      generalize hk : ixE l.toNat n.toNat e = k at *
      obtain ⟨e1, e2, e3, e4⟩ := e
      dsimp only at *
      have hcell : (ints (marksL l.toNat n.toNat (es.take i)))[0 + ((e1 * l + e2) * n + e3).toNat]? = some [.int .i64 (markN l.toNat n.toNat (es.take i) k)] := by
        rw [hix, ints_at0 (by rw [length_marksL]; exact hlt2), hma]
      have hat' : (edgeRows es)[((i : Nat) : Int).toNat]? = some [.int .i64 e1, .int .i64 e2, .int .i64 e3, .bool e4] := hat
      clear hat
      cases e4
      all_goals
        conv => whnf
        repeat' ((first | contradiction | (refine And.intro (fun hb => ?_) (fun hb => ?_) <;> first | contradiction | ((try simp only [SB, reduceCtorEq] at hb); try (exfalso; first | contradiction | omega))) | rw [hat'] | rw [hcell] | refine G2 ?_ | rw [ints_at (by omega)] | rw [ints_at0 (by omega)] | rw [ints_at' (by omega) (by omega)] | refine G1 ?_ | refine ⟨_, _, RState_mk (by omega) (by omega), ?_⟩ | refine ⟨_, _, RIn_mk, ?_⟩ | refine ⟨_, _, RMax_mk, ?_⟩ | fail) <;> conv => whnf)
        refine ⟨i + 1, ⟨hlt, hpre'⟩, by omega, [some 0, some 1, some 2], rfl, rfl, And.intro ⟨.inl rfl, .inl rfl, .inl rfl, .inl rfl, trivial⟩ (And.intro ⟨.inl rfl, .inl rfl, .inl rfl, .inl rfl, trivial⟩ (And.intro ⟨rfl, ?_⟩ trivial)), ?_⟩
        · refine Eq.trans ?_ (congrArg ints (hst _ rfl hlt2))
          rw [← ints_setM]
          show List.set _ (0 + ((e1 * l + e2) * n + e3).toNat) _ = _
          rw [hix, Nat.zero_add, Int.toNat_natCast]
          rfl
        · repeat' (first
            | exact trivial
            | refine ⟨?_, ?_⟩
            | fail)
          all_goals first
            | with_reducible rfl
            | (conv => whnf
               try left
               conv => lhs; whnf
               first
                 | rfl
                 | exact congrArg (AV.int .i64) (by omega)
                 | skip)
    · rw [show makeD l n st es = (zeroAuto, false) from if_neg (fun h => hE (h.2.2 i hlt))]
      generalize es.getD i default = e at *
      unfold EdgeH at hE
      conv => whnf
      repeat' ((first | contradiction | (refine And.intro (fun hb => ?_) (fun hb => ?_) <;> first | contradiction | ((try simp only [SB, reduceCtorEq] at hb); try (exfalso; first | contradiction | omega))) | rw [hat] | refine G2 ?_ | rw [ints_at (by omega)] | rw [ints_at0 (by omega)] | rw [ints_at' (by omega) (by omega)] | refine G1 ?_ | refine ⟨_, _, RState_mk (by omega) (by omega), ?_⟩ | refine ⟨_, _, RIn_mk, ?_⟩ | fail) <;> conv => whnf)
      all_goals
        refine ⟨.inl rfl, ?_⟩
        conv => whnf
        exact ⟨Nat.le_refl 4, [none], ⟨rfl, And.intro rfl trivial⟩, ⟨⟨.inl rfl, .inl rfl, .inl rfl, ⟨rfl, rfl, rfl⟩, trivial⟩, .inl rfl, trivial⟩, rfl, rfl⟩
  · obtain rfl : i = es.length := by omega
    rw [show makeD l n st es = (⟨l, n, st, mkAll l.toNat n.toNat es⟩, true) from if_pos ⟨hH, he2, hpre⟩]
    rw [List.take_length] at *
    conv => whnf
    repeat' ((first | contradiction | (refine And.intro (fun hb => ?_) (fun hb => ?_) <;> first | contradiction | ((try simp only [SB, reduceCtorEq] at hb); try (exfalso; first | contradiction | omega))) | refine G2 ?_ | rw [ints_at (by omega)] | rw [ints_at0 (by omega)] | rw [ints_at' (by omega) (by omega)] | refine G1 ?_ | fail) <;> conv => whnf)
    refine Lp.intro (α := Nat) (fun k => k ≤ n.toNat * l.toNat * n.toNat) (fun k => n.toNat * l.toNat * n.toNat - k) (fun k => [(0, .int .i64 l), (1, .int .i64 n), (8, .ptr 0 0 0), (9, .bool false), (10, .ptr 1 0 0), (11, .ref 2 0 (n.toNat * l.toNat * n.toNat)), (16, .int .i64 k)])
      (fun k => [some (.box [.int .i64 0, .int .i64 0, .int .i64 0, .snil]), some (.box [.int .i64 l, .int .i64 n, .int .i64 st, .ref 3 0 (mkEs l.toNat n.toNat es k).length]), some (.arr 1 (ints (marksL l.toNat n.toNat es))), some (.arr 4 (edgeRows (mkEs l.toNat n.toNat es k)))]) ?_ ?_
    · refine ⟨0, Nat.zero_le _, [some 0, some 1, some 2, none], rfl, rfl, And.intro ⟨.inl rfl, .inl rfl, .inl rfl, .inl rfl, trivial⟩ (And.intro ⟨.inl rfl, .inl rfl, .inl rfl, ⟨rfl, rfl, rfl⟩, trivial⟩ (And.intro ⟨rfl, rfl⟩ (And.intro rfl trivial))), ?_⟩
      repeat' (first
        | exact trivial
        | refine ⟨?_, ?_⟩
        | fail)
      all_goals first
        | with_reducible rfl
        | (conv => whnf
           try left
           conv => lhs; whnf
           first
             | rfl
             | exact congrArg (AV.int .i64) (by omega)
             | skip)
    intro k hk
    have hml := length_ints (marksL l.toNat n.toNat es)
    rw [length_marksL] at hml
    refine vc2_sound hR _ _ _ _ _ ?_
    by_cases hlt : k < n.toNat * l.toNat * n.toNat
    · have hma := marksL_at (es := es) hlt
      have hcell : (ints (marksL l.toNat n.toNat es))[0 + ((k : Nat) : Int).toNat]? = some [.int .i64 (markN l.toNat n.toNat es k)] := by
        rw [ints_at0 (by rw [length_marksL]; exact hlt), hma]
      by_cases h0 : 0 < markN l.toNat n.toNat es k
      · have hn0 : n ≠ 0 := by
          intro h
          rw [h] at hlt
          simp at hlt
        have hl0 : l ≠ 0 := by omega
        have hkn : k / n.toNat ≤ 100000000 := by have := Nat.div_le_self k n.toNat; omega
        have hml := mkEs_le (l := l.toNat) (n := n.toNat) (es := es) k
        have hmr := length_edgeRows (mkEs l.toNat n.toNat es k)
        conv => whnf
        repeat' ((first | contradiction | (refine And.intro (fun hb => ?_) (fun hb => ?_) <;> first | contradiction | ((try simp only [SB, reduceCtorEq] at hb); try (exfalso; first | contradiction | omega))) | rw [hcell] | rw [quo_nat (by omega) (by omega)] | rw [rem_nat (by omega)] | refine G2 ?_ | rw [ints_at (by omega)] | rw [ints_at0 (by omega)] | rw [ints_at' (by omega) (by omega)] | refine G1 ?_ | refine And.intro hn0 ?_ | refine And.intro hl0 ?_ | refine ⟨_, rfl, ?_⟩ | fail) <;> conv => whnf)
        · have hm2 : (markN l.toNat n.toNat es k == 2) = true := by
            simp only [beq_iff_eq, beq_eq_false_iff_ne]; omega
          have hc : cellE l.toNat n.toNat es k = [ofIx l.toNat n.toNat k true] := by unfold cellE; rw [if_pos h0, hm2]
          refine ⟨k + 1, by omega, by omega, [some 0, some 1, some 2, some 4], rfl, rfl, And.intro ⟨.inl rfl, .inl rfl, .inl rfl, .inl rfl, trivial⟩ (And.intro ⟨.inl rfl, .inl rfl, .inl rfl, ?_, trivial⟩ (And.intro ⟨rfl, rfl⟩ (And.intro ⟨rfl, ?_⟩ trivial))), ?_⟩
          · rw [mkEs_succ, hc, List.length_append]; exact rfl
          · rw [mkEs_succ, hc]
            exact make_app
          · repeat' (first
              | exact trivial
              | refine ⟨?_, ?_⟩
              | fail)
            all_goals first
              | with_reducible rfl
              | (conv => whnf
                 try left
                 conv => lhs; whnf
                 first
                   | rfl
                   | exact congrArg (AV.int .i64) (by omega)
                   | skip)
        · have hm2 : (markN l.toNat n.toNat es k == 2) = false := by
            simp only [beq_iff_eq, beq_eq_false_iff_ne]; omega
          have hc : cellE l.toNat n.toNat es k = [ofIx l.toNat n.toNat k false] := by unfold cellE; rw [if_pos h0, hm2]
          refine ⟨k + 1, by omega, by omega, [some 0, some 1, some 2, some 4], rfl, rfl, And.intro ⟨.inl rfl, .inl rfl, .inl rfl, .inl rfl, trivial⟩ (And.intro ⟨.inl rfl, .inl rfl, .inl rfl, ?_, trivial⟩ (And.intro ⟨rfl, rfl⟩ (And.intro ⟨rfl, ?_⟩ trivial))), ?_⟩
          · rw [mkEs_succ, hc, List.length_append]; exact rfl
          · rw [mkEs_succ, hc]
            exact make_app
          · repeat' (first
              | exact trivial
              | refine ⟨?_, ?_⟩
              | fail)
            all_goals first
              | with_reducible rfl
              | (conv => whnf
                 try left
                 conv => lhs; whnf
                 first
                   | rfl
                   | exact congrArg (AV.int .i64) (by omega)
                   | skip)
      · conv => whnf
        repeat' ((first | contradiction | (refine And.intro (fun hb => ?_) (fun hb => ?_) <;> first | contradiction | ((try simp only [SB, reduceCtorEq] at hb); try (exfalso; first | contradiction | omega))) | rw [hcell] | refine G2 ?_ | rw [ints_at (by omega)] | rw [ints_at0 (by omega)] | rw [ints_at' (by omega) (by omega)] | refine G1 ?_ | fail) <;> conv => whnf)
        have hc : cellE l.toNat n.toNat es k = [] := if_neg h0
        refine ⟨k + 1, by omega, by omega, [some 0, some 1, some 2, some 3], rfl, rfl, And.intro ⟨.inl rfl, .inl rfl, .inl rfl, .inl rfl, trivial⟩ (And.intro ⟨.inl rfl, .inl rfl, .inl rfl, ?_, trivial⟩ (And.intro ⟨rfl, rfl⟩ (And.intro ⟨rfl, ?_⟩ trivial))), ?_⟩
        · rw [mkEs_succ, hc, List.append_nil]; exact rfl
        · rw [mkEs_succ, hc, List.append_nil]
        · repeat' (first
            | exact trivial
            | refine ⟨?_, ?_⟩
            | fail)
          all_goals first
            | with_reducible rfl
            | (conv => whnf
               try left
               conv => lhs; whnf
               first
                 | rfl
                 | exact congrArg (AV.int .i64) (by omega)
                 | skip)
    · obtain rfl : k = n.toNat * l.toNat * n.toNat := by omega
      conv => whnf
      repeat' ((first | contradiction | (refine And.intro (fun hb => ?_) (fun hb => ?_) <;> first | contradiction | ((try simp only [SB, reduceCtorEq] at hb); try (exfalso; first | contradiction | omega))) | refine G2 ?_ | rw [ints_at (by omega)] | rw [ints_at0 (by omega)] | rw [ints_at' (by omega) (by omega)] | refine G1 ?_ | fail) <;> conv => whnf)
      refine ⟨.inl rfl, ?_⟩
      conv => whnf
      exact ⟨Nat.le_refl 4, [some 3], ⟨rfl, And.intro ⟨rfl, rfl⟩ trivial⟩, ⟨⟨.inl rfl, .inl rfl, .inl rfl, rfl, trivial⟩, .inl rfl, trivial⟩, rfl, by simp [AObj.nov, edgeRows_nov]⟩
end Go.Proofs.Ythanhknkoikbfaa.Ct
namespace Go.Proofs.Ythanhknkoikbfaa.Ct
open Go Go.Proofs Go.Proofs.Ythanhknkoikbfaa.Av Go.Proofs.Ythanhknkoikbfaa.Pl
section
variable (a : AutoD) (s l : List Int)
end
variable {a : AutoD} {s l : List Int}
end Go.Proofs.Ythanhknkoikbfaa.Ct
namespace Go.Proofs.Ythanhknkoikbfaa.Ct
open Go Go.Proofs Go.Proofs.Ythanhknkoikbfaa.Av Go.Proofs.Ythanhknkoikbfaa.Pl
noncomputable def farD (a : AutoD) (s l : List Int) (t : Nat) : List Int := (List.range ((s.length + l.length) * a.states.toNat)).map (toD (PA (genOfD a) s l) t)
@[simp] theorem length_farD (a : AutoD) (s l : List Int) (t : Nat) : (farD a s l t).length = (s.length + l.length) * a.states.toNat := by simp [farD]
theorem RAutoOk_b {xs : List AV} {a : AutoD} {b : Bool} (hx : xs = [.agg (autoRow a)]) (h : decide (AutoOk a) = b) : RAutoOk xs (.bool b) [] := ⟨a, hx, by rw [h], rfl⟩
section
variable {A : Nat → Nat → Prop} {D : Nat → Int} {n P M k m : Nat}
noncomputable def outM (D : Nat → Int) (M k m : Nat) : List Int := (List.range M).map fun x => if D x < (if x < m then ((k + 1 : Nat) : Int) else (k : Int)) then D x else -1
@[simp] theorem length_outM (D : Nat → Int) (M k m : Nat) : (outM D M k m).length = M := by simp [outM]
noncomputable def seenM (D : Nat → Int) (n P k p : Nat) : List Nat := (List.range P).map fun q => if q < p then seenK D n (k + 1) q else seenK D n k q
noncomputable def nextM (D : Nat → Int) (n P k p : Nat) : List Nat := (List.range P).map fun q => if q < p then lvl D n k q else 0
noncomputable def frontK (D : Nat → Int) (n P k : Nat) : List Nat := (List.range P).map (lvl D n k)
@[simp] theorem length_seenM (D : Nat → Int) (n P k p : Nat) : (seenM D n P k p).length = P := by simp [seenM]
@[simp] theorem length_nextM (D : Nat → Int) (n P k p : Nat) : (nextM D n P k p).length = P := by simp [nextM]
@[simp] theorem length_frontK (D : Nat → Int) (n P k : Nat) : (frontK D n P k).length = P := by simp [frontK]
theorem map_set {f g : Nat → Nat} {P p v : Nat} (hv : v = g p) (h : ∀ q, q ≠ p → f q = g q) : ((List.range P).map f).set p v = (List.range P).map g := by
  subst hv
  apply List.ext_getElem (by simp)
  intro x h1 h2
  simp only [List.getElem_set, List.getElem_map, List.getElem_range]
  by_cases hx : p = x
  · rw [if_pos hx, hx]
  · rw [if_neg hx]; exact h x (fun e => hx e.symm)
end
section
variable {g : GenD} {s l : List Int} {t k p : Nat}
noncomputable def farG (g : GenD) (s l : List Int) (t : Nat) : List Int := (List.range ((s.length + l.length) * g.states.toNat)).map (toD (PA g s l) t)
end

@[simp] theorem length_farG (g : GenD) (s l : List Int) (t : Nat) : (farG g s l t).length = (s.length + l.length) * g.states.toNat := by simp [farG]
theorem bitL_asc {X n i j : Nat} (hij : i < j) (hj : j < (bitL X n).length) : (bitL X n).getD i 0 < (bitL X n).getD j 0 := by
  have h : (bitL X n).Pairwise (· < ·) := by
    unfold bitL
    exact List.Pairwise.filter _ List.pairwise_lt_range
  have := (List.pairwise_iff_getElem.1 h) i j (by omega) hj hij
  simpa [List.getD_eq_getElem?_getD, List.getElem?_eq_getElem hj, List.getElem?_eq_getElem (show i < (bitL X n).length by omega)] using this
theorem RTakesA_b {xs : List AV} {a : AutoD} {s l : List Int} {b : Bool} (hx : xs = [.agg (autoRow a), wordV s l]) (h : b = true ↔ TakesA a s l) : RTakesA xs (.bool b) [] := ⟨a, s, l, b, hx, h, rfl, rfl⟩
def c_impl_Auto_kept : ICode := (.seq (.reg [O0 4 (.alc [(.int .i64 0), (.int .i64 0), (.int .i64 0), .snil]), Ol 5 .mv [.c .snil]]) (.seq (.reg [O1 13 .mv 1, O1 14 .mv 0, O1 15 .nck 14, O1 16 (.fadr 1) 15, O1 17 .ld1 16, O1 18 (.call 141) 17, Ol 19 (.bin .sub) [.t 18, ci 1], O2 20 (.bin .and) 13 19, O1 21 (.call 80) 20, O1 6 .mv 21]) (.seq (.reg [O1 22 .mv 0, O1 23 .nck 22, O1 24 (.fadr 0) 23, O1 25 .ld1 24, O1 26 .mv 6, O1 27 .len 26, O2 28 (.bld [(.int .i64 0), (.int .i64 0), (.int .i64 0), .snil] [(0, 1), (1, 1)]) 25 27, O0 7 (.alc [(.int .i64 0), (.int .i64 0), (.int .i64 0), .snil]), S2 (.st 4) 7 28]) (.seq (.reg [O1 29 .mv 0, O1 30 .nck 29, O1 31 (.fadr 1) 30, O1 32 .ld1 31, O2 33 (.mks 1 8 [(.int .i64 0)]) 32 32, O1 8 .mv 33]) (.seq (.seq (.reg [O1 34 .mv 6, O1 35 .len 34, Ol 36 .mv [ci 0]]) (.block 0 (.loop (.seq (.reg [O2 37 (.bin .lss) 36 35]) (.seq (.cond (.t 37) .skip (.exit 0)) (.seq (.block 1 (.seq (.reg [O1 38 .mv 36, O2 39 (.iadr 1) 34 36, O1 40 .ld1 39, O1 9 .mv 38, O1 10 .mv 40]) (.seq (.reg [O1 41 .mv 8, O1 42 .mv 10, O1 43 .mv 9, O2 44 (.iadr 1) 41 42, S2 (.st 1) 44 43]) (.seq (.reg [O1 45 .mv 0, O1 46 .nck 45, O1 47 (.fadr 2) 46, O1 48 .ld1 47, O1 49 .mv 10, O2 50 (.call 125) 48 49]) (.cond (.t 50) (.drw [O1 51 (.fadr 2) 7, O1 52 .ld1 51, O1 53 .mv 9, O1 54 (.call 141) 53, O2 55 (.bin .or) 52 54, O1 56 (.fadr 2) 7, S2 (.st 1) 56 55] (unB [0, 1, 0, 4, 15, 31, 63] 0) true true) .skip))))) (.reg [Ol 57 (.bin .add) [.t 36, ci 1], O1 36 .mv 57]))))))) (.seq (.seq (.reg [O1 58 .mv 0, O1 59 .nck 58, O1 60 (.fadr 3) 59, O1 61 .ld1 60, O1 62 .len 61, Ol 63 .mv [ci 0]]) (.block 2 (.loop (.seq (.reg [O2 64 (.bin .lss) 63 62]) (.seq (.cond (.t 64) .skip (.exit 2)) (.seq (.block 3 (.seq (.reg [O2 65 (.iadr 4) 61 63, O1 66 (.ldn 4) 65, O0 12 (.alc [(.int .i64 0), (.int .i64 0), (.int .i64 0), (.bool false)]), S2 (.st 4) 12 66]) (.seq (.reg [O1 67 .mv 1, O1 68 (.fadr 0) 12, O1 69 .ld1 68, O2 70 (.call 125) 67 69, O1 71 .mv 70, Og 72 .mv [.t 1] 71 true, Og 73 (.fadr 2) [.t 12] 71 true, Og 74 .ld1 [.t 73] 71 true, Og 75 (.call 125) [.t 72, .t 74] 71 true, Ol 76 .pick [.t 71, .t 75, cb false]]) (.cond (.t 76) (.seq (.drw [O1 77 .mv 8, O1 78 (.fadr 0) 12, O1 79 .ld1 78, O2 80 (.iadr 1) 77 79, O1 81 .ld1 80, O1 82 .mv 8, O1 83 (.fadr 2) 12, O1 84 .ld1 83, O2 85 (.iadr 1) 82 84, O1 86 .ld1 85, O1 87 (.fadr 0) 12, S2 (.st 1) 87 81, O1 88 (.fadr 2) 12, S2 (.st 1) 88 86] (unB [0, 0, 2, 7, 15, 0, 0, 64, 224, 480, 223, 1247, 4095, 8191] 0) false true) (.reg [O1 89 (.fadr 3) 7, O1 90 .ld1 89, O1 91 (.ldn 4) 12, O1 92 (.bslv 4) 91, O2 93 (.app 4 32) 90 92, O1 94 (.fadr 3) 7, S2 (.st 1) 94 93])) .skip)))) (.reg [Ol 95 (.bin .add) [.t 63, ci 1], O1 63 .mv 95]))))))) (.seq (.reg [O1 96 (.ldn 4) 7, O1 97 .mv 6, S2 (.st 4) 4 96, O1 5 .mv 97]) .ret)))))))
theorem b_impl_Auto_kept : Body Try.prog 111 98 c_impl_Auto_kept [(.cn 4 4), (.t 5)] := body_mk Try.func111 (by kernel_rfl) (by decide)
def ROnlyN (xs : List AV) (r : AV) (objs : List AObj) : Prop := ∃ i : Int, xs = [.int .i64 i] ∧ 0 ≤ i ∧ i ≤ 62 ∧ r = .int .i64 ((2 ^ i.toNat : Nat) : Int) ∧ objs = []
theorem ROnlyN_is {i : Int} {p : Nat} (h0 : 0 ≤ i) (h1 : i ≤ 62) (h : p = 2 ^ i.toNat) : ROnlyN [.int .i64 i] (.int .i64 ((p : Nat) : Int)) [] := ⟨i, rfl, h0, h1, by rw [h], rfl⟩
theorem n_impl_only : PureSound Try.prog 141 ROnlyN := fun w own xs vs r objs hr ⟨i, hx, h0, h1, h2, h3⟩ => s_impl_only w own xs vs r objs hr ⟨i, hx, h0, h1, by rw [h2, natPow], h3⟩
theorem RHas_st {xs : List AV} {X v : Nat} (hx : xs = [.int .i64 ((X : Nat) : Int), .int .i64 ((v : Nat) : Int)]) (h : X < 2 ^ 31) (h1 : v ≤ 30) : RHas xs (.bool (X.testBit v)) [] :=
  ⟨X, v, hx, h, by omega, by omega, by rw [Int.toNat_natCast], rfl⟩
theorem bitL_and {X n : Nat} (h : n ≤ 31) : bitL (X &&& (2 ^ n - 1)) 31 = bitL X n := by
  rw [bitL_more (n := n) (m := 31) (Nat.lt_of_le_of_lt Nat.and_le_right (by have := Nat.one_le_two_pow (n := n); omega)) h]
  unfold bitL
  refine List.filter_congr fun i hi => ?_
  rw [Nat.testBit_and, Nat.testBit_two_pow_sub_one, decide_eq_true (List.mem_range.1 hi), Bool.and_true]
theorem RSetList_in {X n p : Nat} (h : n ≤ 31) (hp : p = 2 ^ n) : RSetList [.int .i64 ((X &&& (p - 1) : Nat) : Int)] (.ref 0 0 (bitL X n).length) [.arr 1 (ints (natsI (bitL X n)))] := by
  subst hp
  rw [← bitL_and h]
  refine RSetList_mk (Nat.lt_of_le_of_lt Nat.and_le_right ?_)
  have := pow_le31 h
  have := Nat.one_le_two_pow (n := n)
  omega
def plcF (X n : Nat) : Nat → List Int
  | 0 => List.replicate n 0
  | i + 1 => (plcF X n i).set ((bitL X n).getD i 0) ((i : Nat) : Int)
theorem plcF_len {X n : Nat} : ∀ i, (plcF X n i).length = n
  | 0 => List.length_replicate
  | i + 1 => by rw [plcF, List.length_set, plcF_len i]
theorem plcF_at {X n : Nat} : ∀ {i j : Nat}, j < i → i ≤ (bitL X n).length → (plcF X n i).getD ((bitL X n).getD j 0) 0 = ((j : Nat) : Int)
  | 0, j, h, _ => by omega
  | i + 1, j, h, hi => by
    have hl := (mem_at_bitL (X := X) (n := n) (i := i) (by omega)).2
    by_cases hj : j = i
    · subst hj
      rw [plcF, List.getD_eq_getElem?_getD, List.getElem?_set_self (by rw [plcF_len]; exact hl)]
      rfl
    · have := bitL_asc (X := X) (n := n) (i := j) (j := i) (by omega) (by omega)
      rw [plcF, List.getD_eq_getElem?_getD, List.getElem?_set_ne (by omega), ← List.getD_eq_getElem?_getD]
      exact plcF_at (by omega) (by omega)
theorem plcF_ok {X n v : Nat} (hb : X.testBit v = true) (hv : v < n) : (plcF X n (bitL X n).length).getD v 0 = ((plc X v : Nat) : Int) := by
  have := plcF_at (X := X) (n := n) (j := plc X v) (plc_lt hb hv) (Nat.le_refl _)
  rwa [plc_at hb hv] at this
theorem startK_yes {a : AutoD} {X i : Nat} (h : a.start.toNat.testBit ((bitL X a.states.toNat).getD i 0) = true) : startK a X (i + 1) = startK a X i ||| 2 ^ i := by
  unfold startK; rw [bitsOf, if_pos h]
theorem startK_no {a : AutoD} {X i : Nat} (h : ¬ a.start.toNat.testBit ((bitL X a.states.toNat).getD i 0) = true) : startK a X (i + 1) = startK a X i := by
  unfold startK; rw [bitsOf, if_neg h]
def keepI (a : AutoD) (X i : Nat) : List EdgeD := ((a.edges.take i).filter (inX X)).map (keepE X)
theorem keepI_yes {a : AutoD} {X i : Nat} (hi : i < a.edges.length) (h : inX X (a.edges.getD i default) = true) : keepI a X (i + 1) = keepI a X i ++ [keepE X (a.edges.getD i default)] := by
  unfold keepI
  rw [edges_take hi, List.filter_append, List.map_append]
  generalize a.edges.getD i default = e at h
  simp [h]
theorem keepI_no {a : AutoD} {X i : Nat} (hi : i < a.edges.length) (h : inX X (a.edges.getD i default) = false) : keepI a X (i + 1) = keepI a X i := by
  unfold keepI
  rw [edges_take hi, List.filter_append, List.map_append]
  generalize a.edges.getD i default = e at h
  simp [h]
theorem keepI_len {a : AutoD} {X i : Nat} (hi : i ≤ a.edges.length) : (keepI a X i).length ≤ a.edges.length := by
  unfold keepI
  rw [List.length_map]
  refine Nat.le_trans (List.length_filter_le _ _) ?_
  rw [List.length_take]; omega
theorem keep_app {M : List EdgeD} {x y z : Int} {b : Bool} : List.take M.length (edgeRows M) ++ [[.int .i64 x, .int .i64 y, .int .i64 z, .bool b]] = edgeRows (M ++ [⟨x, y, z, b⟩]) := by
  rw [List.take_of_length_le (by rw [length_edgeRows]; exact Nat.le_refl _)]
  simp [edgeRows, edgeRow]
noncomputable def keptR (a : AutoD) (X : Nat) : AV := .tup [.agg (autoRef 0 (keepD a X)), .ref 1 0 (bitL X a.states.toNat).length]
noncomputable def keptO (a : AutoD) (X : Nat) : List AObj := [.arr 4 (edgeRows (keepD a X).edges), .arr 1 (ints (natsI (bitL X a.states.toNat)))]
def RKept (xs : List AV) (r : AV) (objs : List AObj) : Prop := ∃ (a : AutoD) (X : Nat), xs = [.rptr (autoRow a) 0, .int .i64 ((X : Nat) : Int)] ∧ AutoOk a ∧ X < 2 ^ 31 ∧ r = keptR a X ∧ objs = keptO a X
theorem RKept_eq {xs : List AV} {a : AutoD} {X : Nat} (hx : xs = [.rptr (autoRow a) 0, .int .i64 ((X : Nat) : Int)]) (h : AutoOk a) (h1 : X < 2 ^ 31) : RKept xs (keptR a X) (keptO a X) := ⟨a, X, hx, h, h1, rfl, rfl⟩
set_option maxHeartbeats 8000000 in
theorem s_impl_kept : PureSound Try.prog 111 RKept := by
  have hR : Rely Try.prog (ctxOf [(141, .pure ROnlyN), (80, .pure RSetList), (125, .pure RHas)]) := rely_cons b_impl_only.has n_impl_only (rely_cons b_impl_SetList.has s_impl_SetList (rely_cons b_impl_has.has s_impl_has (rely_nil mixed)))
  have hV : CtxNV (ctxOf [(141, .pure ROnlyN), (80, .pure RSetList), (125, .pure RHas)]) := nv_pure (nv_pure (nv_pure nvNil))
  refine pure_of_aw b_impl_Auto_kept ?_
  rintro xs r objs ⟨a, X, rfl, ha, hX, rfl, rfl⟩ -
  have hs := ha.1.2.1
  have hst := ha.1.2.2
  have hsl := lt31 ha (start_lt2 ha)
  have es : a.start = ((a.start.toNat : Nat) : Int) := by omega
  have hle := length_edgeRows a.edges
  have hl := ha.2.1
  obtain ⟨n, hn⟩ : ∃ n, n = a.states.toNat := ⟨_, rfl⟩
  have hn1 : a.states = ((n : Nat) : Int) := by omega
  obtain ⟨P, hP⟩ : ∃ P, P = 2 ^ n := ⟨_, rfl⟩
  have hP1 : 1 ≤ P ∧ P ≤ 2 ^ 31 := ⟨by rw [hP]; exact Nat.one_le_two_pow, by rw [hP]; exact pow_le31 (by omega)⟩
  have hand : IntKind.i64.wrap (BitVec.ofInt IntKind.i64.bits ((X : Nat) : Int) &&& BitVec.ofInt IntKind.i64.bits (((P : Nat) : Int) - 1)).toNat = ((X &&& (P - 1) : Nat) : Int) := by
    rw [show ((P : Nat) : Int) - 1 = ((P - 1 : Nat) : Int) by omega]
    exact and_valN (by omega) (by omega)
  have hLl : (bitL X n).length ≤ n := bitL_len
  have hLi := length_ints (natsI (bitL X n))
  rw [length_natsI] at hLi
  refine ⟨by simp, vc3_sound hR hV _ _ _ _ _ ?_⟩
  conv => whnf
  repeat' ((first | contradiction | (refine And.intro (fun hb => ?_) (fun hb => ?_) <;> first | contradiction | ((try simp only [SB, reduceCtorEq] at hb); try (exfalso; first | contradiction | omega))) | rw [hand] | refine G2 ?_ | rw [ints_at (by omega)] | rw [ints_at0 (by omega)] | rw [ints_at' (by omega) (by omega)] | refine G1 ?_ | refine ⟨_, _, ROnlyN_is (by omega) (by omega) (p := P) (by rw [hP, hn]), ?_⟩ | refine ⟨_, _, RSetList_in (n := n) (by omega) hP, ?_⟩ | fail) <;> conv => whnf)
  refine Lp.intro (α := Nat) (fun i => i ≤ (bitL X n).length) (fun i => (bitL X n).length - i)
    (fun i => [(0, .rptr (autoRow a) 0), (1, .int .i64 ((X : Nat) : Int)), (4, .ptr 0 0 0), (6, .ref 1 0 (bitL X n).length), (7, .ptr 2 0 0), (8, .ref 3 0 n), (34, .ref 1 0 (bitL X n).length), (35, .int .i64 (bitL X n).length), (36, .int .i64 i)])
    (fun i => [some (.box [.int .i64 0, .int .i64 0, .int .i64 0, .snil]), some (.arr 1 (ints (natsI (bitL X n)))), some (.box [.int .i64 a.letters, .int .i64 (bitL X n).length, .int .i64 ((startK a X i : Nat) : Int), .snil]), some (.arr 1 (ints (plcF X n i)))]) ?_ ?_
  · refine ⟨0, Nat.zero_le _, [some 0, some 1, some 2, some 3], rfl, rfl, And.intro ⟨.inl rfl, .inl rfl, .inl rfl, .inl rfl, trivial⟩ (And.intro ⟨rfl, rfl⟩ (And.intro ⟨.inl rfl, .inl rfl, .inl rfl, .inl rfl, trivial⟩ (And.intro ⟨rfl, ?_⟩ trivial))), ?_⟩
    · show List.replicate a.states.toNat [AV.int .i64 0] = ints (List.replicate n 0)
      rw [← hn]
      simp [ints]
    · repeat' (first
        | exact trivial
        | refine ⟨?_, ?_⟩
        | fail)
      all_goals first
        | with_reducible rfl
        | (conv => whnf
           try left
           conv => lhs; whnf
           first
             | rfl
             | exact congrArg (AV.int .i64) (by omega)
             | skip)
      rw [hn]
  intro i hi
  have hpl := (length_ints (plcF X n i)).trans (plcF_len i)
  refine vc3_sound hR hV _ _ _ _ _ ?_
  by_cases hlt : i < (bitL X n).length
  · have hm := mem_at_bitL hlt
    have hyes := startK_yes (a := a) (X := X) (i := i)
    have hno := startK_no (a := a) (X := X) (i := i)
    rw [← hn] at hyes hno
    have hcell : (ints (natsI (bitL X n)))[0 + ((i : Nat) : Int).toNat]? = some [.int .i64 (((bitL X n).getD i 0 : Nat) : Int)] := by
      rw [ints_at0 (by rw [length_natsI]; exact hlt)]
      simp [natsI, List.getD_eq_getElem?_getD, List.getElem?_eq_getElem hlt]
    have hset : (ints (plcF X n i)).set (0 + (((bitL X n).getD i 0 : Nat) : Int).toNat) [.int .i64 ((i : Nat) : Int)] = ints (plcF X n (i + 1)) := ints_set
    have hsk : startK a X i < 2 ^ 31 := Nat.lt_of_lt_of_le bitsOf_lt (pow_le31 (by omega))
    have hor := or_bit (i := ((i : Nat) : Int)) hsk (by omega) (by omega)
    rw [Int.toNat_natCast] at hor
    generalize (bitL X n).getD i 0 = v at *
    have hold := ints_at0 (xs := plcF X n i) (i := v) (by rw [plcF_len]; omega)
    conv => whnf
    repeat' ((first | contradiction | (refine And.intro (fun hb => ?_) (fun hb => ?_) <;> first | contradiction | ((try simp only [SB, reduceCtorEq] at hb); try (exfalso; first | contradiction | omega))) | rw [hcell] | rw [hold] | refine G2 ?_ | rw [ints_at (by omega)] | rw [ints_at0 (by omega)] | rw [ints_at' (by omega) (by omega)] | refine G1 ?_ | refine ⟨_, _, RHas_st (args_cons (congrArg (AV.int .i64) es) (args_cons rfl rfl)) hsl (by omega), ?_⟩ | refine ⟨_, _, ROnlyN_is (by omega) (by omega) (p := 2 ^ i) (by rw [Int.toNat_natCast]), ?_⟩ | fail) <;> conv => whnf)
    · refine ⟨i + 1, hlt, by omega, [some 0, some 1, some 2, some 3], rfl, rfl, And.intro ⟨.inl rfl, .inl rfl, .inl rfl, .inl rfl, trivial⟩ (And.intro ⟨rfl, rfl⟩ (And.intro ⟨.inl rfl, .inl rfl, .inl (congrArg (AV.int .i64) (hor.trans (by rw [hyes (by assumption)]))), .inl rfl, trivial⟩ (And.intro ⟨rfl, hset⟩ trivial))), ?_⟩
      repeat' (first
        | exact trivial
        | refine ⟨?_, ?_⟩
        | fail)
      all_goals first
        | with_reducible rfl
        | (conv => whnf
           try left
           conv => lhs; whnf
           first
             | rfl
             | exact congrArg (AV.int .i64) (by omega)
             | skip)
    · refine ⟨i + 1, hlt, by omega, [some 0, some 1, some 2, some 3], rfl, rfl, And.intro ⟨.inl rfl, .inl rfl, .inl rfl, .inl rfl, trivial⟩ (And.intro ⟨rfl, rfl⟩ (And.intro ⟨.inl rfl, .inl rfl, .inl (congrArg (fun x : Nat => AV.int .i64 x) (hno (by rw [hb]; decide)).symm), .inl rfl, trivial⟩ (And.intro ⟨rfl, hset⟩ trivial))), ?_⟩
      repeat' (first
        | exact trivial
        | refine ⟨?_, ?_⟩
        | fail)
      all_goals first
        | with_reducible rfl
        | (conv => whnf
           try left
           conv => lhs; whnf
           first
             | rfl
             | exact congrArg (AV.int .i64) (by omega)
             | skip)
  obtain rfl : i = (bitL X n).length := by omega
  have hpo := fun v => plcF_ok (X := X) (n := n) (v := v)
  have hFl := plcF_len (X := X) (n := n) (bitL X n).length
  generalize plcF X n (bitL X n).length = F at *
  conv => whnf
  repeat' ((first | contradiction | (refine And.intro (fun hb => ?_) (fun hb => ?_) <;> first | contradiction | ((try simp only [SB, reduceCtorEq] at hb); try (exfalso; first | contradiction | omega))) | refine G2 ?_ | rw [ints_at (by omega)] | rw [ints_at0 (by omega)] | rw [ints_at' (by omega) (by omega)] | refine G1 ?_ | fail) <;> conv => whnf)
  refine Lp.intro (α := Nat) (fun i => i ≤ a.edges.length) (fun i => a.edges.length - i)
    (fun i => [(0, .rptr (autoRow a) 0), (1, .int .i64 ((X : Nat) : Int)), (4, .ptr 0 0 0), (6, .ref 1 0 (bitL X n).length), (7, .ptr 2 0 0), (8, .ref 3 0 n), (61, .val (edgeRows a.edges)), (62, .int .i64 a.edges.length), (63, .int .i64 i)])
    (fun i => [some (.box [.int .i64 0, .int .i64 0, .int .i64 0, .snil]), some (.arr 1 (ints (natsI (bitL X n)))), some (.box [.int .i64 a.letters, .int .i64 (bitL X n).length, .int .i64 ((startK a X (bitL X n).length : Nat) : Int), .ref 4 0 (keepI a X i).length]), some (.arr 1 (ints F)), some (.arr 4 (edgeRows (keepI a X i)))]) ?_ ?_
  · refine ⟨0, Nat.zero_le _, [some 0, some 1, some 2, some 3, none], rfl, rfl, And.intro ⟨.inl rfl, .inl rfl, .inl rfl, .inl rfl, trivial⟩ (And.intro ⟨rfl, rfl⟩ (And.intro ⟨.inl rfl, .inl rfl, .inl rfl, ⟨rfl, rfl, rfl⟩, trivial⟩ (And.intro ⟨rfl, rfl⟩ (And.intro rfl trivial)))), ?_⟩
    repeat' (first
      | exact trivial
      | refine ⟨?_, ?_⟩
      | fail)
    all_goals first
      | with_reducible rfl
      | (conv => whnf
         try left
         conv => lhs; whnf
         first
           | rfl
           | exact congrArg (AV.int .i64) (by omega)
           | skip)
  intro i hi
  have hkl := keepI_len (X := X) hi
  have hkr := length_edgeRows (keepI a X i)
  refine vc3_sound hR hV _ _ _ _ _ ?_
  by_cases hlt : i < a.edges.length
  · have he := edge_in ha hlt
    unfold EdgeIn at he
    have hat := edge_at hlt
    have hyes := keepI_yes (X := X) hlt
    have hno := keepI_no (X := X) hlt
    generalize a.edges.getD i default = e at *
    have hS : X.testBit e.src.toNat = true → (ints F)[0 + e.src.toNat]? = some [.int .i64 ((plc X e.src.toNat : Nat) : Int)] := fun h => by
      rw [← hpo _ h (by omega)]
      exact ints_atI (by omega) (by omega)
    have hD : X.testBit e.dst.toNat = true → (ints F)[0 + e.dst.toNat]? = some [.int .i64 ((plc X e.dst.toNat : Nat) : Int)] := fun h => by
      rw [← hpo _ h (by omega)]
      exact ints_atI (by omega) (by omega)
    conv => whnf
    repeat' ((first | contradiction | (refine And.intro (fun hb => ?_) (fun hb => ?_) <;> first | contradiction | ((try simp only [SB, reduceCtorEq] at hb); try (exfalso; first | contradiction | omega))) | rw [hat] | rw [hS (by assumption)] | rw [hD (by assumption)] | refine G2 ?_ | rw [ints_at (by omega)] | rw [ints_at0 (by omega)] | rw [ints_at' (by omega) (by omega)] | refine G1 ?_ | refine ⟨_, _, RHas_mk hX (by omega) (by omega), ?_⟩ | fail) <;> conv => whnf)
    · have hy := hyes (by unfold inX; rw [Bool.and_eq_true]; exact ⟨by assumption, by assumption⟩)
      refine ⟨i + 1, hlt, by omega, [some 0, some 1, some 2, some 3, some 6], rfl, rfl, And.intro ⟨.inl rfl, .inl rfl, .inl rfl, .inl rfl, trivial⟩ (And.intro ⟨rfl, rfl⟩ (And.intro ⟨.inl rfl, .inl rfl, .inl rfl, ?_, trivial⟩ (And.intro ⟨rfl, rfl⟩ (And.intro ⟨rfl, ?_⟩ trivial)))), ?_⟩
      · rw [hy, List.length_append]; exact rfl
      · rw [hy]
        exact keep_app
      · repeat' (first
          | exact trivial
          | refine ⟨?_, ?_⟩
          | fail)
        all_goals first
          | with_reducible rfl
          | (conv => whnf
             try left
             conv => lhs; whnf
             first
               | rfl
               | exact congrArg (AV.int .i64) (by omega)
               | skip)
    · have hn := hno (by unfold inX; rw [show X.testBit e.dst.toNat = false by assumption]; exact Bool.and_false _)
      refine ⟨i + 1, hlt, by omega, [some 0, some 1, some 2, some 3, some 4], rfl, rfl, And.intro ⟨.inl rfl, .inl rfl, .inl rfl, .inl rfl, trivial⟩ (And.intro ⟨rfl, rfl⟩ (And.intro ⟨.inl rfl, .inl rfl, .inl rfl, ?_, trivial⟩ (And.intro ⟨rfl, rfl⟩ (And.intro ⟨rfl, ?_⟩ trivial)))), ?_⟩
      · rw [hn]; exact rfl
      · rw [hn]
      · repeat' (first
          | exact trivial
          | refine ⟨?_, ?_⟩
          | fail)
        all_goals first
          | with_reducible rfl
          | (conv => whnf
             try left
             conv => lhs; whnf
             first
               | rfl
               | exact congrArg (AV.int .i64) (by omega)
               | skip)
    · have hn := hno (by unfold inX; rw [show X.testBit e.src.toNat = false by assumption]; exact Bool.false_and _)
      refine ⟨i + 1, hlt, by omega, [some 0, some 1, some 2, some 3, some 4], rfl, rfl, And.intro ⟨.inl rfl, .inl rfl, .inl rfl, .inl rfl, trivial⟩ (And.intro ⟨rfl, rfl⟩ (And.intro ⟨.inl rfl, .inl rfl, .inl rfl, ?_, trivial⟩ (And.intro ⟨rfl, rfl⟩ (And.intro ⟨rfl, ?_⟩ trivial)))), ?_⟩
      · rw [hn]; exact rfl
      · rw [hn]
      · repeat' (first
          | exact trivial
          | refine ⟨?_, ?_⟩
          | fail)
        all_goals first
          | with_reducible rfl
          | (conv => whnf
             try left
             conv => lhs; whnf
             first
               | rfl
               | exact congrArg (AV.int .i64) (by omega)
               | skip)
  · obtain rfl : i = a.edges.length := by omega
    have hk : keepI a X a.edges.length = (keepD a X).edges := by unfold keepI; rw [List.take_length]; rfl
    conv => whnf
    repeat' ((first | contradiction | (refine And.intro (fun hb => ?_) (fun hb => ?_) <;> first | contradiction | ((try simp only [SB, reduceCtorEq] at hb); try (exfalso; first | contradiction | omega))) | refine G2 ?_ | rw [ints_at (by omega)] | rw [ints_at0 (by omega)] | rw [ints_at' (by omega) (by omega)] | refine G1 ?_ | fail) <;> conv => whnf)
    rw [hk]
    refine ⟨.inl rfl, ?_⟩
    conv => whnf
    subst hn
    exact ⟨by simp, [some 4, some 1], ⟨rfl, And.intro ⟨rfl, rfl⟩ (And.intro ⟨rfl, rfl⟩ trivial)⟩, ⟨⟨.inl rfl, .inl rfl, .inl rfl, rfl, trivial⟩, rfl, trivial⟩, rfl, by simp [keptO, AObj.nov, edgeRows_nov, ints_nov]⟩


theorem reach_iff {a : AutoD} (ha : AutoOk a) {S p : Nat} (hS : S < 2 ^ a.states.toNat) : (autoR a S).testBit p = true ↔ Rch (EA a) (BitP S) p := by
  unfold autoR reachN
  rw [testBit_bitsOf]
  have hs := ha.1.2.1
  exact ⟨fun h => h.2, fun h => ⟨by have := rch_lt ha hS h; omega, h⟩⟩
theorem run_rel {a : AutoD} {w : Nat → Int} {q : Nat → Nat} {e : Nat → EdgeD} (h : RunA a w q e) {i : Nat} : ∀ {j}, i ≤ j → Rel1 (EA a) (q i) (q j)
  | 0, hj => by rw [show i = 0 by omega]; exact Rel1.refl
  | j + 1, hj => by
    by_cases he : i = j + 1
    · rw [he]; exact Rel1.refl
    · exact (run_rel h (j := j) (by omega)).trans (Rel1.one ⟨e j, h.edge j, h.src j, h.dst j⟩)
noncomputable def trimX (a : AutoD) : Nat := autoR a a.start.toNat
theorem trim_takes {a : AutoD} (ha : AutoOk a) {s l : List Int} : TakesA (keepD a (trimX a)) s l ↔ TakesA a s l :=
  keep_takes ha fun q e hr i => (reach_iff ha (start_lt2 ha)).2 (rch_mk (S := BitP a.start.toNat) hr.start (run_rel hr (Nat.zero_le i)))
theorem wordOk_mk {s l : List Int} {n : Int} (h0 : 1 ≤ n ∧ n ≤ 8) (h1 : s.length ≤ 40) (h2 : 1 ≤ l.length) (h3 : l.length ≤ 40) (h4 : ∀ x ∈ s, 0 ≤ x ∧ x ≤ n - 1) (h5 : ∀ x ∈ l, 0 ≤ x ∧ x ≤ n - 1) : wordOk s l n = true := by
  unfold wordOk lettersB
  simp only [Bool.and_eq_true, decide_eq_true_eq, List.all_eq_true]
  exact ⟨⟨⟨⟨h0, h1⟩, h2, h3⟩, h4⟩, h5⟩
theorem wordOk_un {s l : List Int} {n : Int} (h : wordOk s l n = true) : (1 ≤ n ∧ n ≤ 8) ∧ s.length ≤ 40 ∧ (1 ≤ l.length ∧ l.length ≤ 40) ∧ (∀ x ∈ s, 0 ≤ x ∧ x ≤ n - 1) ∧ ∀ x ∈ l, 0 ≤ x ∧ x ≤ n - 1 := by
  unfold wordOk lettersB at h
  simp only [Bool.and_eq_true, decide_eq_true_eq, List.all_eq_true] at h
  exact ⟨h.1.1.1.1, h.1.1.1.2, h.1.1.2, h.1.2, h.2⟩
theorem canon_ok {s l : List Int} {n : Int} (h : wordOk s l n = true) : wordOk (canonW s l).1 (canonW s l).2 n = true := by
  obtain ⟨h0, h1, h2, h4, h5⟩ := wordOk_un h
  obtain ⟨p1, p2, p3⟩ := perL_spec (l := l) (by omega)
  obtain ⟨_, g2, g3, g4, g5⟩ := canon_seq (s := s) (l := l) (by omega)
  have := p1.1
  exact wordOk_mk h0 (by omega) (by omega) (by omega) (fun x hx => h4 x (g4 x hx)) (fun x hx => h5 x (g5 x hx))
theorem canon_takes {a : AutoD} {s l : List Int} (h : wordOk s l a.letters = true) : TakesA a (canonW s l).1 (canonW s l).2 ↔ TakesA a s l := by
  obtain ⟨_, _, h2, _, _⟩ := wordOk_un h
  exact takesA_same ((canon_ok h).trans h.symm) (canon_seq (by omega)).1
theorem twice_ok {s l : List Int} {n m : Int} (h : wordOk s l n = true) (h8 : wordOk s (l ++ l) m = true) : wordOk s (l ++ l) n = true := by
  obtain ⟨h0, h1, h2, h4, h5⟩ := wordOk_un h
  obtain ⟨_, _, g2, _, _⟩ := wordOk_un h8
  exact wordOk_mk h0 h1 g2.1 g2.2 h4 (fun x hx => h5 x (by rcases List.mem_append.1 hx with h | h <;> exact h))
theorem twice_takes {a : AutoD} {s l : List Int} {m : Int} (h : wordOk s l a.letters = true) (h8 : wordOk s (l ++ l) m = true) : TakesA a s (l ++ l) ↔ TakesA a s l := by
  obtain ⟨_, _, h2, _, _⟩ := wordOk_un h
  exact takesA_same ((twice_ok h h8).trans h.symm) (seqN_twice (by omega))
def allEs (n : Nat) : List EdgeD := (List.range n).map fun i => ⟨0, ((i : Nat) : Int), 0, true⟩
def allD (n : Int) : AutoD := ⟨n, 1, 1, allEs n.toNat⟩
theorem length_allEs (n : Nat) : (allEs n).length = n := by simp [allEs]
theorem allEs_succ (n : Nat) : allEs (n + 1) = allEs n ++ [⟨0, ((n : Nat) : Int), 0, true⟩] := by simp [allEs, List.range_succ]
theorem allEs_at {n i : Nat} (h : i < n) : (allEs n).getD i default = ⟨0, ((i : Nat) : Int), 0, true⟩ := by
  simp [allEs, List.getD_eq_getElem?_getD, h]
theorem all_ok {n : Int} (h : 1 ≤ n ∧ n ≤ 8) : AutoOk (allD n) := by
  refine ⟨⟨h, ⟨by show (0 : Int) ≤ 1; decide, by show (1 : Int) ≤ 31; decide⟩, by show (0 : Int) ≤ 1; decide, by show (1 : Int) ≤ 2147483647; decide, by show (1 : Int) < 2 ^ (1 : Int).toNat; decide⟩, ?_, fun i hi => ?_⟩
  · show (allEs n.toNat).length ≤ 2000
    rw [length_allEs]; omega
  · have hi' : i < n.toNat := by
      have : i < (allEs n.toNat).length := hi
      rwa [length_allEs] at this
    refine ⟨?_, fun h0 => ?_⟩
    · show EdgeIn (allD n) ((allEs n.toNat).getD i default)
      rw [allEs_at hi']
      show ((0 : Int) ≤ 0 ∧ (0 : Int) ≤ 1 - 1) ∧ ((0 : Int) ≤ 0 ∧ (0 : Int) ≤ 1 - 1) ∧ ((0 : Int) ≤ ((i : Nat) : Int) ∧ ((i : Nat) : Int) ≤ n - 1)
      omega
    · show edgeLess ((allEs n.toNat).getD (i - 1) default) ((allEs n.toNat).getD i default) = true
      rw [allEs_at hi', allEs_at (by omega), edgeLess_iff]
      dsimp only
      omega
theorem all_takes {n : Int} {s l : List Int} (h : wordOk s l n = true) : TakesA (allD n) s l := by
  obtain ⟨h0, h1, h2, h4, h5⟩ := wordOk_un h
  rw [takesA_iff]
  refine ⟨all_ok h0, h, fun _ => 0, fun i => ⟨0, seqN s l i, 0, true⟩, ⟨show (1 : Int).toNat.testBit 0 = true by decide, fun i => ?_, fun _ => rfl, fun _ => rfl, fun _ => rfl, fun i => ⟨i, Nat.le_refl _, rfl⟩⟩⟩
  have hb : 0 ≤ seqN s l i ∧ seqN s l i ≤ n - 1 := by
    rw [seqN_eq (by omega)]
    split
    · rename_i hs
      refine h4 _ ?_
      rw [List.getD_eq_getElem?_getD, List.getElem?_eq_getElem hs]
      exact List.getElem_mem hs
    · have hm : (i - s.length) % l.length < l.length := Nat.mod_lt _ (by omega)
      refine h5 _ ?_
      rw [List.getD_eq_getElem?_getD, List.getElem?_eq_getElem hm]
      exact List.getElem_mem hm
  show (⟨0, seqN s l i, 0, true⟩ : EdgeD) ∈ allEs n.toNat
  refine List.mem_map.2 ⟨(seqN s l i).toNat, List.mem_range.2 (by omega), ?_⟩
  rw [Int.toNat_of_nonneg hb.1]
end Go.Proofs.Ythanhknkoikbfaa.Ct
namespace Go.Proofs.Ythanhknkoikbfaa.Ct
open Go Go.Proofs Go.Proofs.Ythanhknkoikbfaa.Av
def marks (k : Int) (n : Nat) : List Int := (List.range n).map fun i => k + (i : Nat)
@[simp] theorem length_marks (k : Int) (n : Nat) : (marks k n).length = n := by simp [marks]
/-! ### the laws' helpers -/
end Go.Proofs.Ythanhknkoikbfaa.Ct
namespace Go.Proofs.Ythanhknkoikbfaa.Ct
open Go Go.Proofs Go.Proofs.Ythanhknkoikbfaa.Av Go.Proofs.Ythanhknkoikbfaa.Pl
def c_slices_Clone_int_int : ICode := (.seq (.reg [Ol 2 .mv [.c .snil]]) (.seq (.seq (.reg [O1 3 .mv 0, O1 4 (.bnil false) 3]) (.cond (.t 4) (.seq (.reg [Ol 2 .mv [.c .snil]]) .ret) .skip)) (.seq (.reg [O0 5 .bsle, O1 6 .mv 0, O2 7 (.app 1 8) 5 6, O1 2 .mv 7]) .ret)))
theorem b_slices_Clone_int_int : Body Try.prog 128 8 c_slices_Clone_int_int [(.t 2)] := body_mk Try.func128 (by kernel_rfl) (by decide)
theorem ints_w {l : List Int} : ∀ r ∈ ints l, r.length = 1 := by
  intro r hr
  obtain ⟨x, _, rfl⟩ := List.mem_map.1 hr
  rfl
def RCloneI (xs : List AV) (r : AV) (objs : List AObj) : Prop := ∃ l, xs = [.val (ints l)] ∧ l.length ≤ 1048576 ∧ r = .ref 0 0 l.length ∧ objs = [.arr 1 (ints l)]
theorem RCloneI_eq {xs : List AV} {l : List Int} (hx : xs = [.val (ints l)]) (h : l.length ≤ 1048576) : RCloneI xs (.ref 0 0 l.length) [.arr 1 (ints l)] := ⟨l, hx, h, rfl, rfl⟩
theorem s_slices_CloneI : PureSound Try.prog 128 RCloneI := by
  have hR : Rely Try.prog (ctxOf []) := rely_nil mixed
  refine pure_of_aw b_slices_Clone_int_int ?_
  rintro xs r objs ⟨l, rfl, h1, rfl, rfl⟩ -
  have hle := length_ints l
  refine ⟨by simp, vc2_sound hR _ _ _ _ _ ?_⟩
  conv => whnf
  repeat' ((first | contradiction | (refine And.intro (fun hb => ?_) (fun hb => ?_) <;> first | contradiction | ((try simp only [SB, reduceCtorEq] at hb); try (exfalso; first | contradiction | omega))) | refine G2 ?_ | rw [ints_at (by omega)] | rw [ints_at0 (by omega)] | rw [ints_at' (by omega) (by omega)] | refine G1 ?_ | refine And.intro ints_w ?_ | fail) <;> conv => whnf)
  · have hl : l = [] := by simpa [ints] using hb
    subst hl
    refine ⟨.inl rfl, ?_⟩
    conv => whnf
    exact ⟨[none], ⟨rfl, And.intro rfl trivial⟩, ⟨rfl, rfl, rfl⟩, rfl, rfl⟩
  · refine ⟨.inl rfl, ?_⟩
    conv => whnf
    exact ⟨[some 0], ⟨rfl, And.intro (And.intro rfl rfl) trivial⟩, congrArg (AV.ref 0 0) hle, rfl, by simp [AObj.nov, ints_nov]⟩
theorem RTakesA_is {xs : List AV} {a : AutoD} {s l : List Int} {b : Bool} (hx : xs = [.agg (autoRow a), wordV s l]) (h : b = true ↔ TakesA a s l) : RTakesA xs (.bool b) [] := ⟨a, s, l, b, hx, h, rfl, rfl⟩
theorem RWordOk_is {xs : List AV} {s l : List Int} {n : Int} {b : Bool} (hx : xs = [word s l, .int .i64 n]) (h : wordOk s l n = b) : RWordOk xs (.bool b) [] := ⟨s, l, n, hx, by rw [h], rfl⟩
theorem RAutoOk_is {xs : List AV} {a : AutoD} {b : Bool} (hx : xs = [.agg (autoRow a)]) (h : decide (AutoOk a) = b) : RAutoOk xs (.bool b) [] := ⟨a, hx, by rw [h], rfl⟩
def c_slices_Equal_int_int : ICode := (.seq (.reg [Ol 4 .mv [cb false]]) (.seq (.seq (.reg [O1 6 .mv 0, O1 7 .len 6, O1 8 .mv 1, O1 9 .len 8, O2 10 (.bin .neq) 7 9]) (.cond (.t 10) (.seq (.reg [Ol 4 .mv [cb false]]) .ret) .skip)) (.seq (.seq (.reg [O1 11 .mv 0, O1 12 .len 11, Ol 13 .mv [ci 0]]) (.block 0 (.loop (.seq (.reg [O2 14 (.bin .lss) 13 12]) (.seq (.cond (.t 14) .skip (.exit 0)) (.seq (.block 1 (.seq (.reg [O1 15 .mv 13, O1 5 .mv 15]) (.seq (.drw [O1 16 .mv 0, O1 17 .mv 5, O2 18 (.iadr 1) 16 17, O1 19 .ld1 18, O1 20 .mv 1, O1 21 .mv 5, O2 22 (.iadr 1) 20 21, O1 23 .ld1 22, O2 24 (.bin .neq) 19 23] (unB [0, 0, 3, 7, 0, 0, 48, 112, 255] 0) true true) (.cond (.t 24) (.seq (.reg [Ol 4 .mv [cb false]]) .ret) .skip)))) (.reg [Ol 25 (.bin .add) [.t 13, ci 1], O1 13 .mv 25]))))))) (.seq (.reg [Ol 4 .mv [cb true]]) .ret))))
theorem b_slices_Equal_int_int : Body Try.prog 184 26 c_slices_Equal_int_int [(.t 4)] := body_mk Try.func184 (by kernel_rfl) (by decide)
def c_impl_period : ICode := (.seq (.reg [Ol 2 .mv [ci 0]]) (.seq (.seq (.reg [Ol 3 .mv [ci 1]]) (.block 0 (.loop (.seq (.seq (.reg [O1 4 .mv 3, O1 5 .mv 0, O1 6 .len 5, O2 7 (.bin .lss) 4 6]) (.cond (.t 7) .skip (.exit 0))) (.seq (.block 1 (.seq (.drw [O1 10 .mv 0, O1 11 .len 10, O1 12 .mv 3, O2 13 (.bin .rem) 11 12, Ol 14 (.bin .eql) [.t 13, ci 0], O1 15 .mv 14, Og 16 .mv [.t 0] 15 true, Og 17 .mv [.t 3] 15 true, Og 18 (.slc 1 true false) [.t 16, .t 17] 15 true, Og 19 .mv [.t 0] 15 true, Og 20 .mv [.t 0] 15 true, Og 21 .len [.t 20] 15 true, Og 22 .mv [.t 3] 15 true, Og 23 (.bin .sub) [.t 21, .t 22] 15 true, Og 24 (.slc 1 false true) [.t 19, .t 23] 15 true, Og 25 (.call 184) [.t 18, .t 24] 15 true, Ol 26 .pick [.t 15, .t 25, cb false]] (unB [0, 1, 0, 7, 15, 31, 63, 63, 255, 63, 63, 1087, 63, 7231, 15935, 32767, 65535] 0) true true) (.cond (.t 26) (.seq (.reg [O1 27 .mv 3, O1 2 .mv 27]) .ret) .skip))) (.reg [O1 8 .mv 3, Ol 9 (.bin .add) [.t 8, ci 1], O1 3 .mv 9])))))) (.seq (.reg [O1 28 .mv 0, O1 29 .len 28, O1 2 .mv 29]) .ret)))
theorem b_impl_period : Body Try.prog 129 30 c_impl_period [(.t 2)] := body_mk Try.func129 (by kernel_rfl) (by decide)
def c_impl_WordCanon : ICode := (.seq (.reg [O1 1 (.box 2) 0, O0 2 (.alc [.snil, .snil])]) (.seq (.seq (.reg [O1 6 (.ldn 2) 1, O1 7 (.call 127) 6, O1 8 .not 7]) (.cond (.t 8) (.seq (.reg [O0 9 (.bld [.snil, .snil] []), S2 (.st 2) 2 9]) .ret) .skip)) (.seq (.reg [O1 10 (.fadr 0) 1, O1 11 .ld1 10, O1 12 (.call 128) 11, O1 3 .mv 12]) (.seq (.drw [O1 13 (.fadr 1) 1, O1 14 .ld1 13, O1 15 (.fadr 1) 1, O1 16 .ld1 15, O1 17 (.call 129) 16, O2 18 (.slc 1 false true) 14 17, O1 19 (.call 128) 18, O1 4 .mv 19] (unB [0, 1, 0, 4, 12, 31, 63, 127] 0) true true) (.seq (.reg [O1 20 .mv 4, O1 21 .len 20, Ol 22 (.bin .sub) [.t 21, ci 1], O1 5 .mv 22]) (.seq (.block 0 (.loop (.seq (.seq (.drw [O1 23 .mv 3, O1 24 .len 23, Ol 25 (.bin .gtr) [.t 24, ci 0], O1 26 .mv 25, Og 27 .mv [.t 3] 26 true, Og 28 .mv [.t 3] 26 true, Og 29 .len [.t 28] 26 true, Og 30 (.bin .sub) [.t 29, ci 1] 26 true, Og 31 (.iadr 1) [.t 27, .t 30] 26 true, Og 32 .ld1 [.t 31] 26 true, Og 33 .mv [.t 4] 26 true, Og 34 .mv [.t 5] 26 true, Og 35 (.iadr 1) [.t 33, .t 34] 26 true, Og 36 .ld1 [.t 35] 26 true, Og 37 (.bin .eql) [.t 32, .t 36] 26 true, Ol 38 .pick [.t 26, .t 37, cb false]] (unB [0, 1, 3, 7, 15, 15, 47, 111, 255, 511, 15, 15, 3087, 7183, 16383, 32767] 0) true true) (.cond (.t 38) .skip (.exit 0))) (.block 1 (.seq (.reg [O1 39 .mv 3, O1 40 .mv 3, O1 41 .len 40, Ol 42 (.bin .sub) [.t 41, ci 1], O2 43 (.slc 1 false true) 39 42, O1 3 .mv 43]) (.drw [O1 44 .mv 4, O1 45 .mv 5, O2 46 (.slc 1 true false) 44 45, O1 47 .mv 4, O1 48 .mv 5, O2 49 (.slc 1 false true) 47 48, O2 50 (.bsl 1) 46 49, O1 51 (.call 107) 50, O1 4 .mv 51] (unB [0, 0, 3, 0, 0, 24, 63, 127, 255] 0) true true)))))) (.seq (.reg [O1 52 .mv 3, O1 53 .mv 4, O2 54 (.bld [.snil, .snil] [(0, 1), (1, 1)]) 52 53, S2 (.st 2) 2 54]) .ret)))))))
theorem b_impl_WordCanon : Body Try.prog 49 55 c_impl_WordCanon [(.cn 2 2)] := body_mk Try.func49 (by kernel_rfl) (by decide)
theorem s_slices_EqualI : PureSound Try.prog 184 REqIntS := by
  have hR : Rely Try.prog (ctxOf []) := rely_nil mixed
  refine pure_of_aw b_slices_Equal_int_int ?_
  rintro xs r objs ⟨a, b, rfl, rfl, rfl⟩ ⟨w, own, vs, hrel⟩
  have hl : (ints a).length ≤ 9223372036854775807 := by
    obtain ⟨v, hv⟩ := rels_at hrel (i := 0) rfl
    exact rel_len hv
  rw [length_ints] at hl
  clear hrel
  have hla := length_ints a
  refine ⟨by simp, vc2_sound hR _ _ _ _ _ ?_⟩
  conv => whnf
  repeat' ((first | contradiction | (refine And.intro (fun hb => ?_) (fun hb => ?_) <;> first | contradiction | ((try simp only [SB, reduceCtorEq] at hb); try (exfalso; first | contradiction | omega))) | refine G2 ?_ | rw [ints_at (by omega)] | rw [ints_at0 (by omega)] | rw [ints_at' (by omega) (by omega)] | refine G1 ?_ | fail) <;> conv => whnf)
  · refine ⟨.inl rfl, ?_⟩
    conv => whnf
    refine ⟨[], ⟨rfl, trivial⟩, ?_, rfl, rfl⟩
    conv => whnf
    left
    conv => lhs; whnf
    refine congrArg AV.bool (Eq.symm (decide_eq_false ?_))
    intro h; subst h; exact hb rfl
  · refine Lp.intro (α := Nat) (fun i => i ≤ a.length ∧ ∀ j, j < i → a.getD j 0 = b.getD j 0) (fun i => a.length - i) (fun i => [(0, .val (ints a)), (1, .val (ints b)), (12, .int .i64 a.length), (13, .int .i64 i)]) (fun _ => []) ?_ ?_
    · refine ⟨0, ⟨by omega, by omega⟩, [], rfl, rfl, trivial, ?_⟩
      exact ⟨.inl rfl, .inl rfl, .inl (congrArg (fun x : Nat => AV.int .i64 x) hla), .inl rfl, trivial⟩
    · rintro i ⟨hi, hall⟩
      refine vc2_sound hR _ _ _ _ _ ?_
      conv => whnf
      repeat' ((first | contradiction | (refine And.intro (fun hb => ?_) (fun hb => ?_) <;> first | contradiction | ((try simp only [SB, reduceCtorEq] at hb); try (exfalso; first | contradiction | omega))) | refine G2 ?_ | rw [ints_at (by omega)] | rw [ints_at0 (by omega)] | rw [ints_at' (by omega) (by omega)] | refine G1 ?_ | fail) <;> conv => whnf)
      · refine ⟨.inl rfl, ?_⟩
        conv => whnf
        refine ⟨[], ⟨rfl, trivial⟩, ?_, rfl, rfl⟩
        conv => whnf
        left
        conv => lhs; whnf
        refine congrArg AV.bool (Eq.symm (decide_eq_false ?_))
        intro h; subst h; exact hb rfl
      · refine ⟨i + 1, ⟨by omega, fun j hj => ?_⟩, by omega, [], rfl, rfl, trivial, ?_⟩
        · by_cases hji : j = i
          · subst hji; exact hb
          · exact hall j (by omega)
        · exact ⟨.inl rfl, .inl rfl, .inl rfl, .inl rfl, trivial⟩
      · refine ⟨.inl rfl, ?_⟩
        conv => whnf
        refine ⟨[], ⟨rfl, trivial⟩, ?_, rfl, rfl⟩
        conv => whnf
        left
        conv => lhs; whnf
        refine congrArg AV.bool (Eq.symm (decide_eq_true ?_))
        exact eq_of_getD (by omega) (fun j hj => hall j (by omega))
theorem sub_ints {l : List Int} {i n : Nat} : sub (ints l) i n = ints ((l.drop i).take n) := by simp [sub, ints, List.map_drop, List.map_take]
def RPeriod (xs : List AV) (r : AV) (objs : List AObj) : Prop := ∃ l, xs = [.val (ints l)] ∧ 0 < l.length ∧ l.length ≤ 1000 ∧ r = .int .i64 ((perL l : Nat) : Int) ∧ objs = []
theorem RPeriod_eq {xs : List AV} {l : List Int} (hx : xs = [.val (ints l)]) (h0 : 0 < l.length) (h1 : l.length ≤ 1000) : RPeriod xs (.int .i64 ((perL l : Nat) : Int)) [] := ⟨l, hx, h0, h1, rfl, rfl⟩
theorem perL_at {l : List Int} {n : Nat} (hl : 0 < l.length) (h : Per l n) (hn : ∀ m, m < n → ¬ Per l m) : perL l = n := by
  obtain ⟨h1, h2, h3⟩ := perL_spec hl
  have := h3 n h
  rcases Nat.lt_or_ge (perL l) n with c | c
  · exact absurd h1 (hn _ c)
  · omega
set_option maxHeartbeats 1000000 in
theorem s_impl_period : PureSound Try.prog 129 RPeriod := by
  have hR : Rely Try.prog (ctxOf [(184, .pure REqIntS)]) := rely_cons b_slices_Equal_int_int.has s_slices_EqualI (rely_nil mixed)
  refine pure_of_aw b_impl_period ?_
  rintro xs r objs ⟨l, rfl, h0, h1, rfl, rfl⟩ -
  have hle := length_ints l
  refine ⟨by simp, vc2_sound hR _ _ _ _ _ ?_⟩
  conv => whnf
  repeat' ((first | contradiction | (refine And.intro (fun hb => ?_) (fun hb => ?_) <;> first | contradiction | ((try simp only [SB, reduceCtorEq] at hb); try (exfalso; first | contradiction | omega))) | refine G2 ?_ | rw [ints_at (by omega)] | rw [ints_at0 (by omega)] | rw [ints_at' (by omega) (by omega)] | refine G1 ?_ | fail) <;> conv => whnf)
  refine Lp.intro (α := Nat) (fun n => 1 ≤ n ∧ n ≤ l.length ∧ ∀ m, m < n → ¬ Per l m) (fun n => l.length - n) (fun n => [(0, .val (ints l)), (3, .int .i64 n)]) (fun _ => []) ?_ ?_
  · refine ⟨1, ⟨Nat.le_refl _, h0, fun m hm hp => by have := hp.1; omega⟩, [], rfl, rfl, trivial, ?_⟩
    exact ⟨.inl rfl, .inl rfl, trivial⟩
  rintro n ⟨hn1, hnl, hno⟩
  refine vc2_sound hR _ _ _ _ _ ?_
  by_cases hlt : n < l.length
  · have hmod : Int.tmod (((ints l).length : Nat) : Int) ((n : Nat) : Int) = ((l.length % n : Nat) : Int) := by
      rw [hle]
      exact (Int.ofNat_tmod _ _).symm
    have hlt' : l.length % n < n := Nat.mod_lt _ hn1
    have hEq : ∀ xs, xs = [.val (ints (l.drop n)), .val (ints (l.take (l.length - n)))] → REqIntS xs (.bool (decide (l.drop n = l.take (l.length - n)))) [] := fun xs h => REqIntS_eq h
    have e1 : sub (ints l) ((n : Nat) : Int).toNat ((((ints l).length : Nat) : Int) - ((n : Nat) : Int)).toNat = ints (l.drop n) := by
      rw [sub_ints, hle, Int.toNat_natCast, List.take_of_length_le (by rw [List.length_drop]; omega)]
    have e2 : sub (ints l) (Int.toNat 0) ((((ints l).length : Nat) : Int) - ((n : Nat) : Int) - 0).toNat = ints (l.take (l.length - n)) := by
      rw [sub_ints, hle, show (((l.length : Nat) : Int) - ((n : Nat) : Int) - 0).toNat = l.length - n by omega]
      rfl
    have hskip : ¬ Per l n → ∃ a', (1 ≤ a' ∧ a' ≤ l.length ∧ ∀ m, m < a' → ¬ Per l m) ∧ l.length - a' < l.length - n ∧ a' = n + 1 := fun h => ⟨n + 1, ⟨by omega, hlt, fun m hm => by
      by_cases hmn : m = n
      · subst hmn; exact h
      · exact hno m (by omega)⟩, by omega, rfl⟩
    by_cases hd : l.drop n = l.take (l.length - n)
    · rw [decide_eq_true hd] at hEq
      conv => whnf
      repeat' ((first | contradiction | (refine And.intro (fun hb => ?_) (fun hb => ?_) <;> first | contradiction | ((try simp only [SB, reduceCtorEq] at hb); try (exfalso; first | contradiction | omega))) | rw [hmod] | refine G2 ?_ | rw [ints_at (by omega)] | rw [ints_at0 (by omega)] | rw [ints_at' (by omega) (by omega)] | refine G1 ?_ | refine And.intro ints_w ?_ | refine ⟨_, _, hEq _ (args_cons (congrArg AV.val e1) (args_cons (congrArg AV.val e2) rfl)), ?_⟩ | fail) <;> conv => whnf)
      · rename_i g1 _ _
        refine ⟨.inl rfl, ?_⟩
        conv => whnf
        refine ⟨[], ⟨rfl, trivial⟩, ?_, rfl, rfl⟩
        conv => whnf
        left
        conv => lhs; whnf
        exact congrArg (fun x : Nat => AV.int .i64 x) (perL_at h0 ⟨hn1, by omega, hd⟩ hno).symm
      · obtain ⟨_, g1, g2, rfl⟩ := hskip (fun h => by have := h.2.1; omega)
        refine ⟨n + 1, g1, g2, [], rfl, rfl, trivial, ?_⟩
        exact ⟨.inl rfl, .inl rfl, trivial⟩
    · rw [decide_eq_false hd] at hEq
      conv => whnf
      repeat' ((first | contradiction | (refine And.intro (fun hb => ?_) (fun hb => ?_) <;> first | contradiction | ((try simp only [SB, reduceCtorEq] at hb); try (exfalso; first | contradiction | omega))) | rw [hmod] | refine G2 ?_ | rw [ints_at (by omega)] | rw [ints_at0 (by omega)] | rw [ints_at' (by omega) (by omega)] | refine G1 ?_ | refine And.intro ints_w ?_ | refine ⟨_, _, hEq _ (args_cons (congrArg AV.val e1) (args_cons (congrArg AV.val e2) rfl)), ?_⟩ | fail) <;> conv => whnf)
      all_goals
        obtain ⟨_, g1, g2, rfl⟩ := hskip (fun h => hd h.2.2)
        refine ⟨n + 1, g1, g2, [], rfl, rfl, trivial, ?_⟩
        exact ⟨.inl rfl, .inl rfl, trivial⟩
  · obtain rfl : n = l.length := by omega
    conv => whnf
    repeat' ((first | contradiction | (refine And.intro (fun hb => ?_) (fun hb => ?_) <;> first | contradiction | ((try simp only [SB, reduceCtorEq] at hb); try (exfalso; first | contradiction | omega))) | refine G2 ?_ | rw [ints_at (by omega)] | rw [ints_at0 (by omega)] | rw [ints_at' (by omega) (by omega)] | refine G1 ?_ | fail) <;> conv => whnf)
    refine ⟨.inl rfl, ?_⟩
    conv => whnf
    refine ⟨[], ⟨rfl, trivial⟩, ?_, rfl, rfl⟩
    conv => whnf
    left
    conv => lhs; whnf
    exact congrArg (fun x : Nat => AV.int .i64 x) (hle.trans (perL_at h0 (per_self h0) hno).symm)
theorem RRight_b {xs : List AV} {s l : List Int} {b : Bool} (hx : xs = [wordV s l]) (h : wordOk s l 8 = b) : RRight xs (.bool b) [] := ⟨s, l, hx, by rw [h], rfl⟩
theorem last_ints {l : List Int} {n : Nat} (h : l.length = n) (h0 : 0 < n) : (ints l)[(((n : Nat) : Int) - 1).toNat]? = some [.int .i64 (l.getD (n - 1) 0)] := by
  rw [show (((n : Nat) : Int) - 1).toNat = n - 1 by omega]
  simp [ints, List.getElem?_map, List.getD_eq_getElem?_getD, show n - 1 < l.length by omega]
theorem getLastD_eq {l : List Int} {n : Nat} (h : l.length = n) (h0 : 0 < n) : l.getLastD 0 = l.getD (n - 1) 0 := by
  subst h
  rw [List.getLastD_eq_getLast?, List.getLast?_eq_getElem?, List.getD_eq_getElem?_getD]
theorem drop_last {l : List Int} {n : Nat} (h : l.length = n) (h0 : 0 < n) : l.drop (n - 1) = [l.getD (n - 1) 0] := by
  subst h
  rw [List.drop_eq_getElem_cons (by omega), List.drop_of_length_le (by omega), List.getD_eq_getElem?_getD, List.getElem?_eq_getElem (by omega)]
  rfl
theorem dropLast_eq {l : List Int} {n : Nat} (h : l.length = n) : l.dropLast = l.take (n - 1) := by subst h; exact List.dropLast_eq_take
theorem rollW_yes {s k : List Int} {m p : Nat} (hs : s.length = m + 1) (hk : k.length = p) (hp : 0 < p) (h : s.getD m 0 = k.getD (p - 1) 0) : rollW (m + 1) s k = rollW m (s.take m) (k.drop (p - 1) ++ k.take (p - 1)) := by
  have hne : s ≠ [] := fun h0 => by rw [h0] at hs; cases hs
  have e1 : s.getLastD 0 = s.getD m 0 := getLastD_eq hs (by omega)
  have e2 := getLastD_eq hk hp
  rw [rollW, if_pos ⟨hne, by rw [e1, e2, h]⟩, e2, dropLast_eq hs, dropLast_eq hk, drop_last hk hp]
  rfl
theorem rollW_no {s k : List Int} {m p : Nat} (hs : s.length = m + 1) (hk : k.length = p) (hp : 0 < p) (h : s.getD m 0 ≠ k.getD (p - 1) 0) : rollW (m + 1) s k = (s, k) := by
  have e1 : s.getLastD 0 = s.getD m 0 := getLastD_eq hs (by omega)
  have e2 := getLastD_eq hk hp
  rw [rollW, if_neg (by rintro ⟨_, h2⟩; rw [e1, e2] at h2; exact h h2)]
def RCanonW (xs : List AV) (r : AV) (objs : List AObj) : Prop := ∃ s l, xs = [wordV s l] ∧ wordOk s l 8 = true ∧ r = wordV (canonW s l).1 (canonW s l).2 ∧ objs = []
theorem RCanonW_eq {xs : List AV} {s l : List Int} (hx : xs = [wordV s l]) (h : wordOk s l 8 = true) : RCanonW xs (wordV (canonW s l).1 (canonW s l).2) [] := ⟨s, l, hx, h, rfl, rfl⟩
set_option maxHeartbeats 4000000 in
theorem s_impl_WordCanon : LooseSound Try.prog 49 RCanonW := by
  have hR : Rely Try.prog (ctxOf [(127, .pure RRight), (128, .pure RCloneI), (129, .pure RPeriod), (107, .pure RConcat)]) :=
    rely_cons b_impl_isRight.has s_impl_isRight (rely_cons b_slices_Clone_int_int.has s_slices_CloneI (rely_cons b_impl_period.has s_impl_period (rely_cons b_slices_Concat_int_int.has s_slices_Concat (rely_nil mixed))))
  have hV : CtxNV (ctxOf [(127, .pure RRight), (128, .pure RCloneI), (129, .pure RPeriod), (107, .pure RConcat)]) := nv_pure (nv_pure (nv_pure (nv_pure nvNil)))
  refine loose_of_aw b_impl_WordCanon ?_
  rintro xs r objs ⟨s, l, rfl, hw, rfl, rfl⟩ -
  obtain ⟨_, hs40, hl40, hl0⟩ := let_ok hw
  have hs := length_ints s
  have hl := length_ints l
  obtain ⟨hp1, hp2, hp3⟩ := perL_spec hl0
  have hp0 := hp1.1
  have hPer : ∀ xs, xs = [.val (ints l)] → RPeriod xs (.int .i64 ((perL l : Nat) : Int)) [] := fun xs h => RPeriod_eq h hl0 (by omega)
  generalize hW : canonW s l = W
  unfold canonW at hW
  generalize perL l = p at *
  have e2 : sub (ints l) (Int.toNat 0) (((p : Nat) : Int) - 0).toNat = ints (l.take p) := by
    rw [sub_ints, show (((p : Nat) : Int) - 0).toNat = p by omega]
    rfl
  have hk1 : (l.take p).length = p := by rw [List.length_take]; omega
  refine ⟨by simp, vc3_sound hR hV _ _ _ _ _ ?_⟩
  conv => whnf
  repeat' ((first | contradiction | (refine And.intro (fun hb => ?_) (fun hb => ?_) <;> first | contradiction | ((try simp only [SB, reduceCtorEq] at hb); try (exfalso; first | contradiction | omega))) | refine G2 ?_ | rw [ints_at (by omega)] | rw [ints_at0 (by omega)] | rw [ints_at' (by omega) (by omega)] | refine G1 ?_ | refine ⟨_, _, RRight_b rfl hw, ?_⟩ | refine ⟨_, _, RCloneI_eq (l := s) rfl (by omega), ?_⟩ | refine ⟨_, _, hPer _ rfl, ?_⟩ | refine And.intro ints_w ?_ | refine ⟨_, _, RCloneI_eq (l := l.take p) (args_cons (congrArg AV.val e2) rfl) (by omega), ?_⟩ | fail) <;> conv => whnf)
  refine Lp.intro (α := Nat × List Int) (fun c => c.1 ≤ s.length ∧ c.2.length = p ∧ rollW c.1 (s.take c.1) c.2 = W) (fun c => c.1) (fun c => [(2, .ptr 0 0 0), (3, .val (ints (s.take c.1))), (4, .val (ints c.2)), (5, .int .i64 (((p : Nat) : Int) - 1))]) (fun c => [some (.box [.snil, .snil])]) ?_ ?_
  · refine ⟨(s.length, l.take p), ⟨Nat.le_refl _, hk1, by rw [List.take_length]; exact hW⟩, [some 1], rfl, rfl, ?_, ?_⟩
    · exact And.intro (And.intro (.inl rfl) (And.intro (.inl rfl) trivial)) trivial
    · exact ⟨rfl, .inr ((snap_all rfl hs).trans (by rw [List.take_length])), .inr (snap_all rfl (length_ints _)), .inl (congrArg (AV.int .i64) (by rw [hk1])), trivial⟩
  rintro ⟨m, k⟩ ⟨hm, hk, hr⟩
  dsimp only at hm hk hr ⊢
  have hki := length_ints k
  have hsk := length_ints (s.take m)
  rw [List.length_take, Nat.min_eq_left hm] at hsk
  refine vc3_sound hR hV _ _ _ _ _ ?_
  cases m with
  | zero =>
    conv => whnf
    repeat' ((first | contradiction | (refine And.intro (fun hb => ?_) (fun hb => ?_) <;> first | contradiction | ((try simp only [SB, reduceCtorEq] at hb); try (exfalso; first | contradiction | omega))) | refine G2 ?_ | rw [ints_at (by omega)] | rw [ints_at0 (by omega)] | rw [ints_at' (by omega) (by omega)] | refine G1 ?_ | fail) <;> conv => whnf)
    subst hr
    refine ⟨.inl rfl, ?_⟩
    conv => whnf
    exact ⟨Nat.le_refl 2, [], ⟨rfl, trivial⟩, ⟨.inl rfl, .inl rfl, trivial⟩⟩
  | succ m =>
    have hst : (s.take (m + 1)).length = m + 1 := by rw [List.length_take]; omega
    have hstk : (s.take (m + 1)).take m = s.take m := by rw [List.take_take, Nat.min_eq_left (by omega)]
    have hsm := last_ints hst (by omega)
    have hkm := last_ints hk hp0
    have hyes := rollW_yes hst hk hp0
    have hno := rollW_no hst hk hp0
    rw [Nat.add_sub_cancel] at hsm
    generalize s.take (m + 1) = s1 at *
    rw [show ((m + 1 : Nat) : Int) = (((ints s1).length : Nat) : Int) by rw [hsk]] at hsm
    have e3 : sub (ints s1) (Int.toNat 0) ((((ints s1).length : Nat) : Int) - 1 - 0).toNat = ints (s.take m) := by
      rw [sub_ints, hsk, show (((m + 1 : Nat) : Int) - 1 - 0).toNat = m by omega, ← hstk]
      rfl
    have e4 : sub (ints k) (((p : Nat) : Int) - 1).toNat ((((ints k).length : Nat) : Int) - (((p : Nat) : Int) - 1)).toNat = ints (k.drop (p - 1)) := by
      rw [sub_ints, hki, show (((p : Nat) : Int) - 1).toNat = p - 1 by omega, List.take_of_length_le (by rw [List.length_drop]; omega)]
    have e5 : sub (ints k) (Int.toNat 0) ((((p : Nat) : Int) - 1) - 0).toNat = ints (k.take (p - 1)) := by
      rw [sub_ints, show ((((p : Nat) : Int) - 1) - 0).toNat = p - 1 by omega]
      rfl
    have hrows : [[AV.val (sub (ints k) (((p : Nat) : Int) - 1).toNat ((((ints k).length : Nat) : Int) - (((p : Nat) : Int) - 1)).toNat)], [AV.val (sub (ints k) (Int.toNat 0) ((((p : Nat) : Int) - 1) - 0).toNat)]] = rowsL [k.drop (p - 1), k.take (p - 1)] := by
      rw [e4, e5]; rfl
    have hfl : [k.drop (p - 1), k.take (p - 1)].flatten.length = p := by simp; omega
    conv => whnf
    repeat' ((first | contradiction | (refine And.intro (fun hb => ?_) (fun hb => ?_) <;> first | contradiction | ((try simp only [SB, reduceCtorEq] at hb); try (exfalso; first | contradiction | omega))) | rw [hsm] | rw [hkm] | refine G2 ?_ | rw [ints_at (by omega)] | rw [ints_at0 (by omega)] | rw [ints_at' (by omega) (by omega)] | refine G1 ?_ | refine And.intro ints_w ?_ | refine ⟨_, _, RConcat_eq (Ls := [k.drop (p - 1), k.take (p - 1)]) (args_cons (snap_is rfl hrows rfl) rfl) (by simp) (by simp) (by omega), ?_⟩ | fail) <;> conv => whnf)
    · have hy := hyes (by assumption)
      rw [hstk] at hy
      refine ⟨(m, k.drop (p - 1) ++ k.take (p - 1)), ⟨by dsimp only; omega, by simp; omega, hy.symm.trans hr⟩, by dsimp only; omega, [some 0], rfl, rfl, And.intro (And.intro (.inl rfl) (And.intro (.inl rfl) trivial)) trivial, ?_⟩
      exact ⟨rfl, .inl (congrArg AV.val e3), .inr ((snap_all rfl (length_ints _)).trans (congrArg (fun l => AV.val (ints l)) (by simp))), .inl rfl, trivial⟩
    · rw [hno (by assumption)] at hr
      subst hr
      refine ⟨.inl rfl, ?_⟩
      conv => whnf
      exact ⟨Nat.le_refl 2, [], ⟨rfl, trivial⟩, ⟨.inl rfl, .inl rfl, trivial⟩⟩
def c_impl_AutoTrim : ICode := (.seq (.reg [O1 1 (.box 4) 0, O0 2 (.alc [(.int .i64 0), (.int .i64 0), (.int .i64 0), .snil]), Ol 3 .mv [.c .snil]]) (.seq (.seq (.reg [O1 4 (.ldn 4) 1, O1 5 (.call 70) 4, O1 6 .not 5]) (.cond (.t 6) (.seq (.reg [O0 7 (.bld [(.int .i64 0), (.int .i64 0), (.int .i64 0), .snil] []), S2 (.st 4) 2 7, Ol 3 .mv [.c .snil]]) .ret) .skip)) (.seq (.reg [O1 8 (.fadr 2) 1, O1 9 .ld1 8, O2 10 (.call 112) 1 9, O2 11 (.call 111) 1 10, O1 12 (.ext 0) 11, O1 13 (.ext 1) 11, S2 (.st 4) 2 12, O1 3 .mv 13]) .ret)))
theorem b_impl_AutoTrim : Body Try.prog 48 14 c_impl_AutoTrim [(.cn 2 4), (.t 3)] := body_mk Try.func48 (by kernel_rfl) (by decide)
def c_math_bits_Mul64 : ICode := (.seq (.reg [Ol 4 .mv [.c (.int .u64 0)], Ol 5 .mv [.c (.int .u64 0)]]) (.seq (.reg [O1 14 .mv 0, Ol 15 (.bin .and) [.t 14, .c (.int .u64 4294967295)], O1 6 .mv 15]) (.seq (.reg [O1 16 .mv 0, Ol 17 (.bin .shr) [.t 16, .c (.int .u64 32)], O1 7 .mv 17]) (.seq (.reg [O1 18 .mv 1, Ol 19 (.bin .and) [.t 18, .c (.int .u64 4294967295)], O1 8 .mv 19]) (.seq (.reg [O1 20 .mv 1, Ol 21 (.bin .shr) [.t 20, .c (.int .u64 32)], O1 9 .mv 21]) (.seq (.reg [O1 22 .mv 6, O1 23 .mv 8, O2 24 (.bin .mul) 22 23, O1 10 .mv 24]) (.seq (.reg [O1 25 .mv 7, O1 26 .mv 8, O2 27 (.bin .mul) 25 26, O1 28 .mv 10, Ol 29 (.bin .shr) [.t 28, .c (.int .u64 32)], O2 30 (.bin .add) 27 29, O1 11 .mv 30]) (.seq (.reg [O1 31 .mv 11, Ol 32 (.bin .and) [.t 31, .c (.int .u64 4294967295)], O1 12 .mv 32]) (.seq (.reg [O1 33 .mv 11, Ol 34 (.bin .shr) [.t 33, .c (.int .u64 32)], O1 13 .mv 34]) (.seq (.reg [O1 35 .mv 12, O1 36 .mv 6, O1 37 .mv 9, O2 38 (.bin .mul) 36 37, O2 39 (.bin .add) 35 38, O1 12 .mv 39]) (.seq (.reg [O1 40 .mv 7, O1 41 .mv 9, O2 42 (.bin .mul) 40 41, O1 43 .mv 13, O2 44 (.bin .add) 42 43, O1 45 .mv 12, Ol 46 (.bin .shr) [.t 45, .c (.int .u64 32)], O2 47 (.bin .add) 44 46, O1 4 .mv 47]) (.seq (.reg [O1 48 .mv 0, O1 49 .mv 1, O2 50 (.bin .mul) 48 49, O1 5 .mv 50]) .ret))))))))))))
theorem b_math_bits_Mul64 : Body Try.prog 204 51 c_math_bits_Mul64 [(.t 4), (.t 5)] := body_mk Try.func204 (by kernel_rfl) (by decide)
def c_math_bits_Mul : ICode := (.seq (.reg [Ol 4 .mv [.c (.int .u64 0)], Ol 5 .mv [.c (.int .u64 0)]]) (.seq (.cond (.c (.bool false)) (.seq (.reg [O1 11 .mv 0, O1 12 (.cvt .u32) 11, O1 13 .mv 1, O1 14 (.cvt .u32) 13, O2 15 (.call 203) 12 14, O1 10 .mv 15, O1 16 (.ext 0) 10, O1 17 (.ext 1) 10, O1 6 .mv 16, O1 7 .mv 17]) (.seq (.reg [O1 18 .mv 6, O1 19 (.cvt .u64) 18, O1 20 .mv 7, O1 21 (.cvt .u64) 20, O1 4 .mv 19, O1 5 .mv 21]) .ret)) .skip) (.seq (.reg [O1 23 .mv 0, O1 24 .mv 1, O2 25 (.call 204) 23 24, O1 22 .mv 25, O1 26 (.ext 0) 22, O1 27 (.ext 1) 22, O1 8 .mv 26, O1 9 .mv 27]) (.seq (.reg [O1 28 .mv 8, O1 29 .mv 9, O1 4 .mv 28, O1 5 .mv 29]) .ret))))
theorem b_math_bits_Mul : Body Try.prog 185 30 c_math_bits_Mul [(.t 4), (.t 5)] := body_mk Try.func185 (by kernel_rfl) (by decide)
def c_slices_Repeat_int_int : ICode := (.seq (.reg [Ol 4 .mv [.c .snil]]) (.seq (.seq (.reg [O1 9 .mv 1, Ol 10 (.bin .lss) [.t 9, ci 0]]) (.cond (.t 10) (.reg [O0 11 .no, Sl .no []]) .skip)) (.seq (.reg [O1 13 .mv 0, O1 14 .len 13, O1 15 (.cvt .u64) 14, O1 16 .mv 1, O1 17 (.cvt .u64) 16, O2 18 (.call 185) 15 17, O1 12 .mv 18, O1 19 (.ext 0) 12, O1 20 (.ext 1) 12, O1 5 .mv 19, O1 6 .mv 20]) (.seq (.seq (.reg [O1 21 .mv 5, Ol 22 (.bin .gtr) [.t 21, .c (.int .u64 0)], O1 23 .mv 22, Og 24 .mv [.t 6] 23 false, Og 25 (.bin .gtr) [.t 24, .c (.int .u64 9223372036854775807)] 23 false, Ol 26 .pick [.t 23, cb true, .t 25]]) (.cond (.t 26) (.reg [O0 27 .no, Sl .no []]) .skip)) (.seq (.reg [O1 28 .mv 6, O1 29 (.cvt .i64) 28, O2 30 (.mks 1 8 [(.int .i64 0)]) 29 29, O1 7 .mv 30]) (.seq (.reg [O1 31 .mv 7, O1 32 .mv 0, O2 33 (.cpy 1) 31 32, O1 8 .mv 33]) (.seq (.block 0 (.loop (.seq (.seq (.reg [O1 34 .mv 8, O1 35 .mv 7, O1 36 .len 35, O2 37 (.bin .lss) 34 36]) (.cond (.t 37) .skip (.exit 0))) (.block 1 (.drw [O1 38 .mv 8, O1 39 .mv 7, O1 40 .mv 8, O2 41 (.slc 1 true false) 39 40, O1 42 .mv 7, O1 43 .mv 8, O2 44 (.slc 1 false true) 42 43, O2 45 (.cpy 1) 41 44, O2 46 (.bin .add) 38 45, O1 8 .mv 46] (unB [0, 0, 0, 6, 0, 0, 48, 126, 255, 511] 0) true true))))) (.seq (.reg [O1 47 .mv 7, O1 4 .mv 47]) .ret))))))))
theorem b_slices_Repeat_int_int : Body Try.prog 132 48 c_slices_Repeat_int_int [(.t 4)] := body_mk Try.func132 (by kernel_rfl) (by decide)
def c_impl_rightOr : ICode := (.seq (.reg [O1 2 (.box 2) 0, O0 4 (.alc [.snil, .snil]), Ol 5 .mv [cb false]]) (.seq (.seq (.reg [O1 6 .mv 1, O1 7 .not 6, O1 8 .mv 7, Og 9 (.ldn 2) [.t 2] 8 false, Og 10 (.call 127) [.t 9] 8 false, Og 11 .not [.t 10] 8 false, Ol 12 .pick [.t 8, cb true, .t 11]]) (.cond (.t 12) (.seq (.reg [O0 13 (.bld [.snil, .snil] []), S2 (.st 2) 4 13, Ol 5 .mv [cb false]]) .ret) .skip)) (.seq (.reg [O1 14 (.ldn 2) 2, S2 (.st 2) 4 14, Ol 5 .mv [cb true]]) .ret)))
theorem b_impl_rightOr : Body Try.prog 131 15 c_impl_rightOr [(.cn 4 2), (.t 5)] := body_mk Try.func131 (by kernel_rfl) (by decide)
def c_impl_WordPower : ICode := (.seq (.reg [O1 2 (.box 2) 0, O0 4 (.alc [.snil, .snil]), Ol 5 .mv [cb false]]) (.seq (.seq (.reg [O1 6 .mv 1, Ol 7 (.call 130) [.t 6, ci 1, ci 40], O1 8 .not 7, O1 9 .mv 8, Og 10 (.ldn 2) [.t 2] 9 false, Og 11 (.call 127) [.t 10] 9 false, Og 12 .not [.t 11] 9 false, Ol 13 .pick [.t 9, cb true, .t 12]]) (.cond (.t 13) (.seq (.reg [O0 14 (.bld [.snil, .snil] []), S2 (.st 2) 4 14, Ol 5 .mv [cb false]]) .ret) .skip)) (.seq (.drw [O1 15 (.fadr 0) 2, O1 16 .ld1 15, O1 17 (.call 128) 16, O1 18 (.fadr 1) 2, O1 19 .ld1 18, O1 20 .mv 1, O2 21 (.call 132) 19 20, O2 22 (.bld [.snil, .snil] [(0, 1), (1, 1)]) 17 21, Ol 23 (.call 131) [.t 22, cb true], O1 24 (.ext 0) 23, O1 25 (.ext 1) 23, S2 (.st 2) 4 24, O1 5 .mv 25] (unB [0, 1, 3, 0, 8, 0, 63, 127, 255, 511, 511, 2047, 4095] 0) true true) .ret)))
theorem b_impl_WordPower : Body Try.prog 50 26 c_impl_WordPower [(.cn 4 2), (.t 5)] := body_mk Try.func50 (by kernel_rfl) (by decide)
def c_impl_AutoAll : ICode := (.seq (.reg [O0 2 (.alc [(.int .i64 0), (.int .i64 0), (.int .i64 0), .snil])]) (.seq (.seq (.reg [O1 5 .mv 0, O1 6 (.call 133) 5, O1 7 .not 6]) (.cond (.t 7) (.seq (.reg [O0 8 (.bld [(.int .i64 0), (.int .i64 0), (.int .i64 0), .snil] []), S2 (.st 4) 2 8]) .ret) .skip)) (.seq (.reg [O1 9 .mv 0, Ol 10 (.bld [(.int .i64 0), (.int .i64 0), (.int .i64 0), .snil] [(0, 1), (1, 1), (2, 1)]) [.t 9, ci 1, ci 1], O0 3 (.alc [(.int .i64 0), (.int .i64 0), (.int .i64 0), .snil]), S2 (.st 4) 3 10]) (.seq (.seq (.reg [O1 11 .mv 0, Ol 12 .mv [ci 0]]) (.block 0 (.loop (.seq (.reg [O2 13 (.bin .lss) 12 11]) (.seq (.cond (.t 13) .skip (.exit 0)) (.seq (.block 1 (.seq (.reg [O1 14 .mv 12, O1 4 .mv 14]) (.reg [O1 15 (.fadr 3) 3, O1 16 .ld1 15, O1 17 .mv 4, Ol 18 (.bld [(.int .i64 0), (.int .i64 0), (.int .i64 0), (.bool false)] [(1, 1), (3, 1)]) [.t 17, cb true], O1 19 (.bslv 4) 18, O2 20 (.app 4 32) 16 19, O1 21 (.fadr 3) 3, S2 (.st 1) 21 20]))) (.reg [Ol 22 (.bin .add) [.t 12, ci 1], O1 12 .mv 22]))))))) (.seq (.reg [O1 23 (.ldn 4) 3, S2 (.st 4) 2 23]) .ret)))))
theorem b_impl_AutoAll : Body Try.prog 51 24 c_impl_AutoAll [(.cn 2 4)] := body_mk Try.func51 (by kernel_rfl) (by decide)
def RTrim (xs : List AV) (r : AV) (objs : List AObj) : Prop := ∃ (a : AutoD), xs = [.agg (autoRow a)] ∧ AutoOk a ∧ r = keptR a (trimX a) ∧ objs = keptO a (trimX a)
theorem RTrim_eq {xs : List AV} {a : AutoD} (hx : xs = [.agg (autoRow a)]) (h : AutoOk a) : RTrim xs (keptR a (trimX a)) (keptO a (trimX a)) := ⟨a, hx, h, rfl, rfl⟩
theorem s_impl_AutoTrim : PureSound Try.prog 48 RTrim := by
  have hR : Rely Try.prog (ctxOf [(70, .pure RAutoOk), (112, .pure RReach), (111, .pure RKept)]) :=
    rely_cons b_impl_AutoOk.has s_impl_AutoOk (rely_cons b_impl_Auto_reach.has s_impl_reach (rely_cons b_impl_Auto_kept.has s_impl_kept (rely_nil mixed)))
  refine pure_of_aw b_impl_AutoTrim ?_
  rintro xs r objs ⟨a, rfl, ha, rfl, rfl⟩ -
  refine ⟨by simp, vc2_sound hR _ _ _ _ _ ?_⟩
  have hs := ha.1.2.1
  have hst := ha.1.2.2
  have es : a.start = ((a.start.toNat : Nat) : Int) := by omega
  have hs31 := lt31 ha (start_lt2 ha)
  have hx31 : trimX a < 2 ^ 31 := autoR_lt
  have ha' : decide (AutoOk a) = true := decide_eq_true ha
  conv => whnf
  repeat' ((first | contradiction | (refine And.intro (fun hb => ?_) (fun hb => ?_) <;> first | contradiction | ((try simp only [SB, reduceCtorEq] at hb); try (exfalso; first | contradiction | omega))) | refine G2 ?_ | rw [ints_at (by omega)] | rw [ints_at0 (by omega)] | rw [ints_at' (by omega) (by omega)] | refine G1 ?_ | refine ⟨_, _, RAutoOk_b rfl ha', ?_⟩ | refine ⟨_, _, RReach_eq (congrArg (fun z => [AV.rptr (autoRow a) 0, AV.int .i64 z]) es) ha hs31, ?_⟩ | refine ⟨_, _, RKept_eq (X := trimX a) rfl ha hx31, ?_⟩ | fail) <;> conv => whnf)
  refine ⟨.inl rfl, ?_⟩
  conv => whnf
  exact ⟨by simp, [some 2, some 3], ⟨rfl, And.intro ⟨rfl, rfl⟩ (And.intro ⟨rfl, rfl⟩ trivial)⟩, ⟨⟨.inl rfl, .inl rfl, .inl rfl, rfl, trivial⟩, rfl, trivial⟩, rfl, by simp [keptO, AObj.nov, edgeRows_nov, ints_nov]⟩
theorem and_u64 {X Y : Nat} (hX : X < 2 ^ 63) (hY : Y < 2 ^ 63) : IntKind.u64.wrap (BitVec.ofInt IntKind.u64.bits ((X : Nat) : Int) &&& BitVec.ofInt IntKind.u64.bits ((Y : Nat) : Int)).toNat = ((X &&& Y : Nat) : Int) := by
  have h : (BitVec.ofInt IntKind.u64.bits ((X : Nat) : Int) &&& BitVec.ofInt IntKind.u64.bits ((Y : Nat) : Int)).toNat = X &&& Y := by
    show (BitVec.ofInt 64 _ &&& BitVec.ofInt 64 _).toNat = _
    rw [BitVec.toNat_and, BitVec.ofInt_natCast, BitVec.ofInt_natCast, BitVec.toNat_ofNat, BitVec.toNat_ofNat, Nat.mod_eq_of_lt (by omega), Nat.mod_eq_of_lt (by omega)]
  rw [h]
  have : X &&& Y ≤ X := Nat.and_le_left
  exact IntWalk.u64_in _ (by omega)
theorem and_mask64 {X : Nat} (hX : X < 2 ^ 32) : IntKind.u64.wrap (BitVec.ofInt IntKind.u64.bits ((X : Nat) : Int) &&& BitVec.ofInt IntKind.u64.bits 4294967295).toNat = ((X : Nat) : Int) := by
  have h := and_u64 (X := X) (Y := 4294967295) (by omega) (by omega)
  rw [show X &&& 4294967295 = X by rw [show (4294967295 : Nat) = 2 ^ 32 - 1 by decide, Nat.and_two_pow_sub_one_eq_mod, Nat.mod_eq_of_lt hX]] at h
  exact h
theorem u64_zero {x : Int} (h : x = 0) : IntKind.u64.wrap x = 0 := by rw [h]; decide
def RMul2 (xs : List AV) (r : AV) (objs : List AObj) : Prop := ∃ n : Nat, xs = [.int .u64 ((n : Nat) : Int), .int .u64 2] ∧ n ≤ 1000 ∧ r = .tup [.int .u64 0, .int .u64 ((n : Nat) * 2 : Int)] ∧ objs = []
set_option maxHeartbeats 1000000 in
theorem s_bits_Mul64 : PureSound Try.prog 204 RMul2 := by
  have hR : Rely Try.prog (ctxOf []) := rely_nil mixed
  refine pure_of_aw b_math_bits_Mul64 ?_
  rintro xs r objs ⟨n, rfl, hn, rfl, rfl⟩ -
  have h1 := and_mask64 (X := n) (by omega)
  have h2 : IntKind.u64.wrap (BitVec.ofInt IntKind.u64.bits 2 &&& BitVec.ofInt IntKind.u64.bits 4294967295).toNat = 2 := by decide
  have e0 : (2 : Int) ^ ((32 : Int).toNat.min IntKind.u64.bits) = 4294967296 := by decide
  have e1 : Int.fdiv ((n : Nat) : Int) (2 ^ ((32 : Int).toNat.min IntKind.u64.bits)) = 0 := by rw [e0, Int.fdiv_eq_ediv_of_nonneg _ (by decide)]; omega
  have e2 : Int.fdiv (((n : Nat) : Int) * 2) (2 ^ ((32 : Int).toNat.min IntKind.u64.bits)) = 0 := by rw [e0, Int.fdiv_eq_ediv_of_nonneg _ (by decide)]; omega
  have e3 : Int.fdiv (2 : Int) (2 ^ ((32 : Int).toNat.min IntKind.u64.bits)) = 0 := by decide
  refine ⟨by simp, vc2_sound hR _ _ _ _ _ ?_⟩
  have h0 : IntKind.u64.wrap (BitVec.ofInt IntKind.u64.bits 0 &&& BitVec.ofInt IntKind.u64.bits 4294967295).toNat = 0 := by decide
  have e4 : Int.fdiv (0 : Int) (2 ^ ((32 : Int).toNat.min IntKind.u64.bits)) = 0 := by decide
  have m1 : IntKind.u64.wrap (((n : Nat) : Int) * 2) = ((n : Nat) : Int) * 2 := by
    rw [show ((n : Nat) : Int) * 2 = ((2 * n : Nat) : Int) by omega]
    exact IntWalk.u64_in _ (by omega)
  have m2 : IntKind.u64.wrap (0 * 2) = 0 := by decide
  have m3 : IntKind.u64.wrap (0 + 0) = 0 := by decide
  have m4 : IntKind.u64.wrap (((n : Nat) : Int) * 0) = 0 := u64_zero (by omega)
  have m5 : IntKind.u64.wrap (0 * 0) = 0 := by decide
  conv => whnf
  repeat' ((first | contradiction | (refine And.intro (fun hb => ?_) (fun hb => ?_) <;> first | contradiction | ((try simp only [SB, reduceCtorEq] at hb); try (exfalso; first | contradiction | omega))) | rw [h1] | rw [h2] | rw [h0] | rw [e1] | rw [e2] | rw [e3] | rw [e4] | refine G2 ?_ | rw [ints_at (by omega)] | rw [ints_at0 (by omega)] | rw [ints_at' (by omega) (by omega)] | refine G1 ?_ | refine ⟨_, m1, ?_⟩ | refine ⟨_, m2, ?_⟩ | refine ⟨_, m3, ?_⟩ | refine ⟨_, m4, ?_⟩ | refine ⟨_, m5, ?_⟩ | fail) <;> conv => whnf)
  refine ⟨.inl rfl, ?_⟩
  conv => whnf
  refine ⟨[], ⟨rfl, trivial⟩, ?_, rfl, rfl⟩
  repeat' (first | exact trivial | refine And.intro ?_ ?_)
  all_goals
    conv => whnf
    left
    conv => lhs; whnf
theorem RMul2_mk {n : Nat} (h : n ≤ 1000) : RMul2 [.int .u64 ((n : Nat) : Int), .int .u64 2] (.tup [.int .u64 0, .int .u64 ((n : Nat) * 2 : Int)]) [] := ⟨n, rfl, h, rfl, rfl⟩
theorem s_bits_Mul : PureSound Try.prog 185 RMul2 := by
  have hR : Rely Try.prog (ctxOf [(204, .pure RMul2)]) := rely_cons b_math_bits_Mul64.has s_bits_Mul64 (rely_nil mixed)
  refine pure_of_aw b_math_bits_Mul ?_
  rintro xs r objs ⟨n, rfl, hn, rfl, rfl⟩ -
  refine ⟨by simp, vc2_sound hR _ _ _ _ _ ?_⟩
  conv => whnf
  repeat' ((first | contradiction | (refine And.intro (fun hb => ?_) (fun hb => ?_) <;> first | contradiction | ((try simp only [SB, reduceCtorEq] at hb); try (exfalso; first | contradiction | omega))) | refine G2 ?_ | rw [ints_at (by omega)] | rw [ints_at0 (by omega)] | rw [ints_at' (by omega) (by omega)] | refine G1 ?_ | refine ⟨_, _, RMul2_mk hn, ?_⟩ | fail) <;> conv => whnf)
  refine ⟨.inl rfl, ?_⟩
  conv => whnf
  refine ⟨[], ⟨rfl, trivial⟩, ?_, rfl, rfl⟩
  repeat' (first | exact trivial | refine And.intro ?_ ?_)
  all_goals
    conv => whnf
    left
    conv => lhs; whnf
theorem rowsT_is {h : Heap} {x : AV} {rows : List (List AV)} (e : rowsOf h x = some rows) : rowsOf h x = some rows := e
theorem rowsT_ref {h : Heap} {id off len z : Nat} {rows : List (List AV)} (ho : h id = some (.arr z rows)) (hl : off + len ≤ rows.length) : rowsOf h (.ref id off len) = some (sub rows off len) := by simp [rowsOf, ho, hl]
def RTwice (xs : List AV) (r : AV) (objs : List AObj) : Prop := ∃ l : List Int, xs = [.val (ints l), .int .i64 2] ∧ 0 < l.length ∧ l.length ≤ 1000 ∧ r = .ref 0 0 (l ++ l).length ∧ objs = [.arr 1 (ints (l ++ l))]
theorem RTwice_mk {l : List Int} (h : 0 < l.length) (h1 : l.length ≤ 1000) : RTwice [.val (ints l), .int .i64 2] (.ref 0 0 (l ++ l).length) [.arr 1 (ints (l ++ l))] := ⟨l, rfl, h, h1, rfl, rfl⟩
set_option maxHeartbeats 2000000 in
theorem s_slices_Repeat : PureSound Try.prog 132 RTwice := by
  have hR : Rely Try.prog (ctxOf [(185, .pure RMul2)]) := rely_cons b_math_bits_Mul.has s_bits_Mul (rely_nil mixed)
  refine pure_of_aw b_slices_Repeat_int_int ?_
  rintro xs r objs ⟨l, rfl, h0, h1, rfl, rfl⟩ -
  have hl := length_ints l
  have hc : IntKind.u64.wrap (((ints l).length : Nat) : Int) = ((l.length : Nat) : Int) := by rw [hl]; exact IntWalk.u64_in _ (by omega)
  have hc2 : IntKind.u64.wrap 2 = 2 := by decide
  refine ⟨by simp, vc2_sound hR _ _ _ _ _ ?_⟩
  have hN : (((l.length : Nat) : Int) * 2).toNat = l.length + l.length := by omega
  have c1 : 0 + (((l.length : Nat) : Int) * 2).toNat ≤ (List.replicate (((l.length : Nat) : Int) * 2).toNat [AV.int IntKind.i64 0]).length := by simp
  have c2 : (ints l).length ≤ (((l.length : Nat) : Int) * 2).toNat := by omega
  have c3 : ∀ r ∈ ints l, r.length = 1 := ints_w
  conv => whnf
  repeat' ((first | contradiction | (refine And.intro (fun hb => ?_) (fun hb => ?_) <;> first | contradiction | ((try simp only [SB, reduceCtorEq] at hb); try (exfalso; first | contradiction | omega))) | refine G2 ?_ | rw [ints_at (by omega)] | rw [ints_at0 (by omega)] | rw [ints_at' (by omega) (by omega)] | refine G1 ?_ | refine ⟨_, hc, ?_⟩ | refine ⟨_, hc2, ?_⟩ | refine ⟨_, _, RMul2_mk (n := l.length) h1, ?_⟩ | refine ⟨c1, c2, c3, ?_⟩ | fail) <;> conv => whnf)
  refine Lp.intro (α := Nat) (fun m => m = l.length ∨ m = l.length + l.length) (fun m => l.length + l.length - m) (fun m => [(7, .ref 0 0 (l.length + l.length)), (8, .int .i64 ((m : Nat) : Int))]) (fun m => [some (.arr 1 (ints (l ++ if m = l.length then List.replicate l.length 0 else l)))]) ?_ ?_
  · refine ⟨l.length, .inl rfl, [some 0], rfl, rfl, And.intro ⟨rfl, ?_⟩ trivial, ?_⟩
    · rw [hN, if_pos rfl]
      simp [ints]
    · exact ⟨congrArg (AV.ref 0 0) hN, .inl (congrArg (fun x : Nat => AV.int .i64 x) hl), trivial⟩
  rintro m (rfl | rfl)
  · rw [if_pos rfl]
    refine vc2_sound hR _ _ _ _ _ ?_
    have hRl : (ints (l ++ List.replicate l.length 0)).length = l.length + l.length := by simp [ints]
    have hsub : sub (ints (l ++ List.replicate l.length 0)) (0 + Int.toNat 0) (((l.length : Nat) : Int) - 0).toNat = ints l := by
      rw [sub_ints, show (((l.length : Nat) : Int) - 0).toNat = l.length by omega]
      simp
    have hend : ∀ k, k = l.length → (ints (l ++ List.replicate l.length 0)).take k ++ ints l ++ (ints (l ++ List.replicate l.length 0)).drop (k + (ints l).length) = ints (l ++ l) := by
      rintro k rfl
      simp [ints]
    generalize ints (l ++ List.replicate l.length 0) = T at *
    have d1 : 0 + (((l.length : Nat) : Int)).toNat + (((l.length + l.length : Nat) : Int) - ((l.length : Nat) : Int)).toNat ≤ T.length := by omega
    have d2 : (ints l).length ≤ (((l.length + l.length : Nat) : Int) - ((l.length : Nat) : Int)).toNat := by omega
    conv => whnf
    repeat' ((first | contradiction | (refine And.intro (fun hb => ?_) (fun hb => ?_) <;> first | contradiction | ((try simp only [SB, reduceCtorEq] at hb); try (exfalso; first | contradiction | omega))) | rw [hsub] | refine G2 ?_ | rw [ints_at (by omega)] | rw [ints_at0 (by omega)] | rw [ints_at' (by omega) (by omega)] | refine G1 ?_ | ((rw [rowsT_is ?e]; case e => exact rowsT_ref (z := 1) (rows := T) rfl (by omega))) | refine ⟨rfl, d1, d2, c3, ?_⟩ | fail) <;> conv => whnf)
    refine ⟨l.length + l.length, .inr rfl, by omega, [some 0], rfl, rfl, And.intro ⟨rfl, ?_⟩ trivial, ?_⟩
    · rw [if_neg (by omega)]
      exact hend _ (by omega)
    · exact ⟨rfl, .inl (congrArg (AV.int .i64) (by omega)), trivial⟩
  · rw [if_neg (by omega)]
    refine vc2_sound hR _ _ _ _ _ ?_
    conv => whnf
    repeat' ((first | contradiction | (refine And.intro (fun hb => ?_) (fun hb => ?_) <;> first | contradiction | ((try simp only [SB, reduceCtorEq] at hb); try (exfalso; first | contradiction | omega))) | refine G2 ?_ | rw [ints_at (by omega)] | rw [ints_at0 (by omega)] | rw [ints_at' (by omega) (by omega)] | refine G1 ?_ | fail) <;> conv => whnf)
    refine ⟨.inl rfl, ?_⟩
    conv => whnf
    exact ⟨[some 0], ⟨rfl, And.intro ⟨rfl, rfl⟩ trivial⟩, congrArg (AV.ref 0 0) (by simp), rfl, by simp [AObj.nov, ints_nov]⟩
def rightR (s l : List Int) : AV := if wordOk s l 8 = true then .tup [wordV s l, .bool true] else .tup [.agg [.snil, .snil], .bool false]
def RRightOr (xs : List AV) (r : AV) (objs : List AObj) : Prop := ∃ s l, xs = [wordV s l, .bool true] ∧ r = rightR s l ∧ objs = []
theorem RRightOr_eq {xs : List AV} {s l : List Int} (hx : xs = [wordV s l, .bool true]) : RRightOr xs (rightR s l) [] := ⟨s, l, hx, rfl, rfl⟩
theorem s_impl_rightOr : LooseSound Try.prog 131 RRightOr := by
  have hR : Rely Try.prog (ctxOf [(127, .pure RRight)]) := rely_cons b_impl_isRight.has s_impl_isRight (rely_nil mixed)
  refine loose_of_aw b_impl_rightOr ?_
  rintro xs r objs ⟨s, l, rfl, rfl, rfl⟩ -
  refine ⟨by simp, vc2_sound hR _ _ _ _ _ ?_⟩
  unfold rightR
  cases hw : wordOk s l 8 with
  | true =>
    conv => whnf
    repeat' ((first | contradiction | (refine And.intro (fun hb => ?_) (fun hb => ?_) <;> first | contradiction | ((try simp only [SB, reduceCtorEq] at hb); try (exfalso; first | contradiction | omega))) | refine G2 ?_ | rw [ints_at (by omega)] | rw [ints_at0 (by omega)] | rw [ints_at' (by omega) (by omega)] | refine G1 ?_ | refine ⟨_, _, RRight_b (s := s) (l := l) rfl hw, ?_⟩ | fail) <;> conv => whnf)
    refine ⟨.inl rfl, ?_⟩
    conv => whnf
    exact ⟨by simp, [], ⟨rfl, trivial⟩, ⟨⟨.inl rfl, .inl rfl, trivial⟩, .inl rfl, trivial⟩⟩
  | false =>
    conv => whnf
    repeat' ((first | contradiction | (refine And.intro (fun hb => ?_) (fun hb => ?_) <;> first | contradiction | ((try simp only [SB, reduceCtorEq] at hb); try (exfalso; first | contradiction | omega))) | refine G2 ?_ | rw [ints_at (by omega)] | rw [ints_at0 (by omega)] | rw [ints_at' (by omega) (by omega)] | refine G1 ?_ | refine ⟨_, _, RRight_b (s := s) (l := l) rfl hw, ?_⟩ | fail) <;> conv => whnf)
    refine ⟨.inl rfl, ?_⟩
    conv => whnf
    exact ⟨by simp, [], ⟨rfl, trivial⟩, ⟨⟨.inl rfl, .inl rfl, trivial⟩, .inl rfl, trivial⟩⟩
def powerR (s l : List Int) : AV := if wordOk s l 8 = true then .tup [wordV s l, .bool true] else .tup [wordV [] [], .bool false]
def RPower2 (xs : List AV) (r : AV) (objs : List AObj) : Prop := ∃ s l, xs = [wordV s l, .int .i64 2] ∧ wordOk s l 8 = true ∧ r = powerR s (l ++ l) ∧ objs = []
theorem RPower2_eq {xs : List AV} {s l : List Int} (hx : xs = [wordV s l, .int .i64 2]) (h : wordOk s l 8 = true) : RPower2 xs (powerR s (l ++ l)) [] := ⟨s, l, hx, h, rfl, rfl⟩
set_option maxHeartbeats 2000000 in
theorem s_impl_WordPower : LooseSound Try.prog 50 RPower2 := by
  have hR : Rely Try.prog (ctxOf [(130, .pure RIn), (127, .pure RRight), (128, .pure RCloneI), (132, .pure RTwice), (131, .loose RRightOr)]) :=
    rely_cons b_impl_inRange.has s_impl_inRange (rely_cons b_impl_isRight.has s_impl_isRight (rely_cons b_slices_Clone_int_int.has s_slices_CloneI (rely_cons b_slices_Repeat_int_int.has s_slices_Repeat (rely_cons b_impl_rightOr.has s_impl_rightOr (rely_nil mixed)))))
  refine loose_of_aw b_impl_WordPower ?_
  rintro xs r objs ⟨s, l, rfl, hw, rfl, rfl⟩ -
  obtain ⟨h0, h1, h2, h4, h5⟩ := wordOk_un hw
  refine ⟨by simp, vc2_sound hR _ _ _ _ _ ?_⟩
  have hrr : ∀ xs, xs = [wordV s (l ++ l), .bool true] → RRightOr xs (rightR s (l ++ l)) [] := fun xs h => RRightOr_eq h
  unfold rightR at hrr
  unfold powerR
  have hsi : (ints s).length = s.length := length_ints s
  have hli : (ints (l ++ l)).length = (l ++ l).length := length_ints _
  cases h8 : wordOk s (l ++ l) 8 with
  | true =>
    rw [if_pos h8] at hrr
    conv => whnf
    repeat' ((first | contradiction | (refine And.intro (fun hb => ?_) (fun hb => ?_) <;> first | contradiction | ((try simp only [SB, reduceCtorEq] at hb); try (exfalso; first | contradiction | omega))) | rw [snapT_ints hsi] | rw [snapT_ints hli] | refine G2 ?_ | rw [ints_at (by omega)] | rw [ints_at0 (by omega)] | rw [ints_at' (by omega) (by omega)] | refine G1 ?_ | refine ⟨_, _, RIn_mk, ?_⟩ | refine ⟨_, _, RRight_b (s := s) (l := l) rfl hw, ?_⟩ | refine ⟨_, _, RCloneI_eq (l := s) rfl (by omega), ?_⟩ | refine ⟨_, _, RTwice_mk (l := l) (by omega) (by omega), ?_⟩ | refine ⟨_, _, hrr _ rfl, ?_⟩ | fail) <;> conv => whnf)
    refine ⟨.inl rfl, ?_⟩
    conv => whnf
    exact ⟨by simp, [], ⟨rfl, trivial⟩, ⟨⟨.inl rfl, .inl rfl, trivial⟩, .inl rfl, trivial⟩⟩
  | false =>
    rw [if_neg (by rw [h8]; decide)] at hrr
    conv => whnf
    repeat' ((first | contradiction | (refine And.intro (fun hb => ?_) (fun hb => ?_) <;> first | contradiction | ((try simp only [SB, reduceCtorEq] at hb); try (exfalso; first | contradiction | omega))) | rw [snapT_ints hsi] | rw [snapT_ints hli] | refine G2 ?_ | rw [ints_at (by omega)] | rw [ints_at0 (by omega)] | rw [ints_at' (by omega) (by omega)] | refine G1 ?_ | refine ⟨_, _, RIn_mk, ?_⟩ | refine ⟨_, _, RRight_b (s := s) (l := l) rfl hw, ?_⟩ | refine ⟨_, _, RCloneI_eq (l := s) rfl (by omega), ?_⟩ | refine ⟨_, _, RTwice_mk (l := l) (by omega) (by omega), ?_⟩ | refine ⟨_, _, hrr _ rfl, ?_⟩ | fail) <;> conv => whnf)
    refine ⟨.inl rfl, ?_⟩
    conv => whnf
    exact ⟨by simp, [], ⟨rfl, trivial⟩, ⟨⟨.inl rfl, .inl rfl, trivial⟩, .inl rfl, trivial⟩⟩
def RAllA (xs : List AV) (r : AV) (objs : List AObj) : Prop := ∃ n : Int, xs = [.int .i64 n] ∧ (1 ≤ n ∧ n ≤ 8) ∧ r = .agg (autoRef 0 (allD n)) ∧ objs = [.arr 4 (edgeRows (allD n).edges)]
theorem RAllA_eq {xs : List AV} {n : Int} (hx : xs = [.int .i64 n]) (h : 1 ≤ n ∧ n ≤ 8) : RAllA xs (.agg (autoRef 0 (allD n))) [.arr 4 (edgeRows (allD n).edges)] := ⟨n, hx, h, rfl, rfl⟩
theorem all_app {i : Nat} {x : Int} (h : x = ((i : Nat) : Int)) : List.take i (edgeRows (allEs i)) ++ [[.int .i64 0, .int .i64 x, .int .i64 0, .bool true]] = edgeRows (allEs (i + 1)) := by
  subst h
  rw [List.take_of_length_le (by rw [length_edgeRows, length_allEs]; exact Nat.le_refl _), allEs_succ]
  simp [edgeRows, edgeRow]
set_option maxHeartbeats 2000000 in
theorem s_impl_AutoAll : PureSound Try.prog 51 RAllA := by
  have hR : Rely Try.prog (ctxOf [(133, .pure RIsLetters)]) := rely_cons b_impl_isLetters.has s_impl_isLetters (rely_nil mixed)
  refine pure_of_aw b_impl_AutoAll ?_
  rintro xs r objs ⟨n, rfl, hn, rfl, rfl⟩ -
  refine ⟨by simp, vc2_sound hR _ _ _ _ _ ?_⟩
  conv => whnf
  repeat' ((first | contradiction | (refine And.intro (fun hb => ?_) (fun hb => ?_) <;> first | contradiction | ((try simp only [SB, reduceCtorEq] at hb); try (exfalso; first | contradiction | omega))) | refine G2 ?_ | rw [ints_at (by omega)] | rw [ints_at0 (by omega)] | rw [ints_at' (by omega) (by omega)] | refine G1 ?_ | refine ⟨_, _, ⟨n, rfl, rfl, rfl⟩, ?_⟩ | fail) <;> conv => whnf)
  refine Lp.intro (α := Nat) (fun i => i ≤ n.toNat) (fun i => n.toNat - i) (fun i => [(2, .ptr 0 0 0), (3, .ptr 1 0 0), (11, .int .i64 n), (12, .int .i64 ((i : Nat) : Int))])
    (fun i => [some (.box [.int .i64 0, .int .i64 0, .int .i64 0, .snil]), some (.box [.int .i64 n, .int .i64 1, .int .i64 1, .ref 2 0 i]), some (.arr 4 (edgeRows (allEs i)))]) ?_ ?_
  · refine ⟨0, Nat.zero_le _, [some 0, some 1, none], rfl, rfl, And.intro ⟨.inl rfl, .inl rfl, .inl rfl, .inl rfl, trivial⟩ (And.intro ⟨.inl rfl, .inl rfl, .inl rfl, ⟨rfl, rfl, rfl⟩, trivial⟩ (And.intro rfl trivial)), ?_⟩
    repeat' (first
      | exact trivial
      | refine ⟨?_, ?_⟩
      | fail)
    all_goals first
      | with_reducible rfl
      | (conv => whnf
         try left
         conv => lhs; whnf
         first
           | rfl
           | exact congrArg (AV.int .i64) (by omega)
           | skip)
  intro i hi
  have hel := length_edgeRows (allEs i)
  rw [length_allEs] at hel
  refine vc2_sound hR _ _ _ _ _ ?_
  by_cases hlt : i < n.toNat
  · conv => whnf
    repeat' ((first | contradiction | (refine And.intro (fun hb => ?_) (fun hb => ?_) <;> first | contradiction | ((try simp only [SB, reduceCtorEq] at hb); try (exfalso; first | contradiction | omega))) | refine G2 ?_ | rw [ints_at (by omega)] | rw [ints_at0 (by omega)] | rw [ints_at' (by omega) (by omega)] | refine G1 ?_ | fail) <;> conv => whnf)
    refine ⟨i + 1, hlt, by omega, [some 0, some 1, some 3], rfl, rfl, And.intro ⟨.inl rfl, .inl rfl, .inl rfl, .inl rfl, trivial⟩ (And.intro ⟨.inl rfl, .inl rfl, .inl rfl, rfl, trivial⟩ (And.intro ⟨rfl, all_app rfl⟩ trivial)), ?_⟩
    repeat' (first
      | exact trivial
      | refine ⟨?_, ?_⟩
      | fail)
    all_goals first
      | with_reducible rfl
      | (conv => whnf
         try left
         conv => lhs; whnf
         first
           | rfl
           | exact congrArg (AV.int .i64) (by omega)
           | skip)
  · obtain rfl : i = n.toNat := by omega
    conv => whnf
    repeat' ((first | contradiction | (refine And.intro (fun hb => ?_) (fun hb => ?_) <;> first | contradiction | ((try simp only [SB, reduceCtorEq] at hb); try (exfalso; first | contradiction | omega))) | refine G2 ?_ | rw [ints_at (by omega)] | rw [ints_at0 (by omega)] | rw [ints_at' (by omega) (by omega)] | refine G1 ?_ | fail) <;> conv => whnf)
    refine ⟨.inl rfl, ?_⟩
    conv => whnf
    exact ⟨by simp, [some 2], ⟨rfl, And.intro ⟨rfl, rfl⟩ trivial⟩, ⟨.inl rfl, .inl rfl, .inl rfl, congrArg (AV.ref 2 0) (length_allEs _).symm, trivial⟩, rfl, by simp [AObj.nov, edgeRows_nov]⟩
end Go.Proofs.Ythanhknkoikbfaa.Ct
namespace Go.Proofs.Ythanhknkoikbfaa.Ct
open Go Go.Proofs Go.Proofs.Ythanhknkoikbfaa.Av
theorem byte_le (b : UInt8) : b.toNat ≤ 255 := by
  have := UInt8.toNat_lt b
  omega
theorem byte_at {s : List UInt8} {i : Nat} (h : i < s.length) : (s.map byteRow)[((i : Nat) : Int).toNat]? = some [.int .u8 (s.getD i 0).toNat] := by
  simp [byteRow, List.getElem?_eq_getElem h, List.getD_eq_getElem?_getD]
def readR (w : List Int × List Int × Bool) : AV := .tup [.agg [.ref 0 0 w.1.length, .ref 1 0 w.2.1.length], .bool w.2.2]
def readO (w : List Int × List Int × Bool) : List AObj := [.arr 1 (ints w.1), .arr 1 (ints w.2.1)]
theorem app_step (l : List Int) (x : Int) (i : Nat) (h : i = l.length) : List.take i (ints l) ++ [[.int .i64 x]] = ints (l ++ [x]) := by
  rw [List.take_of_length_le (by simp [ints]; omega)]
  simp [ints]
def c_spec_l3Told : ICode := (.seq (.reg [O1 1 (.box 2) 0, O0 2 (.alc [.snil, .snil]), Ol 3 .mv [cb false]]) (.seq (.seq (.reg [O1 4 (.ldn 2) 1, O1 5 (.call 206) 4, O1 6 .not 5]) (.cond (.t 6) (.seq (.reg [O0 7 (.bld [.snil, .snil] []), S2 (.st 2) 2 7, Ol 3 .mv [cb false]]) .ret) .skip)) (.seq (.reg [O1 8 (.ldn 2) 1, S2 (.st 2) 2 8, Ol 3 .mv [cb true]]) .ret)))
theorem b_spec_l3Told : Body Try.prog 207 9 c_spec_l3Told [(.cn 2 2), (.t 3)] := body_mk Try.func207 (by kernel_rfl) (by decide)
theorem RRight_eq {xs : List AV} {s l : List Int} (h : xs = [word s l]) : RRight xs (.bool (wordOk s l 8)) [] := ⟨s, l, h, rfl, rfl⟩
theorem wordOk_parts {s l : List Int} {n : Int} (h : wordOk s l n = true) : s.length ≤ 40 ∧ 1 ≤ l.length ∧ l.length ≤ 40 ∧ lettersB s n = true ∧ lettersB l n = true := by
  simp [wordOk] at h
  exact ⟨h.1.1.1.2, h.1.1.2.1, h.1.1.2.2, h.1.2, h.2⟩
def wordBack (a b : List Int) (ok : Bool) : List Int × List Int × Bool := if ok && wordOk a b 8 then (a, b, true) else ([], [], false)
def GTold : GFun := fun xs objs Q => ∃ a b, xs = [.agg [.ref 0 0 (List.length a), .ref 1 0 (List.length b)]] ∧ objs = [.arr 1 (ints a), .arr 1 (ints b)] ∧
  (wordOk a b 8 = true → Q (.tup [.agg [.ref 0 0 a.length, .ref 1 0 b.length], .bool true]) [some (.arr 1 (ints a)), some (.arr 1 (ints b))]) ∧
  (wordOk a b 8 = false → Q (.tup [.agg [.snil, .snil], .bool false]) [some (.arr 1 (ints a)), some (.arr 1 (ints b))])
theorem GTold_mk {a b : List Int} {Q : AV → List (Option AObj) → Prop}
    (h1 : wordOk a b 8 = true → Q (.tup [.agg [.ref 0 0 a.length, .ref 1 0 b.length], .bool true]) [some (.arr 1 (ints a)), some (.arr 1 (ints b))])
    (h2 : wordOk a b 8 = false → Q (.tup [.agg [.snil, .snil], .bool false]) [some (.arr 1 (ints a)), some (.arr 1 (ints b))]) :
    GTold [.agg [.ref 0 0 a.length, .ref 1 0 b.length]] [.arr 1 (ints a), .arr 1 (ints b)] Q := ⟨a, b, rfl, rfl, h1, h2⟩
theorem s_spec_l3Told : GenSound Try.prog 207 2 GTold := by
  have hR : Rely Try.prog (ctxOf [(206, .pure RRight)]) := rely_cons b_spec_l3Right.has s_spec_l3Right (rely_nil mixed)
  refine gen_of_aw b_spec_l3Told ?_
  rintro xs objs Q - ⟨a, b, rfl, rfl, h1, h2⟩ -
  refine ⟨by simp, vc2_sound hR _ _ _ _ _ ?_⟩
  conv => whnf
  repeat' ((first | contradiction | (refine And.intro (fun hb => ?_) (fun hb => ?_) <;> first | contradiction | ((try simp only [SB, reduceCtorEq] at hb); try (exfalso; first | contradiction | omega))) | refine G2 ?_ | rw [ints_at (by omega)] | rw [ints_at0 (by omega)] | rw [ints_at' (by omega) (by omega)] | refine G1 ?_ | fail) <;> conv => whnf)
  refine ⟨_, _, RRight_eq (s := a) (l := b) (by repeat' (first | exact rfl | refine args_cons ?_ ?_ | refine snap_agg ?_ | refine cells_cons ?_ ?_ | exact snap1_all rfl (by first | (simp only [length_ints]; done) | (simp only [length_nodeRows]; done) | simp [ints, marks]) | exact snap_all rfl (by first | (simp only [length_ints]; done) | (simp only [length_nodeRows]; done) | simp [ints, marks]) | exact snap1_all2 rfl (by first | (simp only [length_ints]; done) | (simp only [length_nodeRows]; done) | simp [ints, marks]) | fail)), ?_⟩
  conv => whnf
  repeat' ((first | contradiction | (refine And.intro (fun hb => ?_) (fun hb => ?_) <;> first | contradiction | ((try simp only [SB, reduceCtorEq] at hb); try (exfalso; first | contradiction | omega))) | refine G2 ?_ | rw [ints_at (by omega)] | rw [ints_at0 (by omega)] | rw [ints_at' (by omega) (by omega)] | refine G1 ?_ | fail) <;> conv => whnf)
  · refine ⟨.inl rfl, ?_⟩
    conv => whnf
    refine And.intro (Nat.le_of_ble_eq_true rfl) ?_
    conv => whnf
    exact ⟨[some 0, some 1], .tup [.agg [.ref 0 0 a.length, .ref 1 0 b.length], .bool true], [some (.arr 1 (ints a)), some (.arr 1 (ints b))], ⟨rfl, And.intro (And.intro rfl rfl) (And.intro (And.intro rfl rfl) trivial)⟩,
      And.intro (And.intro rfl (And.intro rfl trivial)) (And.intro (.inl rfl) trivial), rfl, h1 (by assumption)⟩
  · refine ⟨.inl rfl, ?_⟩
    conv => whnf
    refine And.intro (Nat.le_of_ble_eq_true rfl) ?_
    conv => whnf
    exact ⟨[some 0, some 1], .tup [.agg [.snil, .snil], .bool false], [some (.arr 1 (ints a)), some (.arr 1 (ints b))], ⟨rfl, And.intro (And.intro rfl rfl) (And.intro (And.intro rfl rfl) trivial)⟩,
      And.intro (And.intro (.inl rfl) (And.intro (.inl rfl) trivial)) (And.intro (.inl rfl) trivial), rfl, h2 (by assumption)⟩
abbrev curO (code : List UInt8) (i : Nat) (h : Int) : AObj := .box [.val (code.map byteRow), .int .i64 i, .int .i64 h]
theorem and_255 (a : Int) : 0 ≤ IntKind.i64.wrap (BitVec.ofInt IntKind.i64.bits a &&& BitVec.ofInt IntKind.i64.bits 255).toNat ∧
    IntKind.i64.wrap (BitVec.ofInt IntKind.i64.bits a &&& BitVec.ofInt IntKind.i64.bits 255).toNat ≤ 255 := by
  have hb : IntKind.i64.bits = 64 := rfl
  rw [hb, BitVec.toNat_and]
  have h255 : (BitVec.ofInt 64 255).toNat = 255 := by decide
  rw [h255]
  have : (BitVec.ofInt 64 a).toNat &&& 255 ≤ 255 := Nat.and_le_right
  rw [IntWalk.i64_in _ (by omega)]
  omega
def c_spec_l1New : ICode := (.seq (.reg [Ol 2 .mv [.c .pnil]]) (.seq (.reg [O1 5 .mv 0, O1 6 .len 5, Ol 7 (.bin .add) [ci 10277, .t 6], O1 3 .mv 7]) (.seq (.seq (.reg [Ol 4 .mv [ci 0]]) (.block 0 (.loop (.seq (.seq (.reg [O1 8 .mv 4, O1 9 .mv 0, O1 10 .len 9, O2 11 (.bin .lss) 8 10, O1 12 .mv 11, Og 13 .mv [.t 4] 12 true, Og 14 (.bin .lss) [.t 13, ci 4000] 12 true, Ol 15 .pick [.t 12, .t 14, cb false]]) (.cond (.t 15) .skip (.exit 0))) (.seq (.block 1 (.reg [O1 18 .mv 3, Ol 19 (.bin .mul) [.t 18, ci 131], O1 20 .mv 0, O1 21 .mv 4, O2 22 (.iadr 1) 20 21, O1 23 .ld1 22, O1 24 (.cvt .i64) 23, O2 25 (.bin .add) 19 24, Ol 26 (.bin .add) [.t 25, ci 7], Ol 27 (.bin .and) [.t 26, ci 1073741823], O1 3 .mv 27])) (.reg [O1 16 .mv 4, Ol 17 (.bin .add) [.t 16, ci 1], O1 4 .mv 17])))))) (.seq (.reg [O1 28 .mv 0, O1 29 .mv 3, O2 30 (.bld [.snil, (.int .i64 0), (.int .i64 0)] [(0, 1), (2, 1)]) 28 29, O1 31 (.box 3) 30, O1 2 .mv 31]) .ret))))
theorem b_spec_l1New : Body Try.prog 110 32 c_spec_l1New [(.t 2)] := body_mk Try.func110 (by kernel_rfl) (by decide)
def c_spec_l1Byte : ICode := (.seq (.reg [Ol 2 .mv [ci 0]]) (.seq (.reg [O1 4 .mv 0, O1 5 .mv 0, O1 6 .nck 5, O1 7 (.fadr 2) 6, O1 8 .ld1 7, Ol 9 (.bin .mul) [.t 8, ci 6364136223846793005], Ol 10 (.bin .add) [.t 9, ci 1442695040888963407], O1 11 .nck 4, O1 12 (.fadr 2) 11, S2 (.st 1) 12 10]) (.seq (.drw [O1 13 .mv 0, O1 14 .nck 13, O1 15 (.fadr 2) 14, O1 16 .ld1 15, Ol 17 (.bin .shr) [.t 16, .c (.int .u64 33)], O1 18 .mv 0, O1 19 .nck 18, O1 20 (.fadr 2) 19, O1 21 .ld1 20, Ol 22 (.bin .shr) [.t 21, .c (.int .u64 45)], O2 23 (.bin .xor) 17 22, Ol 24 (.bin .and) [.t 23, ci 255], O1 3 .mv 24] (unB [0, 1, 3, 7, 15, 0, 32, 96, 224, 480, 1023, 2047, 4095] 0) true true) (.seq (.seq (.drw [O1 25 .mv 0, O1 26 .nck 25, O1 27 (.fadr 1) 26, O1 28 .ld1 27, O1 29 .mv 0, O1 30 .nck 29, O1 31 (.fadr 0) 30, O1 32 .ld1 31, O1 33 .len 32, O2 34 (.bin .lss) 28 33] (unB [0, 1, 3, 7, 0, 16, 48, 112, 240, 511] 0) true true) (.cond (.t 34) (.seq (.drw [O1 35 .mv 3, O1 36 .mv 0, O1 37 .nck 36, O1 38 (.fadr 0) 37, O1 39 .ld1 38, O1 40 .mv 0, O1 41 .nck 40, O1 42 (.fadr 1) 41, O1 43 .ld1 42, O2 44 (.iadr 1) 39 43, O1 45 .ld1 44, O1 46 (.cvt .i64) 45, O2 47 (.bin .add) 35 46, Ol 48 (.bin .and) [.t 47, ci 255], O1 3 .mv 48] (unB [0, 0, 2, 6, 14, 0, 32, 96, 224, 510, 1022, 2046, 4095, 8191, 16383] 0) true true) (.reg [O1 49 .mv 0, O1 50 .mv 0, O1 51 .nck 50, O1 52 (.fadr 1) 51, O1 53 .ld1 52, Ol 54 (.bin .add) [.t 53, ci 1], O1 55 .nck 49, O1 56 (.fadr 1) 55, S2 (.st 1) 56 54])) .skip)) (.seq (.reg [O1 57 .mv 3, O1 2 .mv 57]) .ret)))))
theorem b_spec_l1Byte : Body Try.prog 186 58 c_spec_l1Byte [(.t 2)] := body_mk Try.func186 (by kernel_rfl) (by decide)
def c_spec_l1Below : ICode := (.seq (.reg [Ol 4 .mv [ci 0]]) (.seq (.seq (.reg [O1 9 .mv 1, Ol 10 (.bin .leq) [.t 9, ci 0]]) (.cond (.t 10) (.seq (.reg [Ol 4 .mv [ci 0]]) .ret) .skip)) (.seq (.seq (.reg [O1 11 .mv 1, Ol 12 (.bin .leq) [.t 11, ci 256]]) (.cond (.t 12) (.seq (.reg [O1 13 .mv 0, O1 14 (.call 186) 13, O1 15 .mv 1, O2 16 (.bin .rem) 14 15, O1 4 .mv 16]) .ret) .skip)) (.seq (.reg [O1 17 .mv 0, O1 18 (.call 186) 17, O1 5 .mv 18]) (.seq (.reg [O1 19 .mv 0, O1 20 (.call 186) 19, O1 6 .mv 20]) (.seq (.reg [O1 21 .mv 0, O1 22 (.call 186) 21, O1 7 .mv 22]) (.seq (.reg [O1 23 .mv 0, O1 24 (.call 186) 23, O1 8 .mv 24]) (.seq (.reg [O1 25 .mv 5, Ol 26 (.bin .mul) [.t 25, ci 16777216], O1 27 .mv 6, Ol 28 (.bin .mul) [.t 27, ci 65536], O2 29 (.bin .add) 26 28, O1 30 .mv 7, Ol 31 (.bin .mul) [.t 30, ci 256], O2 32 (.bin .add) 29 31, O1 33 .mv 8, O2 34 (.bin .add) 32 33, O1 35 .mv 1, O2 36 (.bin .rem) 34 35, O1 4 .mv 36]) .ret))))))))
theorem b_spec_l1Below : Body Try.prog 137 37 c_spec_l1Below [(.t 4)] := body_mk Try.func137 (by kernel_rfl) (by decide)
def c_spec_l1Once : ICode := (.seq (.reg [Ol 4 .mv [cb false]]) (.seq (.reg [O1 5 .mv 0, O1 6 .mv 1, O2 7 (.call 137) 5 6, Ol 8 (.bin .eql) [.t 7, ci 0], O1 4 .mv 8]) .ret))
theorem b_spec_l1Once : Body Try.prog 139 9 c_spec_l1Once [(.t 4)] := body_mk Try.func139 (by kernel_rfl) (by decide)
def c_spec_l1PickInt : ICode := (.seq (.reg [Ol 4 .mv [ci 0]]) (.seq (.reg [O1 5 .mv 1, O1 6 .mv 0, O1 7 .mv 1, O1 8 .len 7, O2 9 (.call 137) 6 8, O2 10 (.iadr 1) 5 9, O1 11 .ld1 10, O1 4 .mv 11]) .ret))
theorem b_spec_l1PickInt : Body Try.prog 188 12 c_spec_l1PickInt [(.t 4)] := body_mk Try.func188 (by kernel_rfl) (by decide)
def c_spec_l3DrawLetters : ICode := (.seq (.reg [Ol 6 .mv [.c .snil]]) (.seq (.reg [O0 10 .bsle, O1 7 .mv 10]) (.seq (.reg [O1 11 .mv 0, O1 12 .mv 1, Ol 13 (.bin .add) [.t 12, ci 1], O2 14 (.call 137) 11 13, O1 8 .mv 14]) (.seq (.seq (.reg [Ol 9 .mv [ci 0]]) (.block 0 (.loop (.seq (.seq (.reg [O1 15 .mv 9, O1 16 .mv 8, O2 17 (.bin .lss) 15 16]) (.cond (.t 17) .skip (.exit 0))) (.seq (.block 1 (.reg [O1 20 .mv 7, O1 21 .mv 0, O1 22 .mv 2, O2 23 (.call 137) 21 22, O1 24 (.bslv 1) 23, O2 25 (.app 1 8) 20 24, O1 7 .mv 25])) (.reg [O1 18 .mv 9, Ol 19 (.bin .add) [.t 18, ci 1], O1 9 .mv 19])))))) (.seq (.reg [O1 26 .mv 7, O1 6 .mv 26]) .ret)))))
theorem b_spec_l3DrawLetters : Body Try.prog 136 27 c_spec_l3DrawLetters [(.t 6)] := body_mk Try.func136 (by kernel_rfl) (by decide)
def GNew : GFun := fun xs objs Q => ∃ code : List UInt8, xs = [.val (code.map byteRow)] ∧ objs = [] ∧ code.length ≤ 1048576 ∧ ∀ h, Q (.ptr 0 0 0) [some (curO code 0 h)]
theorem GNew_mk {code : List UInt8} {Q : AV → List (Option AObj) → Prop} (h1 : code.length ≤ 1048576) (hq : ∀ h, Q (.ptr 0 0 0) [some (curO code 0 h)]) : GNew [.val (code.map byteRow)] [] Q := ⟨code, rfl, rfl, h1, hq⟩
theorem s_spec_l1New : GenSound Try.prog 110 0 GNew := by
  have hR : Rely Try.prog (ctxOf []) := rely_nil mixed
  refine gen_of_aw b_spec_l1New ?_
  rintro xs objs Q - ⟨code, rfl, rfl, h1, hq⟩ -
  have hbl : (code.map byteRow).length = code.length := by simp
  refine ⟨by simp, vc2_sound hR _ _ _ _ _ ?_⟩
  conv => whnf
  repeat' ((first | (refine And.intro (fun hb => ?_) (fun hb => ?_) <;> ((try simp only [SB, reduceCtorEq] at hb); try (exfalso; omega))) | refine G2 ?_ | rw [ints_at (by omega)] | rw [ints_at0 (by omega)] | rw [ints_at' (by omega) (by omega)] | refine G1 ?_ | fail) <;> conv => whnf)
  generalize (10277 : Int) + ((List.map byteRow code).length : Int) = x0
  refine Lp.intro (α := Nat × Int) (fun a => a.1 ≤ code.length) (fun a => code.length - a.1) (fun a => [(0, .val (code.map byteRow)), (3, .int .i64 a.2), (4, .int .i64 a.1)]) (fun _ => []) ?_ ?_
  · refine ⟨(0, x0), Nat.zero_le _, [], rfl, rfl, trivial, ?_⟩
    exact And.intro (.inl rfl) (And.intro (.inl rfl) (And.intro (.inl rfl) trivial))
  · rintro ⟨i, x⟩ hi
    dsimp only at hi ⊢
    refine vc2_sound hR _ _ _ _ _ ?_
    have h8 := byte_le (code.getD i 0)
    conv => whnf
    repeat' ((first | (refine And.intro (fun hb => ?_) (fun hb => ?_) <;> ((try simp only [SB, reduceCtorEq] at hb); try (exfalso; omega))) | refine G2 ?_ | rw [ints_at (by omega)] | rw [ints_at0 (by omega)] | rw [ints_at' (by omega) (by omega)] | refine G1 ?_ | rw [byte_at (by omega)] | refine ⟨_, rfl, ?_⟩ | fail) <;> conv => whnf)
    · refine ⟨(i + 1, IntKind.i64.wrap (BitVec.ofInt IntKind.i64.bits (IntKind.i64.wrap (IntKind.i64.wrap (IntKind.i64.wrap (x * 131) + (code.getD i 0).toNat) + 7)) &&& BitVec.ofInt IntKind.i64.bits 1073741823).toNat), by dsimp only; omega, by dsimp only; omega, [], rfl, rfl, trivial, ?_⟩
      exact And.intro (.inl rfl) (And.intro (.inl rfl) (And.intro (.inl rfl) trivial))
    all_goals
      refine ⟨.inl rfl, ?_⟩
      conv => whnf
      exact ⟨[some 0], .ptr 0 0 0, [some (curO code 0 x)], ⟨rfl, And.intro (And.intro (.inl rfl) (And.intro (.inl rfl) (And.intro (.inl rfl) trivial))) trivial⟩, rfl, rfl, hq _⟩
def GByte : GFun := fun xs objs Q => ∃ (code : List UInt8) (i : Nat) (h : Int), xs = [.ptr 0 0 0] ∧ objs = [curO code i h] ∧ i ≤ code.length ∧ code.length ≤ 1048576 ∧
  ∀ (x : Int) (i' : Nat) (h' : Int), 0 ≤ x → x ≤ 255 → i' ≤ code.length → Q (.int .i64 x) [some (curO code i' h')]
theorem GByte_mk {code : List UInt8} {i : Nat} {h : Int} {Q : AV → List (Option AObj) → Prop} (h1 : i ≤ code.length) (h2 : code.length ≤ 1048576)
    (hq : ∀ (x : Int) (i' : Nat) (h' : Int), 0 ≤ x → x ≤ 255 → i' ≤ code.length → Q (.int .i64 x) [some (curO code i' h')]) : GByte [.ptr 0 0 0] [curO code i h] Q := ⟨code, i, h, rfl, rfl, h1, h2, hq⟩
theorem s_spec_l1Byte : GenSound Try.prog 186 1 GByte := by
  have hR : Rely Try.prog (ctxOf []) := rely_nil mixed
  refine gen_of_aw b_spec_l1Byte ?_
  rintro xs objs Q - ⟨code, i, h, rfl, rfl, h1, h2, hq⟩ -
  have hbl : (code.map byteRow).length = code.length := by simp
  refine ⟨by simp, vc2_sound hR _ _ _ _ _ ?_⟩
  conv => whnf
  repeat' ((first | (refine And.intro (fun hb => ?_) (fun hb => ?_) <;> ((try simp only [SB, reduceCtorEq] at hb); try (exfalso; omega))) | refine G2 ?_ | rw [ints_at (by omega)] | rw [ints_at0 (by omega)] | rw [ints_at' (by omega) (by omega)] | refine G1 ?_ | rw [byte_at (by omega)] | refine ⟨_, rfl, ?_⟩ | fail) <;> conv => whnf)
  · have h255 := and_255
    refine ⟨.inl rfl, ?_⟩
    conv => whnf
    refine ⟨[some 0], .int .i64 _, [some (curO code (i + 1) _)], ⟨rfl, And.intro (And.intro (.inl rfl) (And.intro (.inl rfl) (And.intro (.inl rfl) trivial))) trivial⟩, .inl rfl, rfl, hq _ _ _ (and_255 _).1 (and_255 _).2 (by omega)⟩
  · refine ⟨.inl rfl, ?_⟩
    conv => whnf
    refine ⟨[some 0], .int .i64 _, [some (curO code i _)], ⟨rfl, And.intro (And.intro (.inl rfl) (And.intro (.inl rfl) (And.intro (.inl rfl) trivial))) trivial⟩, .inl rfl, rfl, hq _ _ _ (and_255 _).1 (and_255 _).2 (by omega)⟩
def GBelow : GFun := fun xs objs Q => ∃ (code : List UInt8) (i : Nat) (h n : Int), xs = [.ptr 0 0 0, .int .i64 n] ∧ objs = [curO code i h] ∧ i ≤ code.length ∧ code.length ≤ 1048576 ∧ n ≤ 1073741824 ∧
  ∀ (x : Int) (i' : Nat) (h' : Int), 0 ≤ x → (x < n ∨ (n ≤ 0 ∧ x = 0)) → i' ≤ code.length → Q (.int .i64 x) [some (curO code i' h')]
theorem GBelow_mk {code : List UInt8} {i : Nat} {h n : Int} {Q : AV → List (Option AObj) → Prop} (h1 : i ≤ code.length) (h2 : code.length ≤ 1048576) (h3 : n ≤ 1073741824)
    (hq : ∀ (x : Int) (i' : Nat) (h' : Int), 0 ≤ x → (x < n ∨ (n ≤ 0 ∧ x = 0)) → i' ≤ code.length → Q (.int .i64 x) [some (curO code i' h')]) : GBelow [.ptr 0 0 0, .int .i64 n] [curO code i h] Q := ⟨code, i, h, n, rfl, rfl, h1, h2, h3, hq⟩
theorem GBelow_nv (xs : List AV) (objs : List AObj) (Q : AV → List (Option AObj) → Prop) (h : GBelow xs objs Q) : ∃ r out, Q r out := by
  obtain ⟨code, i, h, n, _, _, _, _, _, hq⟩ := h
  exact ⟨_, _, hq 0 0 0 (by omega) (by omega) (by omega)⟩
theorem tmod_in {a n : Int} (ha : 0 ≤ a) (hn : 0 < n) : 0 ≤ a.tmod n ∧ a.tmod n < n := ⟨Int.tmod_nonneg n ha, Int.tmod_lt_of_pos a hn⟩
theorem s_spec_l1Below : GenSound Try.prog 137 1 GBelow := by
  have hR : Rely Try.prog (ctxOf [(186, .gen 1 GByte)]) := rely_cons b_spec_l1Byte.has s_spec_l1Byte (rely_nil mixed)
  refine gen_of_aw b_spec_l1Below ?_
  rintro xs objs Q - ⟨code, i, h, n, rfl, rfl, h1, h2, h3, hq⟩ -
  refine ⟨by simp, vc2_sound hR _ _ _ _ _ ?_⟩
  conv => whnf
  repeat' ((first | (refine And.intro (fun hb => ?_) (fun hb => ?_) <;> ((try simp only [SB, reduceCtorEq] at hb); try (exfalso; omega))) | refine G2 ?_ | rw [ints_at (by omega)] | rw [ints_at0 (by omega)] | rw [ints_at' (by omega) (by omega)] | refine G1 ?_ | refine ⟨GByte_mk (by omega) (by omega) (fun x i' h' hx0 hx1 hi' => ?_)⟩ | fail) <;> conv => whnf)
  · refine ⟨.inl rfl, ?_⟩
    conv => whnf
    refine ⟨[some 0], .int .i64 0, [some (curO code i h)], ⟨rfl, And.intro (And.intro (.inl rfl) (And.intro (.inl rfl) (And.intro (.inl rfl) trivial))) trivial⟩, .inl rfl, rfl, hq 0 i h (by omega) (by omega) (by omega)⟩
  · have ht := tmod_in (a := x) (n := n) (by omega) (by omega)
    refine ⟨.inl rfl, ?_⟩
    conv => whnf
    refine ⟨[some 0], .int .i64 (x.tmod n), [some (curO code i' h')], ⟨rfl, And.intro (And.intro (.inl rfl) (And.intro (.inl rfl) (And.intro (.inl rfl) trivial))) trivial⟩, .inl rfl, rfl, hq _ i' h' (by omega) (by omega) (by omega)⟩
  · rename_i x1 _ _ _ _ _ x2 _ _ _ _ _ x3 _ _ _ _ _
    have ht := tmod_in (a := x1 * 16777216 + x2 * 65536 + x3 * 256 + x) (n := n) (by omega) (by omega)
    refine ⟨.inl rfl, ?_⟩
    conv => whnf
    refine ⟨[some 0], .int .i64 ((x1 * 16777216 + x2 * 65536 + x3 * 256 + x).tmod n), [some (curO code i' h')], ⟨rfl, And.intro (And.intro (.inl rfl) (And.intro (.inl rfl) (And.intro (.inl rfl) trivial))) trivial⟩, .inl rfl, rfl, hq _ i' h' (by omega) (by omega) (by omega)⟩
def GOnce : GFun := fun xs objs Q => ∃ (code : List UInt8) (i : Nat) (h n : Int), xs = [.ptr 0 0 0, .int .i64 n] ∧ objs = [curO code i h] ∧ i ≤ code.length ∧ code.length ≤ 1048576 ∧ n ≤ 1073741824 ∧
  ∀ (b : Bool) (i' : Nat) (h' : Int), i' ≤ code.length → Q (.bool b) [some (curO code i' h')]
theorem GOnce_mk {code : List UInt8} {i : Nat} {h n : Int} {Q : AV → List (Option AObj) → Prop} (h1 : i ≤ code.length) (h2 : code.length ≤ 1048576) (h3 : n ≤ 1073741824)
    (hq : ∀ (b : Bool) (i' : Nat) (h' : Int), i' ≤ code.length → Q (.bool b) [some (curO code i' h')]) : GOnce [.ptr 0 0 0, .int .i64 n] [curO code i h] Q := ⟨code, i, h, n, rfl, rfl, h1, h2, h3, hq⟩
theorem s_spec_l1Once : GenSound Try.prog 139 1 GOnce := by
  have hR : Rely Try.prog (ctxOf [(137, .gen 1 GBelow)]) := rely_cons b_spec_l1Below.has s_spec_l1Below (rely_nil mixed)
  refine gen_of_aw b_spec_l1Once ?_
  rintro xs objs Q - ⟨code, i, h, n, rfl, rfl, h1, h2, h3, hq⟩ -
  refine ⟨by simp, vc2_sound hR _ _ _ _ _ ?_⟩
  conv => whnf
  repeat' ((first | (refine And.intro (fun hb => ?_) (fun hb => ?_) <;> ((try simp only [SB, reduceCtorEq] at hb); try (exfalso; omega))) | refine G2 ?_ | rw [ints_at (by omega)] | rw [ints_at0 (by omega)] | rw [ints_at' (by omega) (by omega)] | refine G1 ?_ | refine ⟨GBelow_mk (by omega) (by omega) (by omega) (fun x i' h' hx0 hx1 hi' => ?_)⟩ | fail) <;> conv => whnf)
  all_goals
    refine ⟨.inl rfl, ?_⟩
    conv => whnf
    refine ⟨[some 0], .bool _, [some (curO code i' h')], ⟨rfl, And.intro (And.intro (.inl rfl) (And.intro (.inl rfl) (And.intro (.inl rfl) trivial))) trivial⟩, .inl rfl, rfl, hq _ i' h' hi'⟩
def GPickInt : GFun := fun xs objs Q => ∃ (code : List UInt8) (i : Nat) (h : Int) (l : List Int), xs = [.ptr 0 0 0, .ref 1 0 l.length] ∧ objs = [curO code i h, .arr 1 (ints l)] ∧ i ≤ code.length ∧ code.length ≤ 1048576 ∧ 0 < l.length ∧ l.length ≤ 1000 ∧
  ∀ (j : Nat) (i' : Nat) (h' : Int), j < l.length → i' ≤ code.length → Q (.int .i64 (l.getD j 0)) [some (curO code i' h'), some (.arr 1 (ints l))]
theorem GPickInt_mk {code : List UInt8} {i : Nat} {h : Int} {l : List Int} {Q : AV → List (Option AObj) → Prop} (h1 : i ≤ code.length) (h2 : code.length ≤ 1048576) (h3 : 0 < l.length) (h4 : l.length ≤ 1000)
    (hq : ∀ (j : Nat) (i' : Nat) (h' : Int), j < l.length → i' ≤ code.length → Q (.int .i64 (l.getD j 0)) [some (curO code i' h'), some (.arr 1 (ints l))]) : GPickInt [.ptr 0 0 0, .ref 1 0 l.length] [curO code i h, .arr 1 (ints l)] Q :=
  ⟨code, i, h, l, rfl, rfl, h1, h2, h3, h4, hq⟩
theorem ints_atJ {l : List Int} {x : Int} (h0 : 0 ≤ x) (h1 : x < l.length) : (ints l)[0 + x.toNat]? = some [.int .i64 (l.getD x.toNat 0)] := by
  rw [Nat.zero_add]
  have hx : x.toNat < l.length := by omega
  simp [ints, List.getElem?_eq_getElem hx, List.getD_eq_getElem?_getD]
theorem s_spec_l1PickInt : GenSound Try.prog 188 2 GPickInt := by
  have hR : Rely Try.prog (ctxOf [(137, .gen 1 GBelow)]) := rely_cons b_spec_l1Below.has s_spec_l1Below (rely_nil mixed)
  refine gen_of_aw b_spec_l1PickInt ?_
  rintro xs objs Q - ⟨code, i, h, l, rfl, rfl, h1, h2, h3, h4, hq⟩ -
  have hil : (ints l).length = l.length := length_ints l
  refine ⟨by simp, vc2_sound hR _ _ _ _ _ ?_⟩
  conv => whnf
  repeat' ((first | (refine And.intro (fun hb => ?_) (fun hb => ?_) <;> ((try simp only [SB, reduceCtorEq] at hb); try (exfalso; omega))) | refine G2 ?_ | rw [ints_at (by omega)] | rw [ints_at0 (by omega)] | rw [ints_at' (by omega) (by omega)] | refine G1 ?_ | rw [ints_atJ (by omega) (by omega)] | refine ⟨GBelow_mk (by omega) (by omega) (by omega) (fun x i' h' hx0 hx1 hi' => ?_)⟩ | fail) <;> conv => whnf)
  refine ⟨.inl rfl, ?_⟩
  conv => whnf
  refine ⟨[some 0, some 1], .int .i64 _, [some (curO code i' h'), some (.arr 1 (ints l))], ⟨rfl, And.intro (And.intro (.inl rfl) (And.intro (.inl rfl) (And.intro (.inl rfl) trivial))) (And.intro (And.intro rfl rfl) trivial)⟩, .inl rfl, rfl, hq _ i' h' (by omega) hi'⟩
def GLetters : GFun := fun xs objs Q => ∃ (code : List UInt8) (i : Nat) (h m n : Int), xs = [.ptr 0 0 0, .int .i64 m, .int .i64 n] ∧ objs = [curO code i h] ∧ i ≤ code.length ∧ code.length ≤ 1048576 ∧ 0 ≤ m ∧ m ≤ 1000 ∧ n ≤ 1073741824 ∧
  ∀ (l : List Int) (i' : Nat) (h' : Int), l.length ≤ m → i' ≤ code.length → Q (.ref 1 0 l.length) [some (curO code i' h'), some (.arr 1 (ints l))]
theorem GLetters_mk {code : List UInt8} {i : Nat} {h m n : Int} {Q : AV → List (Option AObj) → Prop} (h1 : i ≤ code.length) (h2 : code.length ≤ 1048576) (h3 : 0 ≤ m ∧ m ≤ 1000) (h4 : n ≤ 1073741824)
    (hq : ∀ (l : List Int) (i' : Nat) (h' : Int), l.length ≤ m → i' ≤ code.length → Q (.ref 1 0 l.length) [some (curO code i' h'), some (.arr 1 (ints l))]) : GLetters [.ptr 0 0 0, .int .i64 m, .int .i64 n] [curO code i h] Q :=
  ⟨code, i, h, m, n, rfl, rfl, h1, h2, h3.1, h3.2, h4, hq⟩
theorem s_spec_l3DrawLetters : GenSound Try.prog 136 1 GLetters := by
  have hR : Rely Try.prog (ctxOf [(137, .gen 1 GBelow)]) := rely_cons b_spec_l1Below.has s_spec_l1Below (rely_nil mixed)
  refine gen_of_aw b_spec_l3DrawLetters ?_
  rintro xs objs Q - ⟨code, i, h, m, n, rfl, rfl, h1, h2, h3, h3', h4, hq⟩ -
  refine ⟨by simp, vc2_sound hR _ _ _ _ _ ?_⟩
  conv => whnf
  repeat' ((first | (refine And.intro (fun hb => ?_) (fun hb => ?_) <;> ((try simp only [SB, reduceCtorEq] at hb); try (exfalso; omega))) | refine G2 ?_ | rw [ints_at (by omega)] | rw [ints_at0 (by omega)] | rw [ints_at' (by omega) (by omega)] | refine G1 ?_ | refine ⟨GBelow_mk (by omega) (by omega) (by omega) (fun x i' h' hx0 hx1 hi' => ?_)⟩ | fail) <;> conv => whnf)
  refine Lp.intro (α := List Int × Nat × Int) (fun a => (a.1.length : Int) ≤ x ∧ a.2.1 ≤ code.length) (fun a => x.toNat - a.1.length) (fun a => [(0, .ptr 0 0 0), (2, .int .i64 n), (7, .ref 1 0 a.1.length), (8, .int .i64 x), (9, .int .i64 a.1.length)])
    (fun a => [some (curO code a.2.1 a.2.2), some (.arr 1 (ints a.1))]) ?_ ?_
  · refine ⟨([], i', h'), ⟨hx0, hi'⟩, [some 0, none], rfl, rfl, ?_, ?_⟩
    · exact And.intro (And.intro (.inl rfl) (And.intro (.inl rfl) (And.intro (.inl rfl) trivial))) (And.intro rfl trivial)
    · repeat' (first
        | exact trivial
        | refine ⟨?_, ?_⟩
        | fail)
      all_goals first
        | with_reducible rfl
        | (conv => whnf
           try left
           conv => lhs; whnf
           first
             | rfl
             | exact congrArg (AV.int .i64) (by omega)
             | skip)
  · rintro ⟨l, i2, h2'⟩ ⟨hl, hi2⟩
    dsimp only at hl hi2 ⊢
    have hil := length_ints l
    refine vc2_sound hR _ _ _ _ _ ?_
    conv => whnf
    repeat' ((first | (refine And.intro (fun hb => ?_) (fun hb => ?_) <;> ((try simp only [SB, reduceCtorEq] at hb); try (exfalso; omega))) | refine G2 ?_ | rw [ints_at (by omega)] | rw [ints_at0 (by omega)] | rw [ints_at' (by omega) (by omega)] | refine G1 ?_ | refine ⟨GBelow_mk (by omega) (by omega) (by omega) (fun y i' h' hx0 hx1 hi' => ?_)⟩ | fail) <;> conv => whnf)
    · refine ⟨(l ++ [y], i', h'), ⟨by simp; omega, hi'⟩, by simp; omega, [some 0, some 2], rfl, rfl, ?_, ?_⟩
      · exact And.intro (And.intro (.inl rfl) (And.intro (.inl rfl) (And.intro (.inl rfl) trivial))) (And.intro (And.intro rfl (app_step l y l.length rfl)) trivial)
      · repeat' (first
          | exact trivial
          | refine ⟨?_, ?_⟩
          | fail)
        all_goals first
          | with_reducible rfl
          | (conv => whnf
             try left
             conv => lhs; whnf
             first
               | rfl
               | exact congrArg (AV.int .i64) (by omega)
               | skip)
        all_goals simp
    · refine ⟨.inl rfl, ?_⟩
      conv => whnf
      refine ⟨[some 0, some 1], .ref 1 0 l.length, [some (curO code i2 h2'), some (.arr 1 (ints l))], ⟨rfl, And.intro (And.intro (.inl rfl) (And.intro (.inl rfl) (And.intro (.inl rfl) trivial))) (And.intro (And.intro rfl rfl) trivial)⟩, rfl, rfl, hq l i2 h2' (by omega) hi2⟩
def c_spec_WordPower : ICode := (.seq (.reg [O1 2 (.box 2) 0, O0 4 (.alc [.snil, .snil]), Ol 5 .mv [cb false]]) (.seq (.seq (.reg [O1 8 (.ldn 2) 2, O1 9 (.call 206) 8, O1 10 .not 9, O1 11 .mv 10, Og 12 .mv [.t 1] 11 false, Og 13 (.call 114) [.t 12, ci 1, ci 40] 11 false, Og 14 .not [.t 13] 11 false, Ol 15 .pick [.t 11, cb true, .t 14]]) (.cond (.t 15) (.seq (.reg [O0 16 (.bld [.snil, .snil] []), S2 (.st 2) 4 16, Ol 5 .mv [cb false]]) .ret) .skip)) (.seq (.reg [O0 17 .bsle, O1 18 (.fadr 0) 2, O1 19 .ld1 18, O2 20 (.app 1 8) 17 19, O1 21 (.bld [.snil, .snil] [(0, 1)]) 20, O0 6 (.alc [.snil, .snil]), S2 (.st 2) 6 21]) (.seq (.seq (.reg [Ol 7 .mv [ci 0]]) (.block 0 (.loop (.seq (.seq (.reg [O1 22 .mv 7, O1 23 .mv 1, O2 24 (.bin .lss) 22 23]) (.cond (.t 24) .skip (.exit 0))) (.seq (.block 1 (.reg [O1 27 (.fadr 1) 6, O1 28 .ld1 27, O1 29 (.fadr 1) 2, O1 30 .ld1 29, O2 31 (.app 1 8) 28 30, O1 32 (.fadr 1) 6, S2 (.st 1) 32 31])) (.reg [O1 25 .mv 7, Ol 26 (.bin .add) [.t 25, ci 1], O1 7 .mv 26])))))) (.seq (.reg [O1 33 (.ldn 2) 6, O1 34 (.call 207) 33, O1 35 (.ext 0) 34, O1 36 (.ext 1) 34, S2 (.st 2) 4 35, O1 5 .mv 36]) .ret)))))
theorem b_spec_WordPower : Body Try.prog 194 37 c_spec_WordPower [(.cn 4 2), (.t 5)] := body_mk Try.func194 (by kernel_rfl) (by decide)
def c_spec_WordTurn : ICode := (.seq (.reg [O1 1 (.box 2) 0, O0 2 (.alc [.snil, .snil]), Ol 3 .mv [cb false]]) (.seq (.seq (.reg [O1 4 (.ldn 2) 1, O1 5 (.call 206) 4, O1 6 .not 5]) (.cond (.t 6) (.seq (.reg [O0 7 (.bld [.snil, .snil] []), S2 (.st 2) 2 7, Ol 3 .mv [cb false]]) .ret) .skip)) (.seq (.drw [O0 8 .bsle, O1 9 (.fadr 0) 1, O1 10 .ld1 9, O2 11 (.app 1 8) 8 10, O1 12 (.fadr 1) 1, O1 13 .ld1 12, Ol 14 (.iadr 1) [.t 13, ci 0], O1 15 .ld1 14, O1 16 (.bslv 1) 15, O2 17 (.app 1 8) 11 16, O0 18 .bsle, O1 19 (.fadr 1) 1, O1 20 .ld1 19, Ol 21 (.slc 1 true false) [.t 20, ci 1], O2 22 (.app 1 8) 18 21, O1 23 (.fadr 1) 1, O1 24 .ld1 23, Ol 25 (.iadr 1) [.t 24, ci 0], O1 26 .ld1 25, O1 27 (.bslv 1) 26, O2 28 (.app 1 8) 22 27, O2 29 (.bld [.snil, .snil] [(0, 1), (1, 1)]) 17 28, O1 30 (.call 207) 29, O1 31 (.ext 0) 30, O1 32 (.ext 1) 30, S2 (.st 2) 2 31, O1 3 .mv 32] (unB [0, 0, 2, 7, 0, 16, 48, 112, 240, 511, 0, 0, 2048, 6144, 16383, 0, 32768, 98304, 229376, 491520, 1048575, 2097151, 4194303, 8388607, 8388607, 33554431, 67108863] 0) false true) .ret)))
theorem b_spec_WordTurn : Body Try.prog 195 33 c_spec_WordTurn [(.cn 2 2), (.t 3)] := body_mk Try.func195 (by kernel_rfl) (by decide)
def powW (s l : List Int) : List Int × List Int × Bool := wordBack s (l ++ l) (wordOk s l 8)
def RWordPower (xs : List AV) (r : AV) (objs : List AObj) : Prop := ∃ s l, xs = [word s l, .int .i64 2] ∧ r = readR (powW s l) ∧ objs = readO (powW s l)
theorem RWordPower_eq {xs : List AV} {s l : List Int} (h : xs = [word s l, .int .i64 2]) : RWordPower xs (readR (powW s l)) (readO (powW s l)) := ⟨s, l, h, rfl, rfl⟩
def turnW (s l : List Int) : List Int × List Int × Bool := wordBack (s ++ [l.getD 0 0]) (l.drop 1 ++ [l.getD 0 0]) (wordOk s l 8)
def RWordTurn (xs : List AV) (r : AV) (objs : List AObj) : Prop := ∃ s l, xs = [word s l] ∧ r = readR (turnW s l) ∧ objs = readO (turnW s l)
theorem RWordTurn_eq {xs : List AV} {s l : List Int} (h : xs = [word s l]) : RWordTurn xs (readR (turnW s l)) (readO (turnW s l)) := ⟨s, l, h, rfl, rfl⟩
theorem GTold_nv (xs : List AV) (objs : List AObj) (Q : AV → List (Option AObj) → Prop) (h : GTold xs objs Q) : ∃ r out, Q r out := by
  obtain ⟨a, b, _, _, h1, h2⟩ := h
  cases hw : wordOk a b 8 with
  | true => exact ⟨_, _, h1 hw⟩
  | false => exact ⟨_, _, h2 hw⟩
theorem RRight_is {s l : List Int} {b : Bool} (h : wordOk s l 8 = b) : RRight [word s l] (.bool b) [] := by subst h; exact RRight_mk
theorem ints_one (l : List Int) : ∀ r ∈ ints l, r.length = 1 := by
  intro r hr
  simp only [ints, List.mem_map] at hr
  obtain ⟨x, _, rfl⟩ := hr
  rfl
theorem sub_one (l : List Int) (a b : Nat) : ∀ r ∈ sub (ints l) a b, r.length = 1 := fun r hr => ints_one l r (List.mem_of_mem_drop (List.mem_of_mem_take hr))
theorem ints_first {l : List Int} (h : 1 ≤ l.length) : (ints l)[(0 : Int).toNat]? = some [.int .i64 (l.getD 0 0)] := by
  have h0 : 0 < l.length := by omega
  simp [ints, List.getElem?_eq_getElem h0, List.getD_eq_getElem?_getD]
theorem GTold_eq {xs : List AV} {objs : List AObj} {a b : List Int} {Q : AV → List (Option AObj) → Prop} (hx : xs = [.agg [.ref 0 0 a.length, .ref 1 0 b.length]]) (ho : objs = [.arr 1 (ints a), .arr 1 (ints b)])
    (h1 : wordOk a b 8 = true → Q (.tup [.agg [.ref 0 0 a.length, .ref 1 0 b.length], .bool true]) [some (.arr 1 (ints a)), some (.arr 1 (ints b))])
    (h2 : wordOk a b 8 = false → Q (.tup [.agg [.snil, .snil], .bool false]) [some (.arr 1 (ints a)), some (.arr 1 (ints b))]) : GTold xs objs Q := by
  subst hx; subst ho; exact GTold_mk h1 h2
set_option maxHeartbeats 4000000 in
theorem s_spec_WordTurn : PureSound Try.prog 195 RWordTurn := by
  have hR : Rely Try.prog (ctxOf [(206, .pure RRight), (207, .gen 2 GTold)]) := rely_cons b_spec_l3Right.has s_spec_l3Right (rely_cons b_spec_l3Told.has s_spec_l3Told (rely_nil mixed))
  have hV : CtxNV (ctxOf [(206, .pure RRight), (207, .gen 2 GTold)]) := nv_pure (nv_gen GTold_nv nvNil)
  refine pure_of_aw b_spec_WordTurn ?_
  rintro xs r objs ⟨s, l, rfl, rfl, rfl⟩ -
  have hs := length_ints s
  have hl := length_ints l
  refine ⟨by simp, vc3_sound hR hV _ _ _ _ _ ?_⟩
  cases hw : wordOk s l 8 with
  | false =>
    conv => whnf
    repeat' ((first | (refine And.intro (fun hb => ?_) (fun hb => ?_) <;> ((try simp only [SB, reduceCtorEq] at hb); try (exfalso; omega))) | refine G2 ?_ | rw [ints_at (by omega)] | rw [ints_at0 (by omega)] | rw [ints_at' (by omega) (by omega)] | refine G1 ?_ | refine ⟨_, _, RRight_is hw, ?_⟩ | fail) <;> conv => whnf)
    have e : turnW s l = ([], [], false) := by simp [turnW, wordBack, hw]
    rw [e]
    refine ⟨.inl rfl, ?_⟩
    conv => whnf
    refine And.intro (Nat.le_of_ble_eq_true rfl) ?_
    conv => whnf
    refine ⟨[none, none], ⟨rfl, And.intro rfl (And.intro rfl trivial)⟩, And.intro (And.intro ⟨rfl, rfl, rfl⟩ (And.intro ⟨rfl, rfl, rfl⟩ trivial)) (And.intro (.inl rfl) trivial), rfl, by simp [readO, AObj.nov, ints_nov]⟩
  | true =>
    obtain ⟨w1, w2, w3, _, _⟩ := wordOk_parts hw
    conv => whnf
    repeat' ((first | (refine And.intro (fun hb => ?_) (fun hb => ?_) <;> ((try simp only [SB, reduceCtorEq] at hb); try (exfalso; omega))) | refine G2 ?_ | rw [ints_at (by omega)] | rw [ints_at0 (by omega)] | rw [ints_at' (by omega) (by omega)] | refine G1 ?_ | refine ⟨_, _, RRight_is hw, ?_⟩ | refine And.intro (ints_one _) ?_ | refine And.intro (sub_one _ _ _) ?_ | rw [ints_first (by omega)] | fail) <;> conv => whnf)
    have e1 : sub (ints l) (Int.toNat 1) (((ints l).length : Int) - 1).toNat = ints (l.drop 1) := by
      have : (((ints l).length : Int) - 1).toNat = l.length - 1 := by omega
      rw [this]
      show ((ints l).drop 1).take (l.length - 1) = _
      rw [List.take_of_length_le (by simp [ints])]
      simp [ints]
    have hd := length_ints (l.drop 1)
    have hd2 : (l.drop 1).length = l.length - 1 := by simp
    rw [e1]
    conv => whnf
    repeat' ((first | (refine And.intro (fun hb => ?_) (fun hb => ?_) <;> ((try simp only [SB, reduceCtorEq] at hb); try (exfalso; omega))) | refine G2 ?_ | rw [ints_at (by omega)] | rw [ints_at0 (by omega)] | rw [ints_at' (by omega) (by omega)] | refine G1 ?_ | rw [ints_first (by omega)] | fail) <;> conv => whnf)
    refine ⟨GTold_eq (a := s ++ [l.getD 0 0]) (b := l.drop 1 ++ [l.getD 0 0]) ?_ ?_ (fun hw2 => ?_) (fun hw2 => ?_)⟩
    · show [AV.agg [AV.ref 0 0 ((ints s).length + 1), AV.ref 1 0 ((ints (l.drop 1)).length + 1)]] = _
      rw [hs, hd]
      simp
    · show [AObj.arr 1 (List.take (ints s).length (ints s) ++ [[.int .i64 (l.getD 0 0)]]), AObj.arr 1 (List.take (ints (l.drop 1)).length (ints (l.drop 1)) ++ [[.int .i64 (l.getD 0 0)]])] = _
      rw [app_step s _ _ hs, app_step (l.drop 1) _ _ hd]
    · have e : turnW s l = (s ++ [l.getD 0 0], l.drop 1 ++ [l.getD 0 0], true) := by simp only [turnW, wordBack, hw, hw2, Bool.and_self, if_true]
      rw [e]
      conv => whnf
      repeat' ((first | (refine And.intro (fun hb => ?_) (fun hb => ?_) <;> ((try simp only [SB, reduceCtorEq] at hb); try (exfalso; omega))) | refine G2 ?_ | rw [ints_at (by omega)] | rw [ints_at0 (by omega)] | rw [ints_at' (by omega) (by omega)] | refine G1 ?_ | fail) <;> conv => whnf)
      refine ⟨.inl rfl, ?_⟩
      conv => whnf
      refine And.intro (Nat.le_of_ble_eq_true rfl) ?_
      conv => whnf
      refine ⟨[some 3, some 5], ⟨rfl, And.intro (And.intro rfl rfl) (And.intro (And.intro rfl rfl) trivial)⟩, And.intro (And.intro rfl (And.intro rfl trivial)) (And.intro (.inl rfl) trivial), rfl, by simp [readO, AObj.nov, ints_nov]⟩
    · have e : turnW s l = ([], [], false) := by simp only [turnW, wordBack, hw, hw2, Bool.and_false, Bool.false_eq_true, if_false]
      rw [e]
      conv => whnf
      repeat' ((first | (refine And.intro (fun hb => ?_) (fun hb => ?_) <;> ((try simp only [SB, reduceCtorEq] at hb); try (exfalso; omega))) | refine G2 ?_ | rw [ints_at (by omega)] | rw [ints_at0 (by omega)] | rw [ints_at' (by omega) (by omega)] | refine G1 ?_ | fail) <;> conv => whnf)
      refine ⟨.inl rfl, ?_⟩
      conv => whnf
      refine And.intro (Nat.le_of_ble_eq_true rfl) ?_
      conv => whnf
      refine ⟨[none, none], ⟨rfl, And.intro rfl (And.intro rfl trivial)⟩, And.intro (And.intro ⟨rfl, rfl, rfl⟩ (And.intro ⟨rfl, rfl, rfl⟩ trivial)) (And.intro (.inl rfl) trivial), rfl, by simp [readO, AObj.nov, ints_nov]⟩
def times (l : List Int) : Nat → List Int
  | 0 => []
  | i + 1 => times l i ++ l
theorem times_le (l : List Int) : ∀ i, (times l i).length = i * l.length
  | 0 => by simp [times]
  | i + 1 => by simp [times, times_le l i, Nat.add_mul]
set_option maxHeartbeats 4000000 in
theorem s_spec_WordPower : PureSound Try.prog 194 RWordPower := by
  have hR : Rely Try.prog (ctxOf [(206, .pure RRight), (114, .pure RIn), (207, .gen 2 GTold)]) := rely_cons b_spec_l3Right.has s_spec_l3Right (rely_cons b_spec_l1In.has s_spec_l1In (rely_cons b_spec_l3Told.has s_spec_l3Told (rely_nil mixed)))
  refine pure_of_aw b_spec_WordPower ?_
  rintro xs r objs ⟨s, l, rfl, rfl, rfl⟩ -
  have hs := length_ints s
  have hl := length_ints l
  refine ⟨by simp, vc2_sound hR _ _ _ _ _ ?_⟩
  cases hw : wordOk s l 8 with
  | false =>
    conv => whnf
    repeat' ((first | (refine And.intro (fun hb => ?_) (fun hb => ?_) <;> ((try simp only [SB, reduceCtorEq] at hb); try (exfalso; omega))) | refine G2 ?_ | rw [ints_at (by omega)] | rw [ints_at0 (by omega)] | rw [ints_at' (by omega) (by omega)] | refine G1 ?_ | refine ⟨_, _, RRight_is hw, ?_⟩ | fail) <;> conv => whnf)
    have e : powW s l = ([], [], false) := by simp [powW, wordBack, hw]
    rw [e]
    refine ⟨.inl rfl, ?_⟩
    conv => whnf
    refine And.intro (Nat.le_of_ble_eq_true rfl) ?_
    conv => whnf
    refine ⟨[none, none], ⟨rfl, And.intro rfl (And.intro rfl trivial)⟩, And.intro (And.intro ⟨rfl, rfl, rfl⟩ (And.intro ⟨rfl, rfl, rfl⟩ trivial)) (And.intro (.inl rfl) trivial), rfl, by simp [readO, AObj.nov, ints_nov]⟩
  | true =>
    obtain ⟨w1, w2, w3, _, _⟩ := wordOk_parts hw
    conv => whnf
    repeat' ((first | (refine And.intro (fun hb => ?_) (fun hb => ?_) <;> ((try simp only [SB, reduceCtorEq] at hb); try (exfalso; omega))) | refine G2 ?_ | rw [ints_at (by omega)] | rw [ints_at0 (by omega)] | rw [ints_at' (by omega) (by omega)] | refine G1 ?_ | refine ⟨_, _, RRight_is hw, ?_⟩ | refine ⟨_, _, RIn_mk, ?_⟩ | refine And.intro (ints_one _) ?_ | fail) <;> conv => whnf)
    refine Lp.intro (α := Nat) (fun i => i ≤ 2) (fun i => 2 - i) (fun i => [(1, .int .i64 2), (2, .ptr 0 0 0), (4, .ptr 1 0 0), (6, .ptr 3 0 0), (7, .int .i64 i)])
      (fun i => [some (.box [.val (ints s), .val (ints l)]), some (.box [.snil, .snil]), some (.arr 1 (ints s)), some (.box [.ref 2 0 (ints s).length, .ref 4 0 (times l i).length]), some (.arr 1 (ints (times l i)))]) ?_ ?_
    · refine ⟨0, by omega, [some 0, some 1, some 2, some 3, none], rfl, rfl, ?_, ?_⟩
      · exact And.intro (And.intro (.inl rfl) (And.intro (.inl rfl) trivial)) (And.intro (And.intro (.inl rfl) (And.intro (.inl rfl) trivial)) (And.intro (And.intro rfl rfl) (And.intro (And.intro rfl (And.intro ⟨rfl, rfl, rfl⟩ trivial)) (And.intro rfl trivial))))
      · repeat' (first
          | exact trivial
          | refine ⟨?_, ?_⟩
          | fail)
        all_goals first
          | with_reducible rfl
          | (conv => whnf
             try left
             conv => lhs; whnf
             first
               | rfl
               | exact congrArg (AV.int .i64) (by omega)
               | skip)
    · intro i hi
      have ht := length_ints (times l i)
      have htl := times_le l i
      have hb40 : (times l i).length ≤ 80 := by
        rw [htl]
        have : i * l.length ≤ 2 * 40 := Nat.mul_le_mul hi w3
        omega
      refine vc2_sound hR _ _ _ _ _ ?_
      conv => whnf
      repeat' ((first | (refine And.intro (fun hb => ?_) (fun hb => ?_) <;> ((try simp only [SB, reduceCtorEq] at hb); try (exfalso; omega))) | refine G2 ?_ | rw [ints_at (by omega)] | rw [ints_at0 (by omega)] | rw [ints_at' (by omega) (by omega)] | refine G1 ?_ | refine And.intro (ints_one _) ?_ | fail) <;> conv => whnf)
      · refine ⟨i + 1, by omega, by omega, [some 0, some 1, some 2, some 3, some 5], rfl, rfl, ?_, ?_⟩
        · refine And.intro (And.intro (.inl rfl) (And.intro (.inl rfl) trivial)) (And.intro (And.intro (.inl rfl) (And.intro (.inl rfl) trivial)) (And.intro (And.intro rfl rfl) (And.intro (And.intro rfl (And.intro ?_ trivial)) (And.intro (And.intro rfl ?_) trivial))))
          · show AV.ref 5 0 ((times l i).length + (ints l).length) = AV.ref 5 0 (times l i ++ l).length
            rw [hl]; simp
          · show List.take (times l i).length (ints (times l i)) ++ ints l = ints (times l i ++ l)
            rw [List.take_of_length_le (by omega)]
            simp [ints]
        · repeat' (first
            | exact trivial
            | refine ⟨?_, ?_⟩
            | fail)
          all_goals first
            | with_reducible rfl
            | (conv => whnf
               try left
               conv => lhs; whnf
               first
                 | rfl
                 | exact congrArg (AV.int .i64) (by omega)
                 | skip)
      · have hi2 : i = 2 := by omega
        subst hi2
        have ht2 : times l 2 = l ++ l := by simp [times]
        rw [ht2] at *
        refine ⟨GTold_eq (a := s) (b := l ++ l) ?_ ?_ (fun hw2 => ?_) (fun hw2 => ?_)⟩
        · show [AV.agg [AV.ref 0 0 (ints s).length, AV.ref 1 0 (l ++ l).length]] = _
          rw [hs]
        · rfl
        · have e : powW s l = (s, l ++ l, true) := by simp only [powW, wordBack, hw, hw2, Bool.and_self, if_true]
          rw [e]
          conv => whnf
          repeat' ((first | (refine And.intro (fun hb => ?_) (fun hb => ?_) <;> ((try simp only [SB, reduceCtorEq] at hb); try (exfalso; omega))) | refine G2 ?_ | rw [ints_at (by omega)] | rw [ints_at0 (by omega)] | rw [ints_at' (by omega) (by omega)] | refine G1 ?_ | fail) <;> conv => whnf)
          refine ⟨.inl rfl, ?_⟩
          conv => whnf
          refine And.intro (Nat.le_of_ble_eq_true rfl) ?_
          conv => whnf
          refine ⟨[some 2, some 4], ⟨rfl, And.intro (And.intro rfl rfl) (And.intro (And.intro rfl rfl) trivial)⟩, And.intro (And.intro rfl (And.intro rfl trivial)) (And.intro (.inl rfl) trivial), rfl, by simp [readO, AObj.nov, ints_nov]⟩
        · have e : powW s l = ([], [], false) := by simp only [powW, wordBack, hw, hw2, Bool.and_false, Bool.false_eq_true, if_false]
          rw [e]
          conv => whnf
          repeat' ((first | (refine And.intro (fun hb => ?_) (fun hb => ?_) <;> ((try simp only [SB, reduceCtorEq] at hb); try (exfalso; omega))) | refine G2 ?_ | rw [ints_at (by omega)] | rw [ints_at0 (by omega)] | rw [ints_at' (by omega) (by omega)] | refine G1 ?_ | fail) <;> conv => whnf)
          refine ⟨.inl rfl, ?_⟩
          conv => whnf
          refine And.intro (Nat.le_of_ble_eq_true rfl) ?_
          conv => whnf
          refine ⟨[none, none], ⟨rfl, And.intro rfl (And.intro rfl trivial)⟩, And.intro (And.intro ⟨rfl, rfl, rfl⟩ (And.intro ⟨rfl, rfl, rfl⟩ trivial)) (And.intro (.inl rfl) trivial), rfl, by simp [readO, AObj.nov, ints_nov]⟩
def c_spec_l3DrawRight : ICode := (.seq (.reg [O0 4 (.alc [.snil, .snil])]) (.seq (.reg [O1 6 .mv 0, O1 7 .mv 1, Ol 8 (.call 136) [.t 6, ci 4, .t 7], O1 9 .mv 0, O1 10 .mv 1, Ol 11 (.call 136) [.t 9, ci 3, .t 10], O1 12 .mv 0, O1 13 .mv 1, O2 14 (.call 137) 12 13, O1 15 (.bslv 1) 14, O2 16 (.app 1 8) 11 15, O2 17 (.bld [.snil, .snil] [(0, 1), (1, 1)]) 8 16, O0 5 (.alc [.snil, .snil]), S2 (.st 2) 5 17]) (.seq (.seq (.reg [O1 18 .mv 0, Ol 19 (.call 139) [.t 18, ci 6]]) (.cond (.t 19) (.reg [O1 21 (.ldn 2) 5, Ol 22 (.call 194) [.t 21, ci 2], O1 20 .mv 22, O1 23 (.ext 0) 20, O1 24 (.ext 1) 20, S2 (.st 2) 5 23]) .skip)) (.seq (.seq (.reg [O1 25 .mv 0, Ol 26 (.call 139) [.t 25, ci 6]]) (.cond (.t 26) (.reg [O1 28 (.ldn 2) 5, O1 29 (.call 195) 28, O1 27 .mv 29, O1 30 (.ext 0) 27, O1 31 (.ext 1) 27, S2 (.st 2) 5 30]) .skip)) (.seq (.reg [O1 32 (.ldn 2) 5, S2 (.st 2) 4 32]) .ret)))))
theorem b_spec_l3DrawRight : Body Try.prog 148 33 c_spec_l3DrawRight [(.cn 4 2)] := body_mk Try.func148 (by kernel_rfl) (by decide)
def c_spec_l3DrawWord : ICode := (.seq (.reg [O0 2 (.alc [.snil, .snil])]) (.seq (.reg [O1 4 .mv 0, O1 5 .mv 0, Ol 6 (.bsl 1) [ci 1, ci 2, ci 2, ci 3, ci 8], O2 7 (.call 188) 5 6, O2 8 (.call 148) 4 7, O0 3 (.alc [.snil, .snil]), S2 (.st 2) 3 8]) (.seq (.seq (.reg [O1 9 .mv 0, Ol 10 (.call 137) [.t 9, ci 25]]) (.block 0 (.seq (.reg [Ol 12 (.bin .eql) [.t 10, ci 0], O1 11 .mv 12]) (.cond (.t 11) (.reg [O1 13 (.fadr 1) 3, Sl (.st 1) [.t 13, .c .snil]]) (.seq (.reg [Ol 15 (.bin .eql) [.t 10, ci 1], O1 14 .mv 15]) (.cond (.t 14) (.drw [O1 16 (.fadr 0) 3, O1 17 .ld1 16, O1 18 .mv 0, Ol 19 (.bsl 1) [ci (-1), ci 7, ci 8], O2 20 (.call 188) 18 19, O1 21 (.bslv 1) 20, O2 22 (.app 1 8) 17 21, O1 23 (.fadr 0) 3, S2 (.st 1) 23 22] (unB [0, 1, 0, 0, 12, 28, 63, 127, 255] 0) false true) (.seq (.reg [Ol 25 (.bin .eql) [.t 10, ci 2], O1 24 .mv 25]) (.cond (.t 24) (.reg [O1 26 .mv 0, Ol 27 (.call 137) [.t 26, ci 2], Ol 28 (.bin .add) [ci 40, .t 27], O2 29 (.mks 1 8 [(.int .i64 0)]) 28 28, O1 30 (.fadr 0) 3, S2 (.st 1) 30 29]) (.seq (.reg [Ol 32 (.bin .eql) [.t 10, ci 3], O1 31 .mv 32]) (.cond (.t 31) (.reg [O1 33 .mv 0, Ol 34 (.call 137) [.t 33, ci 2], Ol 35 (.bin .add) [ci 40, .t 34], O2 36 (.mks 1 8 [(.int .i64 0)]) 35 35, O1 37 (.fadr 1) 3, S2 (.st 1) 37 36]) .skip)))))))))) (.seq (.reg [O1 38 (.ldn 2) 3, S2 (.st 2) 2 38]) .ret))))
theorem b_spec_l3DrawWord : Body Try.prog 147 39 c_spec_l3DrawWord [(.cn 2 2)] := body_mk Try.func147 (by kernel_rfl) (by decide)
theorem back_le (a b : List Int) (ok : Bool) : (wordBack a b ok).1.length ≤ 40 ∧ (wordBack a b ok).2.1.length ≤ 40 := by
  unfold wordBack
  split
  · rename_i h
    simp only [Bool.and_eq_true] at h
    obtain ⟨k1, _, k2, _⟩ := wordOk_parts h.2
    exact ⟨k1, k2⟩
  · simp
theorem powW_le (s l : List Int) : (powW s l).1.length ≤ 40 ∧ (powW s l).2.1.length ≤ 40 := back_le _ _ _
theorem turnW_le (s l : List Int) : (turnW s l).1.length ≤ 40 ∧ (turnW s l).2.1.length ≤ 40 := back_le _ _ _
def GDrawRight : GFun := fun xs objs Q => ∃ (code : List UInt8) (i : Nat) (h n : Int), xs = [.ptr 0 0 0, .int .i64 n] ∧ objs = [curO code i h] ∧ i ≤ code.length ∧ code.length ≤ 1048576 ∧ n ≤ 1000 ∧
  ∀ (s l : List Int) (i' : Nat) (h' : Int), s.length ≤ 100 → l.length ≤ 100 → i' ≤ code.length → Q (.agg [.ref 1 0 s.length, .ref 2 0 l.length]) [some (curO code i' h'), some (.arr 1 (ints s)), some (.arr 1 (ints l))]
theorem GDrawRight_mk {code : List UInt8} {i : Nat} {h n : Int} {Q : AV → List (Option AObj) → Prop} (h1 : i ≤ code.length) (h2 : code.length ≤ 1048576) (h3 : n ≤ 1000)
    (hq : ∀ (s l : List Int) (i' : Nat) (h' : Int), s.length ≤ 100 → l.length ≤ 100 → i' ≤ code.length → Q (.agg [.ref 1 0 s.length, .ref 2 0 l.length]) [some (curO code i' h'), some (.arr 1 (ints s)), some (.arr 1 (ints l))]) :
    GDrawRight [.ptr 0 0 0, .int .i64 n] [curO code i h] Q := ⟨code, i, h, n, rfl, rfl, h1, h2, h3, hq⟩
abbrev drawL (_ : List Int × List Int × Nat × Int) : List (Nat × AV) := [(0, .ptr 0 0 0), (4, .ptr 1 0 0), (5, .ptr 2 0 0)]
abbrev drawO (code : List UInt8) (a : List Int × List Int × Nat × Int) : List (Option AObj) :=
  [some (curO code a.2.2.1 a.2.2.2), some (.box [.snil, .snil]), some (.box [.ref 3 0 a.1.length, .ref 4 0 a.2.1.length]), some (.arr 1 (ints a.1)), some (.arr 1 (ints a.2.1))]
abbrev drawI (code : List UInt8) (a : List Int × List Int × Nat × Int) : Prop := a.1.length ≤ 100 ∧ a.2.1.length ≤ 100 ∧ a.2.2.1 ≤ code.length
set_option maxHeartbeats 4000000 in
theorem s_spec_l3DrawRight : GenSound Try.prog 148 1 GDrawRight := by
  have hR : Rely Try.prog (ctxOf [(136, .gen 1 GLetters), (137, .gen 1 GBelow), (139, .gen 1 GOnce), (194, .pure RWordPower), (195, .pure RWordTurn)]) :=
    rely_cons b_spec_l3DrawLetters.has s_spec_l3DrawLetters (rely_cons b_spec_l1Below.has s_spec_l1Below (rely_cons b_spec_l1Once.has s_spec_l1Once (rely_cons b_spec_WordPower.has s_spec_WordPower (rely_cons b_spec_WordTurn.has s_spec_WordTurn (rely_nil mixed)))))
  refine gen_of_aw b_spec_l3DrawRight ?_
  rintro xs objs Q - ⟨code, i, h, n, rfl, rfl, h1, h2, h3, hq⟩ -
  refine ⟨by simp, ?_⟩
  refine Aw.meet (α := Unit) (fun _ => True) (fun _ => [(0, .ptr 0 0 0), (1, .int .i64 n), (4, .ptr 1 0 0)]) (fun _ => [some (curO code i h), some (.box [.snil, .snil])]) ?_ ?_
  · refine vc2_sound hR _ _ _ _ _ ?_
    conv => whnf
    repeat' ((first | (refine And.intro (fun hb => ?_) (fun hb => ?_) <;> ((try simp only [SB, reduceCtorEq] at hb); try (exfalso; omega))) | refine G2 ?_ | rw [ints_at (by omega)] | rw [ints_at0 (by omega)] | rw [ints_at' (by omega) (by omega)] | refine G1 ?_ | fail) <;> conv => whnf)
    refine ⟨(), trivial, [some 0, some 1], rfl, rfl, ?_, ?_⟩
    · repeat' (first | exact trivial | exact rfl | exact Or.inl rfl | refine And.intro ?_ ?_)
    · repeat' (first
        | exact trivial
        | refine ⟨?_, ?_⟩
        | fail)
      all_goals first
        | with_reducible rfl
        | (conv => whnf
           try left
           conv => lhs; whnf
           first
             | rfl
             | exact congrArg (AV.int .i64) (by omega)
             | skip)
  rintro _ -
  refine Aw.meet (α := List Int × List Int × Nat × Int) (drawI code) drawL (drawO code) ?_ ?_
  · refine vc2_sound hR _ _ _ _ _ ?_
    conv => whnf
    repeat' ((first | (refine And.intro (fun hb => ?_) (fun hb => ?_) <;> ((try simp only [SB, reduceCtorEq] at hb); try (exfalso; omega))) | refine G2 ?_ | rw [ints_at (by omega)] | rw [ints_at0 (by omega)] | rw [ints_at' (by omega) (by omega)] | refine G1 ?_ | refine ⟨GLetters_mk (by omega) (by omega) (by omega) (by omega) (fun la i' h' hla hi' => ?_)⟩ | refine ⟨GBelow_mk (by omega) (by omega) (by omega) (fun x i' h' hx0 hx1 hi' => ?_)⟩ | fail) <;> conv => whnf)
    rename_i la1 _ _ _ _ _ _ _
    refine ⟨(la1, la ++ [x], i', h'), ⟨by dsimp only; omega, by simp; omega, hi'⟩, [some 0, some 1, some 5, some 2, some 4], rfl, rfl, ?_, ?_⟩
    · refine And.intro (And.intro (.inl rfl) (And.intro (.inl rfl) (And.intro (.inl rfl) trivial))) (And.intro (And.intro (.inl rfl) (And.intro (.inl rfl) trivial)) (And.intro (And.intro rfl (And.intro ?_ trivial)) (And.intro (And.intro rfl rfl) (And.intro (And.intro rfl (app_step la x la.length rfl)) trivial))))
      show AV.ref 4 0 (la.length + 1) = AV.ref 4 0 (la ++ [x]).length
      simp
    · repeat' (first
        | exact trivial
        | refine ⟨?_, ?_⟩
        | fail)
      all_goals first
        | with_reducible rfl
        | (conv => whnf
           try left
           conv => lhs; whnf
           first
             | rfl
             | exact congrArg (AV.int .i64) (by omega)
             | skip)
  rintro ⟨s, l, i1, h1'⟩ ⟨hs, hl, hi1⟩
  dsimp only at hs hl hi1
  refine Aw.meet (α := List Int × List Int × Nat × Int) (drawI code) drawL (drawO code) ?_ ?_
  · refine vc2_sound hR _ _ _ _ _ ?_
    conv => whnf
    repeat' ((first | (refine And.intro (fun hb => ?_) (fun hb => ?_) <;> ((try simp only [SB, reduceCtorEq] at hb); try (exfalso; omega))) | refine G2 ?_ | rw [ints_at (by omega)] | rw [ints_at0 (by omega)] | rw [ints_at' (by omega) (by omega)] | refine G1 ?_ | refine ⟨GOnce_mk (by omega) (by omega) (by omega) (fun b i' h' hi' => ?_)⟩ | fail) <;> conv => whnf)
    · have hbk := powW_le s l
      refine ⟨_, _, RWordPower_eq (s := s) (l := l) (by repeat' (first | exact rfl | refine args_cons ?_ ?_ | refine snap_agg ?_ | refine cells_cons ?_ ?_ | exact snap1_all rfl (by first | (simp only [length_ints]; done) | (simp only [length_nodeRows]; done) | simp [ints, marks]) | exact snap_all rfl (by first | (simp only [length_ints]; done) | (simp only [length_nodeRows]; done) | simp [ints, marks]) | exact snap1_all2 rfl (by first | (simp only [length_ints]; done) | (simp only [length_nodeRows]; done) | simp [ints, marks]) | fail)), ?_⟩
      conv => whnf
      repeat' ((first | (refine And.intro (fun hb => ?_) (fun hb => ?_) <;> ((try simp only [SB, reduceCtorEq] at hb); try (exfalso; omega))) | refine G2 ?_ | rw [ints_at (by omega)] | rw [ints_at0 (by omega)] | rw [ints_at' (by omega) (by omega)] | refine G1 ?_ | fail) <;> conv => whnf)
      all_goals
        refine ⟨((powW s l).1, (powW s l).2.1, i', h'), ⟨by dsimp only; omega, by dsimp only; omega, hi'⟩, [some 0, some 1, some 2, some 5, some 6], rfl, rfl, ?_, ?_⟩
        · exact And.intro (And.intro (.inl rfl) (And.intro (.inl rfl) (And.intro (.inl rfl) trivial))) (And.intro (And.intro (.inl rfl) (And.intro (.inl rfl) trivial)) (And.intro (And.intro rfl (And.intro rfl trivial)) (And.intro (And.intro rfl rfl) (And.intro (And.intro rfl rfl) trivial))))
        · repeat' (first
            | exact trivial
            | refine ⟨?_, ?_⟩
            | fail)
          all_goals first
            | with_reducible rfl
            | (conv => whnf
               try left
               conv => lhs; whnf
               first
                 | rfl
                 | exact congrArg (AV.int .i64) (by omega)
                 | skip)
    · refine ⟨(s, l, i', h'), ⟨hs, hl, hi'⟩, [some 0, some 1, some 2, some 3, some 4], rfl, rfl, ?_, ?_⟩
      · exact And.intro (And.intro (.inl rfl) (And.intro (.inl rfl) (And.intro (.inl rfl) trivial))) (And.intro (And.intro (.inl rfl) (And.intro (.inl rfl) trivial)) (And.intro (And.intro rfl (And.intro rfl trivial)) (And.intro (And.intro rfl rfl) (And.intro (And.intro rfl rfl) trivial))))
      · repeat' (first
          | exact trivial
          | refine ⟨?_, ?_⟩
          | fail)
        all_goals first
          | with_reducible rfl
          | (conv => whnf
             try left
             conv => lhs; whnf
             first
               | rfl
               | exact congrArg (AV.int .i64) (by omega)
               | skip)
  clear hs hl hi1 s l i1 h1'
  rintro ⟨s, l, i1, h1'⟩ ⟨hs, hl, hi1⟩
  dsimp only at hs hl hi1
  refine Aw.meet (α := List Int × List Int × Nat × Int) (drawI code) drawL (drawO code) ?_ ?_
  · refine vc2_sound hR _ _ _ _ _ ?_
    conv => whnf
    repeat' ((first | (refine And.intro (fun hb => ?_) (fun hb => ?_) <;> ((try simp only [SB, reduceCtorEq] at hb); try (exfalso; omega))) | refine G2 ?_ | rw [ints_at (by omega)] | rw [ints_at0 (by omega)] | rw [ints_at' (by omega) (by omega)] | refine G1 ?_ | refine ⟨GOnce_mk (by omega) (by omega) (by omega) (fun b i' h' hi' => ?_)⟩ | fail) <;> conv => whnf)
    · have hbk := turnW_le s l
      refine ⟨_, _, RWordTurn_eq (s := s) (l := l) (by repeat' (first | exact rfl | refine args_cons ?_ ?_ | refine snap_agg ?_ | refine cells_cons ?_ ?_ | exact snap1_all rfl (by first | (simp only [length_ints]; done) | (simp only [length_nodeRows]; done) | simp [ints, marks]) | exact snap_all rfl (by first | (simp only [length_ints]; done) | (simp only [length_nodeRows]; done) | simp [ints, marks]) | exact snap1_all2 rfl (by first | (simp only [length_ints]; done) | (simp only [length_nodeRows]; done) | simp [ints, marks]) | fail)), ?_⟩
      conv => whnf
      repeat' ((first | (refine And.intro (fun hb => ?_) (fun hb => ?_) <;> ((try simp only [SB, reduceCtorEq] at hb); try (exfalso; omega))) | refine G2 ?_ | rw [ints_at (by omega)] | rw [ints_at0 (by omega)] | rw [ints_at' (by omega) (by omega)] | refine G1 ?_ | fail) <;> conv => whnf)
      all_goals
        refine ⟨((turnW s l).1, (turnW s l).2.1, i', h'), ⟨by dsimp only; omega, by dsimp only; omega, hi'⟩, [some 0, some 1, some 2, some 5, some 6], rfl, rfl, ?_, ?_⟩
        · exact And.intro (And.intro (.inl rfl) (And.intro (.inl rfl) (And.intro (.inl rfl) trivial))) (And.intro (And.intro (.inl rfl) (And.intro (.inl rfl) trivial)) (And.intro (And.intro rfl (And.intro rfl trivial)) (And.intro (And.intro rfl rfl) (And.intro (And.intro rfl rfl) trivial))))
        · repeat' (first
            | exact trivial
            | refine ⟨?_, ?_⟩
            | fail)
          all_goals first
            | with_reducible rfl
            | (conv => whnf
               try left
               conv => lhs; whnf
               first
                 | rfl
                 | exact congrArg (AV.int .i64) (by omega)
                 | skip)
    · refine ⟨(s, l, i', h'), ⟨hs, hl, hi'⟩, [some 0, some 1, some 2, some 3, some 4], rfl, rfl, ?_, ?_⟩
      · exact And.intro (And.intro (.inl rfl) (And.intro (.inl rfl) (And.intro (.inl rfl) trivial))) (And.intro (And.intro (.inl rfl) (And.intro (.inl rfl) trivial)) (And.intro (And.intro rfl (And.intro rfl trivial)) (And.intro (And.intro rfl rfl) (And.intro (And.intro rfl rfl) trivial))))
      · repeat' (first
          | exact trivial
          | refine ⟨?_, ?_⟩
          | fail)
        all_goals first
          | with_reducible rfl
          | (conv => whnf
             try left
             conv => lhs; whnf
             first
               | rfl
               | exact congrArg (AV.int .i64) (by omega)
               | skip)
  clear hs hl hi1 s l i1 h1'
  rintro ⟨s, l, i1, h1'⟩ ⟨hs, hl, hi1⟩
  dsimp only at hs hl hi1
  refine vc2_sound hR _ _ _ _ _ ?_
  conv => whnf
  repeat' ((first | (refine And.intro (fun hb => ?_) (fun hb => ?_) <;> ((try simp only [SB, reduceCtorEq] at hb); try (exfalso; omega))) | refine G2 ?_ | rw [ints_at (by omega)] | rw [ints_at0 (by omega)] | rw [ints_at' (by omega) (by omega)] | refine G1 ?_ | fail) <;> conv => whnf)
  refine ⟨.inl rfl, ?_⟩
  conv => whnf
  refine And.intro (Nat.le_of_ble_eq_true rfl) ?_
  conv => whnf
  exact ⟨[some 0, some 3, some 4], .agg [.ref 1 0 s.length, .ref 2 0 l.length], [some (curO code i1 h1'), some (.arr 1 (ints s)), some (.arr 1 (ints l))],
    ⟨rfl, And.intro (And.intro (.inl rfl) (And.intro (.inl rfl) (And.intro (.inl rfl) trivial))) (And.intro (And.intro rfl rfl) (And.intro (And.intro rfl rfl) trivial))⟩, And.intro rfl (And.intro rfl trivial), rfl, hq s l i1 h1' hs hl hi1⟩
def GDrawWord : GFun := fun xs objs Q => ∃ (code : List UInt8) (i : Nat) (h : Int), xs = [.ptr 0 0 0] ∧ objs = [curO code i h] ∧ i ≤ code.length ∧ code.length ≤ 1048576 ∧
  ∀ (s l : List Int) (i' : Nat) (h' : Int), s.length ≤ 201 → l.length ≤ 201 → i' ≤ code.length → Q (.agg [.ref 1 0 s.length, .ref 2 0 l.length]) [some (curO code i' h'), some (.arr 1 (ints s)), some (.arr 1 (ints l))]
theorem GDrawWord_mk {code : List UInt8} {i : Nat} {h : Int} {Q : AV → List (Option AObj) → Prop} (h1 : i ≤ code.length) (h2 : code.length ≤ 1048576)
    (hq : ∀ (s l : List Int) (i' : Nat) (h' : Int), s.length ≤ 201 → l.length ≤ 201 → i' ≤ code.length → Q (.agg [.ref 1 0 s.length, .ref 2 0 l.length]) [some (curO code i' h'), some (.arr 1 (ints s)), some (.arr 1 (ints l))]) :
    GDrawWord [.ptr 0 0 0] [curO code i h] Q := ⟨code, i, h, rfl, rfl, h1, h2, hq⟩
theorem GPickInt_nv (xs : List AV) (objs : List AObj) (Q : AV → List (Option AObj) → Prop) (h : GPickInt xs objs Q) : ∃ r out, Q r out := by
  obtain ⟨code, i, h, l, _, _, _, _, h3, _, hq⟩ := h
  exact ⟨_, _, hq 0 0 0 h3 (Nat.zero_le _)⟩
theorem GDrawRight_nv (xs : List AV) (objs : List AObj) (Q : AV → List (Option AObj) → Prop) (h : GDrawRight xs objs Q) : ∃ r out, Q r out := by
  obtain ⟨code, i, h, n, _, _, _, _, _, hq⟩ := h
  exact ⟨_, _, hq [] [] 0 0 (by simp) (by simp) (Nat.zero_le _)⟩
theorem pick5 (j : Nat) : ([1, 2, 2, 3, 8] : List Int).getD j 0 ≤ 8 := by
  rcases j with _ | _ | _ | _ | _ | j <;> simp
abbrev drawL2 (_ : List Int × List Int × Nat × Int) : List (Nat × AV) := [(0, .ptr 0 0 0), (2, .ptr 1 0 0), (3, .ptr 2 0 0)]
abbrev drawI2 (code : List UInt8) (a : List Int × List Int × Nat × Int) : Prop := a.1.length ≤ 200 ∧ a.2.1.length ≤ 200 ∧ a.2.2.1 ≤ code.length
theorem zeros_ints (n : Nat) : List.replicate n [AV.int .i64 0] = ints (List.replicate n 0) := by simp [ints]
set_option maxHeartbeats 4000000 in
theorem s_spec_l3DrawWord : GenSound Try.prog 147 1 GDrawWord := by
  have hR : Rely Try.prog (ctxOf [(188, .gen 2 GPickInt), (137, .gen 1 GBelow), (148, .gen 1 GDrawRight)]) :=
    rely_cons b_spec_l1PickInt.has s_spec_l1PickInt (rely_cons b_spec_l1Below.has s_spec_l1Below (rely_cons b_spec_l3DrawRight.has s_spec_l3DrawRight (rely_nil mixed)))
  have hV : CtxNV (ctxOf [(188, .gen 2 GPickInt), (137, .gen 1 GBelow), (148, .gen 1 GDrawRight)]) := nv_gen GPickInt_nv (nv_gen GBelow_nv (nv_gen GDrawRight_nv nvNil))
  refine gen_of_aw b_spec_l3DrawWord ?_
  rintro xs objs Q - ⟨code, i, h, rfl, rfl, h1, h2, hq⟩ -
  refine ⟨by simp, ?_⟩
  refine Aw.meet (α := Unit) (fun _ => True) (fun _ => [(0, .ptr 0 0 0), (2, .ptr 1 0 0)]) (fun _ => [some (curO code i h), some (.box [.snil, .snil])]) ?_ ?_
  · refine vc2_sound hR _ _ _ _ _ ?_
    conv => whnf
    repeat' ((first | (refine And.intro (fun hb => ?_) (fun hb => ?_) <;> ((try simp only [SB, reduceCtorEq] at hb); try (exfalso; omega))) | refine G2 ?_ | rw [ints_at (by omega)] | rw [ints_at0 (by omega)] | rw [ints_at' (by omega) (by omega)] | refine G1 ?_ | fail) <;> conv => whnf)
    refine ⟨(), trivial, [some 0, some 1], rfl, rfl, ?_, ?_⟩
    · repeat' (first | exact trivial | exact rfl | exact Or.inl rfl | refine And.intro ?_ ?_)
    · repeat' (first
        | exact trivial
        | refine ⟨?_, ?_⟩
        | fail)
      all_goals first
        | with_reducible rfl
        | (conv => whnf
           try left
           conv => lhs; whnf
           first
             | rfl
             | exact congrArg (AV.int .i64) (by omega)
             | skip)
  rintro _ -
  refine Aw.meet (α := List Int × List Int × Nat × Int) (drawI2 code) drawL2 (drawO code) ?_ ?_
  · refine vc2_sound hR _ _ _ _ _ ?_
    have p5 := pick5
    conv => whnf
    repeat' ((first | (refine And.intro (fun hb => ?_) (fun hb => ?_) <;> ((try simp only [SB, reduceCtorEq] at hb); try (exfalso; omega))) | refine G2 ?_ | rw [ints_at (by omega)] | rw [ints_at0 (by omega)] | rw [ints_at' (by omega) (by omega)] | refine G1 ?_ | refine ⟨GPickInt_mk (l := [1, 2, 2, 3, 8]) (by omega) (by omega) (by simp) (by simp) (fun j i' h' hj hi' => ?_)⟩ | refine ⟨GDrawRight_mk (by omega) (by omega) (Int.le_trans (pick5 _) (by omega)) (fun s l i' h' hs hl hi' => ?_)⟩ | fail) <;> conv => whnf)
    refine ⟨(s, l, i', h'), ⟨by dsimp only; omega, by dsimp only; omega, hi'⟩, [some 0, some 1, some 5, some 3, some 4], rfl, rfl, ?_, ?_⟩
    · exact And.intro (And.intro (.inl rfl) (And.intro (.inl rfl) (And.intro (.inl rfl) trivial))) (And.intro (And.intro (.inl rfl) (And.intro (.inl rfl) trivial)) (And.intro (And.intro rfl (And.intro rfl trivial)) (And.intro (And.intro rfl rfl) (And.intro (And.intro rfl rfl) trivial))))
    · repeat' (first
        | exact trivial
        | refine ⟨?_, ?_⟩
        | fail)
      all_goals first
        | with_reducible rfl
        | (conv => whnf
           try left
           conv => lhs; whnf
           first
             | rfl
             | exact congrArg (AV.int .i64) (by omega)
             | skip)
  rintro ⟨s, l, i1, h1'⟩ ⟨hs, hl, hi1⟩
  dsimp only at hs hl hi1 ⊢
  refine Aw.meet (α := List Int × List Int × Nat × Int) (fun a => a.1.length ≤ 201 ∧ a.2.1.length ≤ 201 ∧ a.2.2.1 ≤ code.length) drawL2 (drawO code) ?_ ?_
  · refine vc3_sound hR hV _ _ _ _ _ ?_
    conv => whnf
    repeat' ((first | (refine And.intro (fun hb => ?_) (fun hb => ?_) <;> ((try simp only [SB, reduceCtorEq] at hb); try (exfalso; omega))) | refine G2 ?_ | rw [ints_at (by omega)] | rw [ints_at0 (by omega)] | rw [ints_at' (by omega) (by omega)] | refine G1 ?_ | refine And.intro (show (s.length + 1) * 8 ≤ 140737488355328 by omega) ?_ | refine And.intro (show s.length + 1 ≤ 140737488355328 by omega) ?_ | (refine And.intro (show s.length ≤ (ints s).length by rw [length_ints]; exact Nat.le_refl _) ?_) | refine ⟨GPickInt_mk (l := [-1, 7, 8]) (by omega) (by omega) (by simp) (by simp) (fun j i' h' hj hi' => ?_)⟩ | refine ⟨GBelow_mk (by omega) (by omega) (by omega) (fun x i' h' hx0 hx1 hi' => ?_)⟩ | fail) <;> conv => whnf)
    · refine ⟨(s, [], i', h'), ⟨by dsimp only; omega, by simp, hi'⟩, [some 0, some 1, some 2, some 3, none], rfl, rfl, ?_, ?_⟩
      · exact And.intro (And.intro (.inl rfl) (And.intro (.inl rfl) (And.intro (.inl rfl) trivial))) (And.intro (And.intro (.inl rfl) (And.intro (.inl rfl) trivial)) (And.intro (And.intro rfl (And.intro ⟨rfl, rfl, rfl⟩ trivial)) (And.intro (And.intro rfl rfl) (And.intro rfl trivial))))
      · repeat' (first
          | exact trivial
          | refine ⟨?_, ?_⟩
          | fail)
        all_goals first
          | with_reducible rfl
          | (conv => whnf
             try left
             conv => lhs; whnf
             first
               | rfl
               | exact congrArg (AV.int .i64) (by omega)
               | skip)
    · refine ⟨(s ++ [([-1, 7, 8] : List Int).getD j 0], l, i', h'), ⟨by simp; omega, by dsimp only; omega, hi'⟩, [some 0, some 1, some 2, some 6, some 4], rfl, rfl, ?_, ?_⟩
      · refine And.intro (And.intro (.inl rfl) (And.intro (.inl rfl) (And.intro (.inl rfl) trivial))) (And.intro (And.intro (.inl rfl) (And.intro (.inl rfl) trivial)) (And.intro (And.intro ?_ (And.intro rfl trivial)) (And.intro (And.intro rfl (app_step s _ s.length rfl)) (And.intro (And.intro rfl rfl) trivial))))
        show AV.ref 6 0 (s.length + 1) = AV.ref 6 0 (s ++ [([-1, 7, 8] : List Int).getD j 0]).length
        simp
      · repeat' (first
          | exact trivial
          | refine ⟨?_, ?_⟩
          | fail)
        all_goals first
          | with_reducible rfl
          | (conv => whnf
             try left
             conv => lhs; whnf
             first
               | rfl
               | exact congrArg (AV.int .i64) (by omega)
               | skip)
    · refine ⟨(List.replicate (40 + x).toNat 0, l, i', h'), ⟨by simp; omega, by dsimp only; omega, hi'⟩, [some 0, some 1, some 2, some 5, some 4], rfl, rfl, ?_, ?_⟩
      · refine And.intro (And.intro (.inl rfl) (And.intro (.inl rfl) (And.intro (.inl rfl) trivial))) (And.intro (And.intro (.inl rfl) (And.intro (.inl rfl) trivial)) (And.intro (And.intro ?_ (And.intro rfl trivial)) (And.intro (And.intro rfl (zeros_ints _)) (And.intro (And.intro rfl rfl) trivial))))
        show AV.ref 5 0 (40 + x).toNat = AV.ref 5 0 (List.replicate (40 + x).toNat (0 : Int)).length
        simp
      · repeat' (first
          | exact trivial
          | refine ⟨?_, ?_⟩
          | fail)
        all_goals first
          | with_reducible rfl
          | (conv => whnf
             try left
             conv => lhs; whnf
             first
               | rfl
               | exact congrArg (AV.int .i64) (by omega)
               | skip)
    · refine ⟨(s, List.replicate (40 + x).toNat 0, i', h'), ⟨by dsimp only; omega, by simp; omega, hi'⟩, [some 0, some 1, some 2, some 3, some 5], rfl, rfl, ?_, ?_⟩
      · refine And.intro (And.intro (.inl rfl) (And.intro (.inl rfl) (And.intro (.inl rfl) trivial))) (And.intro (And.intro (.inl rfl) (And.intro (.inl rfl) trivial)) (And.intro (And.intro rfl (And.intro ?_ trivial)) (And.intro (And.intro rfl rfl) (And.intro (And.intro rfl (zeros_ints _)) trivial))))
        show AV.ref 5 0 (40 + x).toNat = AV.ref 5 0 (List.replicate (40 + x).toNat (0 : Int)).length
        simp
      · repeat' (first
          | exact trivial
          | refine ⟨?_, ?_⟩
          | fail)
        all_goals first
          | with_reducible rfl
          | (conv => whnf
             try left
             conv => lhs; whnf
             first
               | rfl
               | exact congrArg (AV.int .i64) (by omega)
               | skip)
    · refine ⟨(s, l, i', h'), ⟨by dsimp only; omega, by dsimp only; omega, hi'⟩, [some 0, some 1, some 2, some 3, some 4], rfl, rfl, ?_, ?_⟩
      · exact And.intro (And.intro (.inl rfl) (And.intro (.inl rfl) (And.intro (.inl rfl) trivial))) (And.intro (And.intro (.inl rfl) (And.intro (.inl rfl) trivial)) (And.intro (And.intro rfl (And.intro rfl trivial)) (And.intro (And.intro rfl rfl) (And.intro (And.intro rfl rfl) trivial))))
      · repeat' (first
          | exact trivial
          | refine ⟨?_, ?_⟩
          | fail)
        all_goals first
          | with_reducible rfl
          | (conv => whnf
             try left
             conv => lhs; whnf
             first
               | rfl
               | exact congrArg (AV.int .i64) (by omega)
               | skip)
  clear hs hl hi1 s l i1 h1'
  rintro ⟨s, l, i1, h1'⟩ ⟨hs, hl, hi1⟩
  dsimp only at hs hl hi1 ⊢
  refine vc2_sound hR _ _ _ _ _ ?_
  conv => whnf
  repeat' ((first | (refine And.intro (fun hb => ?_) (fun hb => ?_) <;> ((try simp only [SB, reduceCtorEq] at hb); try (exfalso; omega))) | refine G2 ?_ | rw [ints_at (by omega)] | rw [ints_at0 (by omega)] | rw [ints_at' (by omega) (by omega)] | refine G1 ?_ | fail) <;> conv => whnf)
  refine ⟨.inl rfl, ?_⟩
  conv => whnf
  refine And.intro (Nat.le_of_ble_eq_true rfl) ?_
  conv => whnf
  exact ⟨[some 0, some 3, some 4], .agg [.ref 1 0 s.length, .ref 2 0 l.length], [some (curO code i1 h1'), some (.arr 1 (ints s)), some (.arr 1 (ints l))],
    ⟨rfl, And.intro (And.intro (.inl rfl) (And.intro (.inl rfl) (And.intro (.inl rfl) trivial))) (And.intro (And.intro rfl rfl) (And.intro (And.intro rfl rfl) trivial))⟩, And.intro rfl (And.intro rfl trivial), rfl, hq s l i1 h1' (by omega) (by omega) hi1⟩
def c_spec_l4DrawEdges : ICode := (.seq (.reg [Ol 8 .mv [.c .snil]]) (.seq (.reg [O0 11 .bsle, O1 9 .mv 11]) (.seq (.seq (.reg [Ol 10 .mv [ci 0]]) (.block 0 (.loop (.seq (.seq (.reg [O1 12 .mv 10, O1 13 .mv 3, O2 14 (.bin .lss) 12 13]) (.cond (.t 14) .skip (.exit 0))) (.seq (.block 1 (.reg [O1 17 .mv 9, O1 18 .mv 0, O1 19 .mv 2, O2 20 (.call 137) 18 19, O1 21 .mv 0, O1 22 .mv 1, O2 23 (.call 137) 21 22, O1 24 .mv 0, O1 25 .mv 2, O2 26 (.call 137) 24 25, O1 27 .mv 0, Ol 28 (.call 139) [.t 27, ci 3], Ol 29 (.bld [(.int .i64 0), (.int .i64 0), (.int .i64 0), (.bool false)] [(0, 1), (1, 1), (2, 1), (3, 1)]) [.t 20, .t 23, .t 26, .t 28], O1 30 (.bslv 4) 29, O2 31 (.app 4 32) 17 30, O1 9 .mv 31])) (.reg [O1 15 .mv 10, Ol 16 (.bin .add) [.t 15, ci 1], O1 10 .mv 16])))))) (.seq (.reg [O1 32 .mv 9, O1 8 .mv 32]) .ret))))
theorem b_spec_l4DrawEdges : Body Try.prog 205 33 c_spec_l4DrawEdges [(.t 8)] := body_mk Try.func205 (by kernel_rfl) (by decide)
def c_spec_l4DrawRight : ICode := (.seq (.reg [O0 6 (.alc [(.int .i64 0), (.int .i64 0), (.int .i64 0), .snil])]) (.seq (.reg [O1 10 .mv 0, O1 11 .mv 2, O2 12 (.call 137) 10 11, Ol 13 (.bin .add) [ci 1, .t 12], O1 7 .mv 13]) (.seq (.reg [O1 15 .mv 1, O1 16 .mv 7, O1 17 .mv 0, O1 18 .mv 7, Ol 19 (.bin .shl) [ci 1, .t 18], O2 20 (.call 137) 17 19, Ol 21 (.bin .or) [ci 1, .t 20], O1 22 .mv 0, O1 23 .mv 1, O1 24 .mv 7, O1 25 .mv 0, O1 26 .mv 7, Ol 27 (.bin .mul) [ci 2, .t 26], O1 28 .mv 1, O2 29 (.bin .mul) 27 28, O2 30 (.call 137) 25 29, Ol 31 (.bin .add) [ci 1, .t 30], Ol 32 (.call 205) [.t 22, .t 23, .t 24, .t 31], Ol 33 (.call 154) [.t 15, .t 16, .t 21, .t 32], O1 14 .mv 33, O1 34 (.ext 0) 14, O1 35 (.ext 1) 14, O0 8 (.alc [(.int .i64 0), (.int .i64 0), (.int .i64 0), .snil]), S2 (.st 4) 8 34, O1 9 .mv 35]) (.seq (.reg [O1 36 (.ldn 4) 8, S2 (.st 4) 6 36]) .ret))))
theorem b_spec_l4DrawRight : Body Try.prog 187 37 c_spec_l4DrawRight [(.cn 6 4)] := body_mk Try.func187 (by kernel_rfl) (by decide)
def c_spec_l4DrawAuto : ICode := (.seq (.reg [O0 4 (.alc [(.int .i64 0), (.int .i64 0), (.int .i64 0), .snil])]) (.seq (.reg [O1 6 .mv 0, O1 7 .mv 0, Ol 8 (.bsl 1) [ci 1, ci 2, ci 2, ci 2, ci 3, ci 4], O2 9 (.call 188) 7 8, O1 10 .mv 1, O3 11 (.call 187) 6 9 10, O0 5 (.alc [(.int .i64 0), (.int .i64 0), (.int .i64 0), .snil]), S2 (.st 4) 5 11]) (.seq (.seq (.reg [O1 12 .mv 0, Ol 13 (.call 137) [.t 12, ci 30]]) (.block 0 (.seq (.reg [Ol 15 (.bin .eql) [.t 13, ci 0], O1 14 .mv 15]) (.cond (.t 14) (.reg [O1 16 .mv 0, Ol 17 (.bsl 1) [ci 0, ci 8, ci 9], O2 18 (.call 188) 16 17, O1 19 (.fadr 0) 5, S2 (.st 1) 19 18]) (.seq (.reg [Ol 21 (.bin .eql) [.t 13, ci 1], O1 20 .mv 21]) (.cond (.t 20) (.reg [O1 22 .mv 0, Ol 23 (.bsl 1) [ci 0, ci (-1), ci 31, ci 32], O2 24 (.call 188) 22 23, O1 25 (.fadr 1) 5, S2 (.st 1) 25 24]) (.seq (.reg [Ol 27 (.bin .eql) [.t 13, ci 2], O1 26 .mv 27]) (.cond (.t 26) (.reg [O1 28 .mv 0, Ol 29 (.bsl 1) [ci (-1), ci 0, ci 1048576], O2 30 (.call 188) 28 29, O1 31 (.fadr 2) 5, S2 (.st 1) 31 30]) (.seq (.reg [Ol 33 (.bin .eql) [.t 13, ci 3], O1 32 .mv 33]) (.cond (.t 32) (.reg [O1 34 (.fadr 3) 5, O1 35 .ld1 34, O0 36 (.bld [(.int .i64 0), (.int .i64 0), (.int .i64 0), (.bool false)] []), O1 37 (.bslv 4) 36, O2 38 (.app 4 32) 35 37, O1 39 (.fadr 3) 5, S2 (.st 1) 39 38]) (.seq (.reg [Ol 41 (.bin .eql) [.t 13, ci 4], O1 40 .mv 41]) (.cond (.t 40) (.reg [O1 42 (.fadr 3) 5, O1 43 .ld1 42, O1 44 (.fadr 1) 5, O1 45 .ld1 44, O1 46 (.bld [(.int .i64 0), (.int .i64 0), (.int .i64 0), (.bool false)] [(0, 1)]) 45, O1 47 (.bslv 4) 46, O2 48 (.app 4 32) 43 47, O1 49 (.fadr 3) 5, S2 (.st 1) 49 48]) .skip)))))))))))) (.seq (.reg [O1 50 (.ldn 4) 5, S2 (.st 4) 4 50]) .ret))))
theorem b_spec_l4DrawAuto : Body Try.prog 138 51 c_spec_l4DrawAuto [(.cn 4 4)] := body_mk Try.func138 (by kernel_rfl) (by decide)
theorem GOnce_nv (xs : List AV) (objs : List AObj) (Q : AV → List (Option AObj) → Prop) (h : GOnce xs objs Q) : ∃ r out, Q r out := by
  obtain ⟨code, i, h, n, _, _, _, _, _, hq⟩ := h
  exact ⟨_, _, hq false 0 0 (Nat.zero_le _)⟩
def GEdges : GFun := fun xs objs Q => ∃ (code : List UInt8) (i : Nat) (h l n m : Int), xs = [.ptr 0 0 0, .int .i64 l, .int .i64 n, .int .i64 m] ∧ objs = [curO code i h] ∧ i ≤ code.length ∧ code.length ≤ 1048576 ∧ 0 ≤ m ∧ m ≤ 2000 ∧ l ≤ 1073741824 ∧ n ≤ 1073741824 ∧
  ∀ (es : List EdgeD) (i' : Nat) (h' : Int), es.length ≤ m → i' ≤ code.length → Q (.ref 1 0 es.length) [some (curO code i' h'), some (.arr 4 (edgeRows es))]
theorem GEdges_mk {code : List UInt8} {i : Nat} {h l n m : Int} {Q : AV → List (Option AObj) → Prop} (h1 : i ≤ code.length) (h2 : code.length ≤ 1048576) (h3 : 0 ≤ m ∧ m ≤ 2000) (h4 : l ≤ 1073741824) (h5 : n ≤ 1073741824)
    (hq : ∀ (es : List EdgeD) (i' : Nat) (h' : Int), es.length ≤ m → i' ≤ code.length → Q (.ref 1 0 es.length) [some (curO code i' h'), some (.arr 4 (edgeRows es))]) : GEdges [.ptr 0 0 0, .int .i64 l, .int .i64 n, .int .i64 m] [curO code i h] Q :=
  ⟨code, i, h, l, n, m, rfl, rfl, h1, h2, h3.1, h3.2, h4, h5, hq⟩
theorem app_edge (M : List EdgeD) (a b c : Int) (d : Bool) : List.take M.length (edgeRows M) ++ [[.int .i64 a, .int .i64 b, .int .i64 c, .bool d]] = edgeRows (M ++ [⟨a, b, c, d⟩]) := by
  rw [List.take_of_length_le (by rw [length_edgeRows]; exact Nat.le_refl _)]
  simp [edgeRows, edgeRow]
theorem s_spec_l4DrawEdges : GenSound Try.prog 205 1 GEdges := by
  have hR : Rely Try.prog (ctxOf [(137, .gen 1 GBelow), (139, .gen 1 GOnce)]) := rely_cons b_spec_l1Below.has s_spec_l1Below (rely_cons b_spec_l1Once.has s_spec_l1Once (rely_nil mixed))
  refine gen_of_aw b_spec_l4DrawEdges ?_
  rintro xs objs Q - ⟨code, i, h, l, n, m, rfl, rfl, h1, h2, h3, h3', h4, h5, hq⟩ -
  refine ⟨by simp, vc2_sound hR _ _ _ _ _ ?_⟩
  conv => whnf
  repeat' ((first | (refine And.intro (fun hb => ?_) (fun hb => ?_) <;> ((try simp only [SB, reduceCtorEq] at hb); try (exfalso; omega))) | refine G2 ?_ | rw [ints_at (by omega)] | rw [ints_at0 (by omega)] | rw [ints_at' (by omega) (by omega)] | refine G1 ?_ | fail) <;> conv => whnf)
  refine Lp.intro (α := List EdgeD × Nat × Int) (fun a => (a.1.length : Int) ≤ m ∧ a.2.1 ≤ code.length) (fun a => m.toNat - a.1.length) (fun a => [(0, .ptr 0 0 0), (1, .int .i64 l), (2, .int .i64 n), (3, .int .i64 m), (9, .ref 1 0 a.1.length), (10, .int .i64 a.1.length)])
    (fun a => [some (curO code a.2.1 a.2.2), some (.arr 4 (edgeRows a.1))]) ?_ ?_
  · refine ⟨([], i, h), ⟨h3, h1⟩, [some 0, none], rfl, rfl, ?_, ?_⟩
    · exact And.intro (And.intro (.inl rfl) (And.intro (.inl rfl) (And.intro (.inl rfl) trivial))) (And.intro rfl trivial)
    · repeat' (first
        | exact trivial
        | refine ⟨?_, ?_⟩
        | fail)
      all_goals first
        | with_reducible rfl
        | (conv => whnf
           try left
           conv => lhs; whnf
           first
             | rfl
             | exact congrArg (AV.int .i64) (by omega)
             | skip)
  · rintro ⟨es, i2, h2'⟩ ⟨hl, hi2⟩
    dsimp only at hl hi2 ⊢
    have hil := length_edgeRows es
    refine vc2_sound hR _ _ _ _ _ ?_
    conv => whnf
    repeat' ((first | (refine And.intro (fun hb => ?_) (fun hb => ?_) <;> ((try simp only [SB, reduceCtorEq] at hb); try (exfalso; omega))) | refine G2 ?_ | rw [ints_at (by omega)] | rw [ints_at0 (by omega)] | rw [ints_at' (by omega) (by omega)] | refine G1 ?_ | refine ⟨GBelow_mk (by omega) (by omega) (by omega) (fun y i' h' hx0 hx1 hi' => ?_)⟩ | refine ⟨GOnce_mk (by omega) (by omega) (by omega) (fun b i' h' hi' => ?_)⟩ | fail) <;> conv => whnf)
    · obtain rfl : b = true := by simpa using hb
      rename_i y1 a1 a2 a3 a4 a5 y2 b1 b2 b3 b4 b5 c1 c2 c3
      refine ⟨(es ++ [⟨y1, y2, y, true⟩], i', h'), ⟨by simp; omega, hi'⟩, by simp; omega, [some 0, some 2], rfl, rfl, ?_, ?_⟩
      · exact And.intro (And.intro (.inl rfl) (And.intro (.inl rfl) (And.intro (.inl rfl) trivial))) (And.intro (And.intro rfl (app_edge es _ _ _ _)) trivial)
      · repeat' (first
          | exact trivial
          | refine ⟨?_, ?_⟩
          | fail)
        all_goals first
          | with_reducible rfl
          | (conv => whnf
             try left
             conv => lhs; whnf
             first
               | rfl
               | exact congrArg (AV.int .i64) (by omega)
               | skip)
        all_goals simp
    · obtain rfl : b = false := by simpa using hb
      rename_i y1 a1 a2 a3 a4 a5 y2 b1 b2 b3 b4 b5 c1 c2 c3
      refine ⟨(es ++ [⟨y1, y2, y, false⟩], i', h'), ⟨by simp; omega, hi'⟩, by simp; omega, [some 0, some 2], rfl, rfl, ?_, ?_⟩
      · exact And.intro (And.intro (.inl rfl) (And.intro (.inl rfl) (And.intro (.inl rfl) trivial))) (And.intro (And.intro rfl (app_edge es _ _ _ _)) trivial)
      · repeat' (first
          | exact trivial
          | refine ⟨?_, ?_⟩
          | fail)
        all_goals first
          | with_reducible rfl
          | (conv => whnf
             try left
             conv => lhs; whnf
             first
               | rfl
               | exact congrArg (AV.int .i64) (by omega)
               | skip)
        all_goals simp
    · refine ⟨.inl rfl, ?_⟩
      conv => whnf
      refine ⟨[some 0, some 1], .ref 1 0 es.length, [some (curO code i2 h2'), some (.arr 4 (edgeRows es))], ⟨rfl, And.intro (And.intro (.inl rfl) (And.intro (.inl rfl) (And.intro (.inl rfl) trivial))) (And.intro (And.intro rfl rfl) trivial)⟩, rfl, rfl, hq es i2 h2' (by omega) hi2⟩
theorem makeD_small {l n st : Int} {es : List EdgeD} : (makeD l n st es).1.edges.length ≤ 7688 := by
  unfold makeD
  split
  · rename_i h
    have h1 := h.1
    unfold HeadOk at h1
    have h2 := mkEs_le (l := l.toNat) (n := n.toNat) (es := es) (n.toNat * l.toNat * n.toNat)
    have h3 : n.toNat * l.toNat ≤ 31 * 8 := Nat.mul_le_mul (by omega) (by omega)
    have h4 : n.toNat * l.toNat * n.toNat ≤ 31 * 8 * 31 := Nat.mul_le_mul h3 (by omega)
    show (mkEs l.toNat n.toNat es (n.toNat * l.toNat * n.toNat)).length ≤ 7688
    omega
  · simp [zeroAuto]
theorem RMake_eq {xs : List AV} {l n st : Int} {es : List EdgeD} (hx : xs = [.int .i64 l, .int .i64 n, .int .i64 st, .val (edgeRows es)]) (h : es.length ≤ 1048576) : RMake xs (makeR (makeD l n st es)) [.arr 4 (edgeRows (makeD l n st es).1.edges)] := ⟨l, n, st, es, hx, h, rfl, rfl⟩
def GAuto (B : Nat) (G : Int → Int → Prop) : GFun := fun xs objs Q => ∃ (code : List UInt8) (i : Nat) (h l n : Int), xs = [.ptr 0 0 0, .int .i64 l, .int .i64 n] ∧ objs = [curO code i h] ∧ i ≤ code.length ∧ code.length ≤ 1048576 ∧ G l n ∧
  ∀ (a : AutoD) (i' : Nat) (h' : Int), a.edges.length ≤ B → i' ≤ code.length → Q (.agg (autoRef 1 a)) [some (curO code i' h'), some (.arr 4 (edgeRows a.edges))]
abbrev GDrawRightA : GFun := GAuto 7688 fun l n => (1 ≤ l ∧ l ≤ 8) ∧ 1 ≤ n ∧ n ≤ 30
theorem GDrawRightA_mk {code : List UInt8} {i : Nat} {h l n : Int} {Q : AV → List (Option AObj) → Prop} (h1 : i ≤ code.length) (h2 : code.length ≤ 1048576) (h3 : 1 ≤ l ∧ l ≤ 8) (h4 : 1 ≤ n ∧ n ≤ 30)
    (hq : ∀ (a : AutoD) (i' : Nat) (h' : Int), a.edges.length ≤ 7688 → i' ≤ code.length → Q (.agg (autoRef 1 a)) [some (curO code i' h'), some (.arr 4 (edgeRows a.edges))]) : GDrawRightA [.ptr 0 0 0, .int .i64 l, .int .i64 n] [curO code i h] Q :=
  ⟨code, i, h, l, n, rfl, rfl, h1, h2, ⟨h3, h4⟩, hq⟩
theorem shl_small {s : Int} (h0 : 0 ≤ s) (h1 : s ≤ 30) : IntKind.i64.wrap (1 * 2 ^ (Nat.min s.toNat IntKind.i64.bits)) ≤ 1073741824 := by
  rw [shl_one h0 (by omega)]
  have h : (((2 : Nat) ^ s.toNat : Nat) : Int) ≤ ((2 ^ 30 : Nat) : Int) := Int.ofNat_le.2 (Nat.pow_le_pow_right (by decide) (by omega))
  rw [Int.natCast_pow] at h
  exact h
set_option maxHeartbeats 2000000 in
theorem s_spec_l4DrawRight : GenSound Try.prog 187 1 GDrawRightA := by
  have hR : Rely Try.prog (ctxOf [(137, .gen 1 GBelow), (154, .pure RMake), (205, .gen 1 GEdges)]) := rely_cons b_spec_l1Below.has s_spec_l1Below (rely_cons b_spec_AutoMake.has s_spec_AutoMake (rely_cons b_spec_l4DrawEdges.has s_spec_l4DrawEdges (rely_nil mixed)))
  refine gen_of_aw b_spec_l4DrawRight ?_
  rintro xs objs Q - ⟨code, i, h, l, n, rfl, rfl, h1, h2, ⟨h3, h4⟩, hq⟩ -
  refine ⟨by simp, vc2_sound hR _ _ _ _ _ ?_⟩
  conv => whnf
  repeat' ((first | (refine And.intro (fun hb => ?_) (fun hb => ?_) <;> ((try simp only [SB, reduceCtorEq] at hb); try (exfalso; omega))) | refine G2 ?_ | rw [ints_at (by omega)] | rw [ints_at0 (by omega)] | rw [ints_at' (by omega) (by omega)] | refine G1 ?_ | refine ⟨GBelow_mk (by omega) (by omega) (by omega) (fun y i' h' hx0 hx1 hi' => ?_)⟩ | fail) <;> conv => whnf)
  have hm : 0 ≤ 2 * (1 + y) * l ∧ 2 * (1 + y) * l ≤ 60 * 8 := ⟨Int.mul_nonneg (by omega) (by omega), Int.mul_le_mul (by omega) (by omega) (by omega) (by omega)⟩
  conv => whnf
  repeat' ((first | (refine And.intro (fun hb => ?_) (fun hb => ?_) <;> ((try simp only [SB, reduceCtorEq] at hb); try (exfalso; omega))) | refine G2 ?_ | rw [ints_at (by omega)] | rw [ints_at0 (by omega)] | rw [ints_at' (by omega) (by omega)] | refine G1 ?_ | refine ⟨GBelow_mk (by omega) (by omega) (by omega) (fun x i' h' hx0 hx1 hi' => ?_)⟩ | refine ⟨GBelow_mk (by omega) (by omega) (shl_small (by omega) (by omega)) (fun x i' h' hx0 hx1 hi' => ?_)⟩ | refine ⟨GEdges_mk (by omega) (by omega) (by omega) (by omega) (by omega) (fun es i' h' he hi' => ?_)⟩ | refine ⟨_, _, RMake_eq (args_cons rfl (args_cons rfl (args_cons rfl (args_cons (snap_all rfl (length_edgeRows _)) rfl)))) (by omega), ?_⟩ | fail) <;> conv => whnf)
  all_goals
    refine ⟨.inl rfl, ?_⟩
    conv => whnf
    refine And.intro (Nat.le_of_ble_eq_true rfl) ?_
    conv => whnf
    exact ⟨[some 0, some 3], .agg (autoRef 1 (makeD _ _ _ _).1), [some (curO code i' h'), some (.arr 4 (edgeRows (makeD _ _ _ _).1.edges))], ⟨rfl, And.intro (And.intro (.inl rfl) (And.intro (.inl rfl) (And.intro (.inl rfl) trivial))) (And.intro (And.intro rfl rfl) trivial)⟩, And.intro (.inl rfl) (And.intro (.inl rfl) (And.intro (.inl rfl) (And.intro rfl trivial))), rfl, hq _ i' h' makeD_small hi'⟩
def GDrawAuto : GFun := fun xs objs Q => ∃ (code : List UInt8) (i : Nat) (h n : Int), xs = [.ptr 0 0 0, .int .i64 n] ∧ objs = [curO code i h] ∧ i ≤ code.length ∧ code.length ≤ 1048576 ∧ (1 ≤ n ∧ n ≤ 30) ∧
  ∀ (a : AutoD) (i' : Nat) (h' : Int), a.edges.length ≤ 7689 → i' ≤ code.length → Q (.agg (autoRef 1 a)) [some (curO code i' h'), some (.arr 4 (edgeRows a.edges))]
theorem GDrawAuto_mk {code : List UInt8} {i : Nat} {h n : Int} {Q : AV → List (Option AObj) → Prop} (h1 : i ≤ code.length) (h2 : code.length ≤ 1048576) (h4 : 1 ≤ n ∧ n ≤ 30)
    (hq : ∀ (a : AutoD) (i' : Nat) (h' : Int), a.edges.length ≤ 7689 → i' ≤ code.length → Q (.agg (autoRef 1 a)) [some (curO code i' h'), some (.arr 4 (edgeRows a.edges))]) : GDrawAuto [.ptr 0 0 0, .int .i64 n] [curO code i h] Q :=
  ⟨code, i, h, n, rfl, rfl, h1, h2, h4, hq⟩
abbrev autL (_ : AutoD × Nat × Int) : List (Nat × AV) := [(0, .ptr 0 0 0), (4, .ptr 1 0 0), (5, .ptr 2 0 0)]
abbrev autO (code : List UInt8) (a : AutoD × Nat × Int) : List (Option AObj) := [some (curO code a.2.1 a.2.2), some (.box [.int .i64 0, .int .i64 0, .int .i64 0, .snil]), some (.box (autoRef 3 a.1)), some (.arr 4 (edgeRows a.1.edges))]
abbrev autI (code : List UInt8) (B : Nat) (a : AutoD × Nat × Int) : Prop := a.1.edges.length ≤ B ∧ a.2.1 ≤ code.length
theorem pick4 (j : Nat) (h : j < 6) : 1 ≤ ([1, 2, 2, 2, 3, 4] : List Int).getD j 0 ∧ ([1, 2, 2, 2, 3, 4] : List Int).getD j 0 ≤ 8 := by
  rcases j with _ | _ | _ | _ | _ | _ | j <;> first | (exfalso; omega) | simp
set_option maxHeartbeats 4000000 in
theorem s_spec_l4DrawAuto : GenSound Try.prog 138 1 GDrawAuto := by
  have hR : Rely Try.prog (ctxOf [(188, .gen 2 GPickInt), (137, .gen 1 GBelow), (187, .gen 1 GDrawRightA)]) :=
    rely_cons b_spec_l1PickInt.has s_spec_l1PickInt (rely_cons b_spec_l1Below.has s_spec_l1Below (rely_cons b_spec_l4DrawRight.has s_spec_l4DrawRight (rely_nil mixed)))
  refine gen_of_aw b_spec_l4DrawAuto ?_
  rintro xs objs Q - ⟨code, i, h, n, rfl, rfl, h1, h2, h4, hq⟩ -
  refine ⟨by simp, ?_⟩
  refine Aw.meet (α := Unit) (fun _ => True) (fun _ => [(0, .ptr 0 0 0), (1, .int .i64 n), (4, .ptr 1 0 0)]) (fun _ => [some (curO code i h), some (.box [.int .i64 0, .int .i64 0, .int .i64 0, .snil])]) ?_ ?_
  · refine vc2_sound hR _ _ _ _ _ ?_
    conv => whnf
    repeat' ((first | (refine And.intro (fun hb => ?_) (fun hb => ?_) <;> ((try simp only [SB, reduceCtorEq] at hb); try (exfalso; omega))) | refine G2 ?_ | rw [ints_at (by omega)] | rw [ints_at0 (by omega)] | rw [ints_at' (by omega) (by omega)] | refine G1 ?_ | fail) <;> conv => whnf)
    refine ⟨(), trivial, [some 0, some 1], rfl, rfl, ?_, ?_⟩
    · repeat' (first | exact trivial | exact rfl | exact Or.inl rfl | refine And.intro ?_ ?_)
    · repeat' (first
        | exact trivial
        | refine ⟨?_, ?_⟩
        | fail)
      all_goals first
        | with_reducible rfl
        | (conv => whnf
           try left
           conv => lhs; whnf
           first
             | rfl
             | exact congrArg (AV.int .i64) (by omega)
             | skip)
  rintro _ -
  refine Aw.meet (α := AutoD × Nat × Int) (autI code 7688) autL (autO code) ?_ ?_
  · refine vc2_sound hR _ _ _ _ _ ?_
    conv => whnf
    repeat' ((first | (refine And.intro (fun hb => ?_) (fun hb => ?_) <;> ((try simp only [SB, reduceCtorEq] at hb); try (exfalso; omega))) | refine G2 ?_ | rw [ints_at (by omega)] | rw [ints_at0 (by omega)] | rw [ints_at' (by omega) (by omega)] | refine G1 ?_ | refine ⟨GPickInt_mk (l := [1, 2, 2, 2, 3, 4]) (by omega) (by omega) (by simp) (by simp) (fun j i' h' hj hi' => ?_)⟩ | refine ⟨GDrawRightA_mk (by omega) (by omega) (pick4 _ (by assumption)) h4 (fun a i' h' ha hi' => ?_)⟩ | fail) <;> conv => whnf)
    refine ⟨(a, i', h'), ⟨ha, hi'⟩, [some 0, some 1, some 4, some 3], rfl, rfl, ?_, ?_⟩
    · exact And.intro (And.intro (.inl rfl) (And.intro (.inl rfl) (And.intro (.inl rfl) trivial))) (And.intro (And.intro (.inl rfl) (And.intro (.inl rfl) (And.intro (.inl rfl) (And.intro (.inl rfl) trivial)))) (And.intro (And.intro (.inl rfl) (And.intro (.inl rfl) (And.intro (.inl rfl) (And.intro rfl trivial)))) (And.intro (And.intro rfl rfl) trivial)))
    · repeat' (first
        | exact trivial
        | refine ⟨?_, ?_⟩
        | fail)
      all_goals first
        | with_reducible rfl
        | (conv => whnf
           try left
           conv => lhs; whnf
           first
             | rfl
             | exact congrArg (AV.int .i64) (by omega)
             | skip)
  rintro ⟨a, i1, h1'⟩ ⟨ha, hi1⟩
  dsimp only at ha hi1 ⊢
  refine Aw.meet (α := AutoD × Nat × Int) (autI code 7689) autL (autO code) ?_ ?_
  · have hil := length_edgeRows a.edges
    refine vc2_sound hR _ _ _ _ _ ?_
    conv => whnf
    repeat' ((first | (refine And.intro (fun hb => ?_) (fun hb => ?_) <;> ((try simp only [SB, reduceCtorEq] at hb); try (exfalso; omega))) | refine G2 ?_ | rw [ints_at (by omega)] | rw [ints_at0 (by omega)] | rw [ints_at' (by omega) (by omega)] | refine G1 ?_ | refine ⟨GPickInt_mk (l := [0, 8, 9]) (by omega) (by omega) (by simp) (by simp) (fun j i' h' hj hi' => ?_)⟩ | refine ⟨GPickInt_mk (l := [0, -1, 31, 32]) (by omega) (by omega) (by simp) (by simp) (fun j i' h' hj hi' => ?_)⟩ | refine ⟨GPickInt_mk (l := [-1, 0, 1048576]) (by omega) (by omega) (by simp) (by simp) (fun j i' h' hj hi' => ?_)⟩ | refine ⟨GBelow_mk (by omega) (by omega) (by omega) (fun x i' h' hx0 hx1 hi' => ?_)⟩ | fail) <;> conv => whnf)
    · refine ⟨(⟨([0, 8, 9] : List Int).getD j 0, a.states, a.start, a.edges⟩, i', h'), ⟨by dsimp only; omega, hi'⟩, [some 0, some 1, some 2, some 3], rfl, rfl, ?_, ?_⟩
      · exact And.intro (And.intro (.inl rfl) (And.intro (.inl rfl) (And.intro (.inl rfl) trivial))) (And.intro (And.intro (.inl rfl) (And.intro (.inl rfl) (And.intro (.inl rfl) (And.intro (.inl rfl) trivial)))) (And.intro (And.intro (.inl rfl) (And.intro (.inl rfl) (And.intro (.inl rfl) (And.intro rfl trivial)))) (And.intro (And.intro rfl rfl) trivial)))
      · repeat' (first
          | exact trivial
          | refine ⟨?_, ?_⟩
          | fail)
        all_goals first
          | with_reducible rfl
          | (conv => whnf
             try left
             conv => lhs; whnf
             first
               | rfl
               | exact congrArg (AV.int .i64) (by omega)
               | skip)
    · refine ⟨(⟨a.letters, ([0, -1, 31, 32] : List Int).getD j 0, a.start, a.edges⟩, i', h'), ⟨by dsimp only; omega, hi'⟩, [some 0, some 1, some 2, some 3], rfl, rfl, ?_, ?_⟩
      · exact And.intro (And.intro (.inl rfl) (And.intro (.inl rfl) (And.intro (.inl rfl) trivial))) (And.intro (And.intro (.inl rfl) (And.intro (.inl rfl) (And.intro (.inl rfl) (And.intro (.inl rfl) trivial)))) (And.intro (And.intro (.inl rfl) (And.intro (.inl rfl) (And.intro (.inl rfl) (And.intro rfl trivial)))) (And.intro (And.intro rfl rfl) trivial)))
      · repeat' (first
          | exact trivial
          | refine ⟨?_, ?_⟩
          | fail)
        all_goals first
          | with_reducible rfl
          | (conv => whnf
             try left
             conv => lhs; whnf
             first
               | rfl
               | exact congrArg (AV.int .i64) (by omega)
               | skip)
    · refine ⟨(⟨a.letters, a.states, ([-1, 0, 1048576] : List Int).getD j 0, a.edges⟩, i', h'), ⟨by dsimp only; omega, hi'⟩, [some 0, some 1, some 2, some 3], rfl, rfl, ?_, ?_⟩
      · exact And.intro (And.intro (.inl rfl) (And.intro (.inl rfl) (And.intro (.inl rfl) trivial))) (And.intro (And.intro (.inl rfl) (And.intro (.inl rfl) (And.intro (.inl rfl) (And.intro (.inl rfl) trivial)))) (And.intro (And.intro (.inl rfl) (And.intro (.inl rfl) (And.intro (.inl rfl) (And.intro rfl trivial)))) (And.intro (And.intro rfl rfl) trivial)))
      · repeat' (first
          | exact trivial
          | refine ⟨?_, ?_⟩
          | fail)
        all_goals first
          | with_reducible rfl
          | (conv => whnf
             try left
             conv => lhs; whnf
             first
               | rfl
               | exact congrArg (AV.int .i64) (by omega)
               | skip)
    · refine ⟨(⟨a.letters, a.states, a.start, a.edges ++ [⟨0, 0, 0, false⟩]⟩, i', h'), ⟨by simp; omega, hi'⟩, [some 0, some 1, some 2, some 4], rfl, rfl, ?_, ?_⟩
      · refine And.intro (And.intro (.inl rfl) (And.intro (.inl rfl) (And.intro (.inl rfl) trivial))) (And.intro (And.intro (.inl rfl) (And.intro (.inl rfl) (And.intro (.inl rfl) (And.intro (.inl rfl) trivial)))) (And.intro (And.intro (.inl rfl) (And.intro (.inl rfl) (And.intro (.inl rfl) (And.intro ?_ trivial)))) (And.intro (And.intro rfl (app_edge a.edges _ _ _ _)) trivial)))
        show AV.ref 4 0 (a.edges.length + 1) = AV.ref 4 0 (a.edges ++ [(⟨0, 0, 0, false⟩ : EdgeD)]).length
        simp
      · repeat' (first
          | exact trivial
          | refine ⟨?_, ?_⟩
          | fail)
        all_goals first
          | with_reducible rfl
          | (conv => whnf
             try left
             conv => lhs; whnf
             first
               | rfl
               | exact congrArg (AV.int .i64) (by omega)
               | skip)
    · refine ⟨(⟨a.letters, a.states, a.start, a.edges ++ [⟨a.states, 0, 0, false⟩]⟩, i', h'), ⟨by simp; omega, hi'⟩, [some 0, some 1, some 2, some 4], rfl, rfl, ?_, ?_⟩
      · refine And.intro (And.intro (.inl rfl) (And.intro (.inl rfl) (And.intro (.inl rfl) trivial))) (And.intro (And.intro (.inl rfl) (And.intro (.inl rfl) (And.intro (.inl rfl) (And.intro (.inl rfl) trivial)))) (And.intro (And.intro (.inl rfl) (And.intro (.inl rfl) (And.intro (.inl rfl) (And.intro ?_ trivial)))) (And.intro (And.intro rfl (app_edge a.edges _ _ _ _)) trivial)))
        show AV.ref 4 0 (a.edges.length + 1) = AV.ref 4 0 (a.edges ++ [(⟨a.states, 0, 0, false⟩ : EdgeD)]).length
        simp
      · repeat' (first
          | exact trivial
          | refine ⟨?_, ?_⟩
          | fail)
        all_goals first
          | with_reducible rfl
          | (conv => whnf
             try left
             conv => lhs; whnf
             first
               | rfl
               | exact congrArg (AV.int .i64) (by omega)
               | skip)
    · refine ⟨(a, i', h'), ⟨by dsimp only; omega, hi'⟩, [some 0, some 1, some 2, some 3], rfl, rfl, ?_, ?_⟩
      · exact And.intro (And.intro (.inl rfl) (And.intro (.inl rfl) (And.intro (.inl rfl) trivial))) (And.intro (And.intro (.inl rfl) (And.intro (.inl rfl) (And.intro (.inl rfl) (And.intro (.inl rfl) trivial)))) (And.intro (And.intro (.inl rfl) (And.intro (.inl rfl) (And.intro (.inl rfl) (And.intro rfl trivial)))) (And.intro (And.intro rfl rfl) trivial)))
      · repeat' (first
          | exact trivial
          | refine ⟨?_, ?_⟩
          | fail)
        all_goals first
          | with_reducible rfl
          | (conv => whnf
             try left
             conv => lhs; whnf
             first
               | rfl
               | exact congrArg (AV.int .i64) (by omega)
               | skip)
  clear ha hi1 a i1 h1'
  rintro ⟨a, i1, h1'⟩ ⟨ha, hi1⟩
  dsimp only at ha hi1 ⊢
  refine vc2_sound hR _ _ _ _ _ ?_
  conv => whnf
  repeat' ((first | (refine And.intro (fun hb => ?_) (fun hb => ?_) <;> ((try simp only [SB, reduceCtorEq] at hb); try (exfalso; omega))) | refine G2 ?_ | rw [ints_at (by omega)] | rw [ints_at0 (by omega)] | rw [ints_at' (by omega) (by omega)] | refine G1 ?_ | fail) <;> conv => whnf)
  refine ⟨.inl rfl, ?_⟩
  conv => whnf
  refine And.intro (Nat.le_of_ble_eq_true rfl) ?_
  conv => whnf
  exact ⟨[some 0, some 3], .agg (autoRef 1 a), [some (curO code i1 h1'), some (.arr 4 (edgeRows a.edges))],
    ⟨rfl, And.intro (And.intro (.inl rfl) (And.intro (.inl rfl) (And.intro (.inl rfl) trivial))) (And.intro (And.intro rfl rfl) trivial)⟩, And.intro (.inl rfl) (And.intro (.inl rfl) (And.intro (.inl rfl) (And.intro rfl trivial))), rfl, hq a i1 h1' ha hi1⟩
end Go.Proofs.Ythanhknkoikbfaa.Ct
