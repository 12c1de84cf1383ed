/- Part 5 of the proof of FnExactHoaWriteCardSaid: CtE0 to CtLayJoin. Conditions: none. -/
import Derived.Test.YthanhknkoikbfaaDoorT4
import Derived.Test.YthanhknkoikbfaaDoorT3
import Derived.Shelf.Strings.OnBuilder
import Derived.Shelf.Strconv.Itoa3
import Derived.IntWalk
import Derived.Test.YthanhknkoikbfaaDoorT1
import Derived.Test.YthanhknkoikbfaaDoorProg
import Derived.KernelRfl
set_option linter.unusedSimpArgs false
set_option linter.unusedVariables false
namespace Go.Proofs.YthanhknkoikbfaaDoor.Ct
open Go Go.Proofs Go.Proofs.YthanhknkoikbfaaDoor.Av
def c_impl_digit : ICode := (.seq (.reg [Ol 2 .mv [.c (.str [])]]) (.seq (.reg [O1 3 .mv 0, Ol 4 (.bin .add) [ci 48, .t 3], O1 5 (.cvt .u8) 4, O1 6 (.bsl 1) 5, O1 7 .b2s 6, O1 2 .mv 7]) .ret))
theorem b_impl_digit : Body Tryd.prog 74 8 c_impl_digit [(.t 2)] := body_mk Tryd.func74 (by kernel_rfl) (by decide)
def c_impl_signOf : ICode := (.seq (.reg [Ol 2 .mv [.c (.str [])]]) (.seq (.seq (.reg [O1 3 .mv 0, Ol 4 (.call 39) [.t 3, ci 1, ci 11], O1 5 .not 4]) (.cond (.t 5) (.seq (.reg [Ol 2 .mv [.c (.str [])]]) .ret) .skip)) (.seq (.reg [Ol 6 (.bld [(.str []), (.str []), (.str []), (.str []), (.str []), (.str []), (.str []), (.str []), (.str []), (.str []), (.str [])] [(0, 1), (1, 1), (2, 1), (3, 1), (4, 1), (5, 1), (6, 1), (7, 1), (8, 1), (9, 1), (10, 1)]) [.c (.str [116]), .c (.str [102]), .c (.str []), .c (.str [33]), .c (.str [38]), .c (.str [124]), .c (.str [88]), .c (.str [85]), .c (.str [82]), .c (.str [70]), .c (.str [71])], O1 7 .mv 0, Ol 8 (.bin .sub) [.t 7, ci 1], O2 9 (.aidx 11) 6 8, O1 2 .mv 9]) .ret)))
theorem b_impl_signOf : Body Tryd.prog 73 10 c_impl_signOf [(.t 2)] := body_mk Tryd.func73 (by kernel_rfl) (by decide)
def c_spec_l2Digit : ICode := (.seq (.reg [Ol 2 .mv [.c (.str [])]]) (.seq (.reg [O1 3 .mv 0, Ol 4 (.bin .add) [ci 48, .t 3], O1 5 (.cvt .u8) 4, O1 6 (.bsl 1) 5, O1 7 .b2s 6, O1 2 .mv 7]) .ret))
theorem b_spec_l2Digit : Body Tryd.prog 31 8 c_spec_l2Digit [(.t 2)] := body_mk Tryd.func31 (by kernel_rfl) (by decide)
def c_spec_l15Num : ICode := (.seq (.reg [Ol 2 .mv [.c (.str [])]]) (.seq (.seq (.reg [O1 3 .mv 0, Ol 4 (.bin .lss) [.t 3, ci 10]]) (.cond (.t 4) (.seq (.reg [O1 5 .mv 0, O1 6 (.call 31) 5, O1 2 .mv 6]) .ret) .skip)) (.seq (.reg [O1 7 .mv 0, Ol 8 (.bin .quo) [.t 7, ci 10], O1 9 (.call 12) 8, O1 10 .mv 0, Ol 11 (.bin .rem) [.t 10, ci 10], O1 12 (.call 31) 11, O2 13 (.bin .add) 9 12, O1 2 .mv 13]) .ret)))
theorem b_spec_l15Num : Body Tryd.prog 12 14 c_spec_l15Num [(.t 2)] := body_mk Tryd.func12 (by kernel_rfl) (by decide)
def digitB (n : Int) : UInt8 := UInt8.ofNat (48 + n).toNat
theorem digitB_cell {n : Int} (h0 : 0 ≤ n) (h1 : n ≤ 100) : ((digitB n).toNat : Int) = 48 + n := by
  simp only [digitB, UInt8.toNat_ofNat']
  omega
def RDigit (xs : List AV) (r : AV) (objs : List AObj) : Prop := ∃ n, xs = [.int .i64 n] ∧ 0 ≤ n ∧ n ≤ 100 ∧ r = .str [digitB n] ∧ objs = []
theorem RDigit_mk {n : Int} (h0 : 0 ≤ n) (h1 : n ≤ 100) : RDigit [.int .i64 n] (.str [digitB n]) [] := ⟨n, rfl, h0, h1, rfl, rfl⟩
theorem s_spec_l2Digit : PureSound Tryd.prog 31 RDigit := by
  have hR : Rely Tryd.prog (ctxOf []) := rely_nil mixed
  refine pure_of_aw b_spec_l2Digit ?_
  rintro xs r objs ⟨n, rfl, h0, h1, rfl, rfl⟩ -
  refine ⟨by simp, vc2_sound hR _ _ _ _ _ ?_⟩
  conv => whnf
  repeat' ((first | contradiction | (refine And.intro (fun hb => ?_) (fun hb => ?_) <;> first | contradiction | ((try simp only [SB, reduceCtorEq] at hb); try (exfalso; first | contradiction | omega))) | refine G2 ?_ | rw [ints_at (by omega)] | rw [ints_at0 (by omega)] | rw [ints_at' (by omega) (by omega)] | refine G1 ?_ | fail) <;> conv => whnf)
  refine ⟨48 + n, IntWalk.u8_in _ (by omega), ?_⟩
  conv => whnf
  repeat' ((first | contradiction | (refine And.intro (fun hb => ?_) (fun hb => ?_) <;> first | contradiction | ((try simp only [SB, reduceCtorEq] at hb); try (exfalso; first | contradiction | omega))) | refine G2 ?_ | rw [ints_at (by omega)] | rw [ints_at0 (by omega)] | rw [ints_at' (by omega) (by omega)] | refine G1 ?_ | fail) <;> conv => whnf)
  refine ⟨[digitB n], ?_, ?_⟩
  · conv => lhs; whnf
    simp only [List.map, byteRow, digitB_cell h0 h1]
    rfl
  · conv => whnf
    repeat' ((first | contradiction | (refine And.intro (fun hb => ?_) (fun hb => ?_) <;> first | contradiction | ((try simp only [SB, reduceCtorEq] at hb); try (exfalso; first | contradiction | omega))) | refine G2 ?_ | rw [ints_at (by omega)] | rw [ints_at0 (by omega)] | rw [ints_at' (by omega) (by omega)] | refine G1 ?_ | fail) <;> conv => whnf)
    refine ⟨.inl rfl, ?_⟩
    conv => whnf
    refine ⟨[], ⟨rfl, trivial⟩, ?_, rfl, rfl⟩
    conv => whnf
    left
    conv => lhs; whnf
theorem s_impl_digit : PureSound Tryd.prog 74 RDigit := by
  have hR : Rely Tryd.prog (ctxOf []) := rely_nil mixed
  refine pure_of_aw b_impl_digit ?_
  rintro xs r objs ⟨n, rfl, h0, h1, rfl, rfl⟩ -
  refine ⟨by simp, vc2_sound hR _ _ _ _ _ ?_⟩
  conv => whnf
  repeat' ((first | contradiction | (refine And.intro (fun hb => ?_) (fun hb => ?_) <;> first | contradiction | ((try simp only [SB, reduceCtorEq] at hb); try (exfalso; first | contradiction | omega))) | refine G2 ?_ | rw [ints_at (by omega)] | rw [ints_at0 (by omega)] | rw [ints_at' (by omega) (by omega)] | refine G1 ?_ | fail) <;> conv => whnf)
  refine ⟨48 + n, IntWalk.u8_in _ (by omega), ?_⟩
  conv => whnf
  repeat' ((first | contradiction | (refine And.intro (fun hb => ?_) (fun hb => ?_) <;> first | contradiction | ((try simp only [SB, reduceCtorEq] at hb); try (exfalso; first | contradiction | omega))) | refine G2 ?_ | rw [ints_at (by omega)] | rw [ints_at0 (by omega)] | rw [ints_at' (by omega) (by omega)] | refine G1 ?_ | fail) <;> conv => whnf)
  refine ⟨[digitB n], ?_, ?_⟩
  · conv => lhs; whnf
    simp only [List.map, byteRow, digitB_cell h0 h1]
    rfl
  · conv => whnf
    repeat' ((first | contradiction | (refine And.intro (fun hb => ?_) (fun hb => ?_) <;> first | contradiction | ((try simp only [SB, reduceCtorEq] at hb); try (exfalso; first | contradiction | omega))) | refine G2 ?_ | rw [ints_at (by omega)] | rw [ints_at0 (by omega)] | rw [ints_at' (by omega) (by omega)] | refine G1 ?_ | fail) <;> conv => whnf)
    refine ⟨.inl rfl, ?_⟩
    conv => whnf
    refine ⟨[], ⟨rfl, trivial⟩, ?_, rfl, rfl⟩
    conv => whnf
    left
    conv => lhs; whnf
def numS (n : Nat) : List UInt8 := if n < 10 then [digitB n] else [digitB ((n / 10 : Nat) : Int), digitB ((n % 10 : Nat) : Int)]
theorem dec_num {n : Nat} (h : n < 100) : Go.Lib.decDigits n = numS n := by
  unfold numS
  rw [Go.Lib.decDigits]
  split
  · unfold digitB
    rw [show ((48 : Int) + ((n : Nat) : Int)).toNat = 48 + n by omega]
  · rw [Go.Lib.decDigits, dif_pos (by omega)]
    unfold digitB
    rw [show ((48 : Int) + ((n / 10 : Nat) : Int)).toNat = 48 + n / 10 by omega, show ((48 : Int) + ((n % 10 : Nat) : Int)).toNat = 48 + n % 10 by omega]
    rfl
theorem numS_len (n : Nat) : (numS n).length ≤ 2 := by unfold numS; split <;> simp
def RNum (B : Nat) (xs : List AV) (r : AV) (objs : List AObj) : Prop := ∃ n : Nat, xs = [.int .i64 ((n : Nat) : Int)] ∧ n < B ∧ r = .str (numS n) ∧ objs = []
theorem RNum_is {B n : Nat} {xs : List AV} (hx : xs = [.int .i64 ((n : Nat) : Int)]) (h : n < B) : RNum B xs (.str (numS n)) [] := ⟨n, hx, h, rfl, rfl⟩
theorem s_spec_num10 : PureSound Tryd.prog 12 (RNum 10) := by
  have hR : Rely Tryd.prog (ctxOf [(31, .pure RDigit)]) := rely_cons b_spec_l2Digit.has s_spec_l2Digit (rely_nil mixed)
  refine pure_of_aw b_spec_l15Num ?_
  rintro xs r objs ⟨n, rfl, h, rfl, rfl⟩ -
  refine ⟨by simp, vc2_sound hR _ _ _ _ _ ?_⟩
  conv => whnf
  repeat' ((first | contradiction | (refine And.intro (fun hb => ?_) (fun hb => ?_) <;> first | contradiction | ((try simp only [SB, reduceCtorEq] at hb); try (exfalso; first | contradiction | omega))) | refine G2 ?_ | rw [ints_at (by omega)] | rw [ints_at0 (by omega)] | rw [ints_at' (by omega) (by omega)] | refine G1 ?_ | refine ⟨_, _, RDigit_mk (n := ((n : Nat) : Int)) (by omega) (by omega), ?_⟩ | fail) <;> conv => whnf)
  refine ⟨.inl rfl, ?_⟩
  conv => whnf
  refine ⟨[], ⟨rfl, trivial⟩, ?_, rfl, rfl⟩
  conv => whnf
  left
  conv => lhs; whnf
  unfold numS
  rw [if_pos h]
theorem s_spec_l15Num : PureSound Tryd.prog 12 (RNum 100) := by
  have hR : Rely Tryd.prog (ctxOf [(31, .pure RDigit), (12, .pure (RNum 10))]) := rely_cons b_spec_l2Digit.has s_spec_l2Digit (rely_cons b_spec_l15Num.has s_spec_num10 (rely_nil mixed))
  refine pure_of_aw b_spec_l15Num ?_
  rintro xs r objs ⟨n, rfl, h, rfl, rfl⟩ -
  have hq : Int.tdiv ((n : Nat) : Int) 10 = ((n / 10 : Nat) : Int) := (Int.ofNat_tdiv n 10).symm
  have hm : Int.tmod ((n : Nat) : Int) 10 = ((n % 10 : Nat) : Int) := (Int.ofNat_tmod n 10).symm
  have h10 : n / 10 < 10 := by omega
  have hl := numS_len (n / 10)
  have hs : numS (n / 10) = [digitB ((n / 10 : Nat) : Int)] := by unfold numS; rw [if_pos h10]
  by_cases hn : n < 10
  · refine ⟨by simp, vc2_sound hR _ _ _ _ _ ?_⟩
    conv => whnf
    repeat' ((first | contradiction | (refine And.intro (fun hb => ?_) (fun hb => ?_) <;> first | contradiction | ((try simp only [SB, reduceCtorEq] at hb); try (exfalso; first | contradiction | omega))) | refine G2 ?_ | rw [ints_at (by omega)] | rw [ints_at0 (by omega)] | rw [ints_at' (by omega) (by omega)] | refine G1 ?_ | refine ⟨_, _, RDigit_mk (n := ((n : Nat) : Int)) (by omega) (by omega), ?_⟩ | fail) <;> conv => whnf)
    refine ⟨.inl rfl, ?_⟩
    conv => whnf
    refine ⟨[], ⟨rfl, trivial⟩, ?_, rfl, rfl⟩
    conv => whnf
    left
    conv => lhs; whnf
    unfold numS
    rw [if_pos hn]
  · have hnum : numS n = [digitB ((n / 10 : Nat) : Int), digitB ((n % 10 : Nat) : Int)] := by unfold numS; rw [if_neg hn]
    rw [hnum]
    refine ⟨by simp, vc2_sound hR _ _ _ _ _ ?_⟩
    rw [hs] at hl
    have hR10 : ∀ xs, xs = [.int .i64 ((n / 10 : Nat) : Int)] → RNum 10 xs (.str [digitB ((n / 10 : Nat) : Int)]) [] := fun xs h => ⟨n / 10, h, h10, by rw [hs], rfl⟩
    conv => whnf
    repeat' ((first | contradiction | (refine And.intro (fun hb => ?_) (fun hb => ?_) <;> first | contradiction | ((try simp only [SB, reduceCtorEq] at hb); try (exfalso; first | contradiction | omega))) | rw [hq] | rw [hm] | refine G2 ?_ | rw [ints_at (by omega)] | rw [ints_at0 (by omega)] | rw [ints_at' (by omega) (by omega)] | refine G1 ?_ | refine ⟨_, _, hR10 _ rfl, ?_⟩ | refine ⟨_, _, RDigit_mk (n := ((n % 10 : Nat) : Int)) (by omega) (by omega), ?_⟩ | refine And.intro (show [digitB ((n / 10 : Nat) : Int)].length + [digitB ((n % 10 : Nat) : Int)].length ≤ 9223372036854775807 by simp) ?_ | fail) <;> conv => whnf)
    refine ⟨.inl rfl, ?_⟩
    conv => whnf
    refine ⟨[], ⟨rfl, trivial⟩, ?_, rfl, rfl⟩
    conv => whnf
    left
    conv => lhs; whnf
    rfl
def sgn (k : Int) : List UInt8 :=
  if k = 1 then [116] else if k = 2 then [102] else if k = 4 then [33] else if k = 5 then [38] else if k = 6 then [124] else if k = 7 then [88]
  else if k = 8 then [85] else if k = 9 then [82] else if k = 10 then [70] else if k = 11 then [71] else []
theorem length_sgn (k : Int) : (sgn k).length ≤ 1 := by
  unfold sgn
  (repeat' split) <;> simp
def RSign (xs : List AV) (r : AV) (objs : List AObj) : Prop := ∃ k, xs = [.int .i64 k] ∧ (1 ≤ k ∧ k ≤ 6) ∧ r = .str (sgn k) ∧ objs = []
theorem RSign_mk {k : Int} (h : 1 ≤ k ∧ k ≤ 6) : RSign [.int .i64 k] (.str (sgn k)) [] := ⟨k, rfl, h, rfl, rfl⟩
set_option maxHeartbeats 1000000 in
theorem s_impl_signOf : PureSound Tryd.prog 73 RSign := by
  have hR : Rely Tryd.prog (ctxOf [(39, .pure RIn)]) := rely_cons b_impl_inRange.has s_impl_inRange (rely_nil mixed)
  refine pure_of_aw b_impl_signOf ?_
  rintro xs r objs ⟨k, rfl, hk, rfl, rfl⟩ -
  refine ⟨by simp, vc2_sound hR _ _ _ _ _ ?_⟩
  have : k = 1 ∨ k = 2 ∨ k = 3 ∨ k = 4 ∨ k = 5 ∨ k = 6 := by omega
  rcases this with rfl | rfl | rfl | rfl | rfl | rfl
  all_goals
    conv => whnf
    repeat' ((first | (refine And.intro (fun hb => ?_) (fun hb => ?_) <;> ((try simp only [SB, reduceCtorEq] at hb); try (exfalso; omega))) | refine G2 ?_ | rw [ints_at (by omega)] | rw [ints_at0 (by omega)] | rw [ints_at' (by omega) (by omega)] | refine G1 ?_ | refine ⟨_, _, RIn_mk, ?_⟩ | fail) <;> conv => whnf)
    refine ⟨.inl rfl, ?_⟩
    conv => whnf
    refine ⟨[], ⟨rfl, trivial⟩, ?_, rfl, rfl⟩
    conv => whnf
    left
    conv => lhs; whnf
    rfl
section
variable {P : Program} {ρ : Go.Shelf.Ren}
theorem hsim_nil {w : World} : HSim (· < w.heap.size) noPl (objsH []) 0 w :=
  ⟨fun _ _ => rfl, fun id o ho => by simp [objsH] at ho, fun _ _ _ _ _ h => by simp [noPl] at h, fun _ _ _ h => by simp [noPl] at h, fun b hb => hb, fun _ _ h => by simp [noPl] at h⟩
theorem hsim_nil2 {w w' : World} (h : w.heap.size ≤ w'.heap.size) : HSim (· < w.heap.size) noPl (objsH []) 0 w' :=
  ⟨fun _ _ => rfl, fun id o ho => by simp [objsH] at ho, fun _ _ _ _ _ h => by simp [noPl] at h, fun _ _ _ h => by simp [noPl] at h, fun b hb => Nat.lt_of_lt_of_le hb h, fun _ _ h => by simp [noPl] at h⟩
theorem itoa_sound (L : Lays.n171 P ρ) : PureSound P (ρ.f 171) (RNum 100) := by
  rintro w own xs ⟨l⟩ r objs ⟨hl, hr⟩ ⟨n, rfl, hn, rfl, rfl⟩
  match l, hl, hr with
  | [v], _, hr =>
    have r1 := hr 0 _ _ rfl rfl
    cases r1
    refine (Any.strconv_Itoa_small L n hn w).mono ?_
    rintro e w' ⟨rfl, rfl⟩
    rw [dec_num hn]
    exact ⟨_, noPl, rfl, ⟨rfl, ⟨rfl, .inl (Nat.le_refl _)⟩, rfl, Nat.le_refl _, fun _ _ _ => rfl⟩, hsim_nil, .str _⟩
def strRow (s : List UInt8) : List AV := [.str s]
def strs (l : List (List UInt8)) : List (List AV) := l.map strRow
theorem length_strs (l : List (List UInt8)) : (strs l).length = l.length := by simp [strs]
def RJoin (xs : List AV) (r : AV) (objs : List AObj) : Prop := ∃ (l : List (List UInt8)) (sep : List UInt8), xs = [.val (strs l), .str sep] ∧ l ≠ [] ∧ l.length ≤ 100000000 ∧ (Go.Lib.join l sep).length ≤ 140737488355328 ∧ r = .str (Go.Lib.join l sep) ∧ objs = []
theorem join_sound (L : Lays.n156 P ρ) (X : Builder.Extra P ρ) : PureSound P (ρ.f 156) RJoin := by
  rintro w own xs ⟨vs⟩ r objs ⟨hl, hr⟩ ⟨l, sep, rfl, hne, hlen, hj, rfl, rfl⟩
  match vs, hl, hr with
  | [v1, v2], _, hr =>
    have r1 := hr 0 _ _ rfl rfl
    have r2 := hr 1 _ _ rfl rfl
    cases r2
    have hsl := length_strs l
    generalize hx : AV.val (strs l) = x at r1
    cases r1 with
    | valNil a cap =>
      have : strs l = [] := by injection hx
      rw [this] at hsl
      exact absurd (List.eq_nil_of_length_eq_zero hsl.symm) hne
    | val rows g off cap s us ho hg hc hm hs hf hu h =>
      injection hx with hx
      subst hx
      have hs1 : s = 1 := by
        cases l with
        | nil => exact absurd rfl hne
        | cons a t => exact (hs 0 _ rfl).symm
      subst hs1
      have hcell : ∀ (j : Nat) (x : ByteArray), (l.map fun b => (⟨b.toArray⟩ : ByteArray))[j]? = some x → w.cell? ⟨g, off + j, none⟩ = some (.string x) := fun j x hx => by
        simp only [List.getElem?_map, Option.map_eq_some_iff] at hx
        obtain ⟨b, hb, rfl⟩ := hx
        have e1 : (strs l)[j]? = some (strRow b) := by simp [strs, hb]
        have h1 := hu j 0 _ (.str b) e1 rfl
        have h2 := h j 0 _ (.str b) e1 rfl
        rw [Nat.mul_one, Nat.add_zero] at h1
        rw [h1]
        generalize us j 0 = u at h2
        cases h2
        rfl
      have hmap : (l.map fun b => (⟨b.toArray⟩ : ByteArray)).map (·.data.toList) = l := by simp [Function.comp_def]
      have hjn := Any.strings_Join L X g off cap (l.map fun b => (⟨b.toArray⟩ : ByteArray)) ⟨sep.toArray⟩ w hcell hg (by simp; omega) (by rw [List.length_map]; omega) (by rw [hmap]; exact hj)
      rw [hmap, List.length_map, ← hsl] at hjn
      refine hjn.mono ?_
      rintro e w' ⟨rfl, hB⟩
      exact ⟨_, noPl, rfl, ⟨hB.os, ⟨hB.tape, .inr trivial⟩, hB.output, hB.size, fun b hb _ => hB.block b hb⟩, hsim_nil2 hB.size, .str _⟩
    | _ => cases hx
end
def c_impl_printed : ICode := (.seq (.reg [Ol 4 .mv [.c (.str [])]]) (.seq (.reg [O1 9 .mv 0, O1 10 .len 9, O2 11 (.mks 1 16 [(.str [])]) 10 10, O1 5 .mv 11]) (.seq (.seq (.reg [O1 12 .mv 0, O1 13 .len 12, Ol 14 .mv [ci 0]]) (.block 0 (.loop (.seq (.reg [O2 15 (.bin .lss) 14 13]) (.seq (.cond (.t 15) .skip (.exit 0)) (.seq (.block 1 (.seq (.reg [O1 16 .mv 14, O2 17 (.iadr 3) 12 14, O1 18 (.ldn 3) 17, O0 7 (.alc [(.int .i64 0), (.int .i64 0), (.int .i64 0)]), O1 6 .mv 16, S2 (.st 3) 7 18]) (.seq (.reg [O1 19 (.fadr 0) 7, O1 20 .ld1 19, O1 21 (.call 73) 20, O1 8 .mv 21]) (.seq (.reg [O1 22 .mv 1, O1 23 (.ldn 3) 7, O2 24 .dyn 22 23]) (.block 2 (.seq (.reg [Ol 44 (.bin .eql) [.t 24, ci 0], O1 43 .mv 44]) (.cond (.t 43) (.seq (.reg [O1 45 .mv 5, O1 46 .mv 6, O1 47 .mv 8, O2 48 (.iadr 1) 45 46, S2 (.st 1) 48 47]) (.seq (.reg [O1 49 (.fadr 0) 7, O1 50 .ld1 49, Ol 51 (.bin .eql) [.t 50, ci 3]]) (.cond (.t 51) (.reg [O1 52 .mv 5, O1 53 .mv 6, O1 54 (.fadr 1) 7, O1 55 .ld1 54, O1 56 (.call 74) 55, O2 57 (.iadr 1) 52 53, S2 (.st 1) 57 56]) .skip))) (.seq (.reg [Ol 59 (.bin .eql) [.t 24, ci 1], O1 58 .mv 59]) (.cond (.t 58) (.reg [O1 60 .mv 5, O1 61 .mv 6, O1 62 .mv 8, O1 63 .mv 5, O1 64 (.fadr 1) 7, O1 65 .ld1 64, O2 66 (.iadr 1) 63 65, O1 67 .ld1 66, O2 68 (.bin .add) 62 67, O2 69 (.iadr 1) 60 61, S2 (.st 1) 69 68]) (.drw [O1 25 .mv 5, O1 26 .mv 6, O1 27 .mv 5, O1 28 (.fadr 1) 7, O1 29 .ld1 28, O2 30 (.iadr 1) 27 29, O1 31 .ld1 30, Ol 32 (.bin .add) [.c (.str [40]), .t 31], O1 33 .mv 8, O2 34 (.bin .add) 32 33, O1 35 .mv 5, O1 36 (.fadr 2) 7, O1 37 .ld1 36, O2 38 (.iadr 1) 35 37, O1 39 .ld1 38, O2 40 (.bin .add) 34 39, Ol 41 (.bin .add) [.t 40, .c (.str [41])], O2 42 (.iadr 1) 25 26, S2 (.st 1) 42 41] (unB [0, 0, 0, 0, 8, 28, 60, 124, 0, 508, 0, 0, 2048, 7168, 15360, 32764, 65532, 131071, 262143] 0) true true)))))))))) (.reg [Ol 70 (.bin .add) [.t 14, ci 1], O1 14 .mv 70]))))))) (.seq (.reg [O1 71 .mv 5, O1 72 .mv 0, O1 73 .len 72, Ol 74 (.bin .sub) [.t 73, ci 1], O2 75 (.iadr 1) 71 74, O1 76 .ld1 75, O1 4 .mv 76]) .ret))))
theorem b_impl_printed : Body Tryd.prog 61 77 c_impl_printed [(.t 4)] := body_mk Tryd.func61 (by kernel_rfl) (by decide)
def c_impl_ExprPrint : ICode := (.seq (.reg [Ol 2 .mv [.c (.str [])]]) (.seq (.seq (.reg [O1 3 .mv 0, O1 4 (.call 60) 3, O1 5 .not 4]) (.cond (.t 5) (.seq (.reg [Ol 2 .mv [.c (.str [])]]) .ret) .skip)) (.seq (.reg [O1 6 .mv 0, Ol 7 (.call 61) [.t 6, .c (.fn 62 [])], O1 2 .mv 7]) .ret)))
theorem b_impl_ExprPrint : Body Tryd.prog 45 8 c_impl_ExprPrint [(.t 2)] := body_mk Tryd.func45 (by kernel_rfl) (by decide)
def c_spec_l2Print : ICode := (.seq (.reg [Ol 4 .mv [.c (.str [])]]) (.seq (.reg [O1 6 .mv 0, O1 7 .mv 1, O2 8 (.iadr 3) 6 7, O1 9 (.ldn 3) 8, O0 5 (.alc [(.int .i64 0), (.int .i64 0), (.int .i64 0)]), S2 (.st 3) 5 9]) (.seq (.seq (.reg [O1 10 (.fadr 0) 5, O1 11 .ld1 10]) (.block 0 (.seq (.reg [Ol 13 (.bin .eql) [.t 11, ci 1], O1 12 .mv 13]) (.cond (.t 12) (.seq (.reg [Ol 4 .mv [.c (.str [116])]]) .ret) (.seq (.reg [Ol 15 (.bin .eql) [.t 11, ci 2], O1 14 .mv 15]) (.cond (.t 14) (.seq (.reg [Ol 4 .mv [.c (.str [102])]]) .ret) (.seq (.reg [Ol 17 (.bin .eql) [.t 11, ci 3], O1 16 .mv 17]) (.cond (.t 16) (.seq (.reg [O1 18 (.fadr 1) 5, O1 19 .ld1 18, O1 20 (.call 31) 19, O1 4 .mv 20]) .ret) (.seq (.reg [Ol 22 (.bin .eql) [.t 11, ci 4], O1 21 .mv 22]) (.cond (.t 21) (.seq (.reg [O1 23 .mv 0, O1 24 (.fadr 1) 5, O1 25 .ld1 24, O2 26 (.call 35) 23 25, Ol 27 (.bin .add) [.c (.str [33]), .t 26], O1 4 .mv 27]) .ret) (.seq (.reg [Ol 29 (.bin .eql) [.t 11, ci 5], O1 28 .mv 29]) (.cond (.t 28) (.seq (.drw [O1 30 .mv 0, O1 31 (.fadr 1) 5, O1 32 .ld1 31, O2 33 (.call 35) 30 32, Ol 34 (.bin .add) [.c (.str [40]), .t 33], Ol 35 (.bin .add) [.t 34, .c (.str [38])], O1 36 .mv 0, O1 37 (.fadr 2) 5, O1 38 .ld1 37, O2 39 (.call 35) 36 38, O2 40 (.bin .add) 35 39, Ol 41 (.bin .add) [.t 40, .c (.str [41])], O1 4 .mv 41] (unB [0, 0, 2, 7, 15, 31, 0, 0, 128, 463, 1023, 2047, 4095] 0) true true) .ret) .skip)))))))))))) (.seq (.drw [O1 42 .mv 0, O1 43 (.fadr 1) 5, O1 44 .ld1 43, O2 45 (.call 35) 42 44, Ol 46 (.bin .add) [.c (.str [40]), .t 45], Ol 47 (.bin .add) [.t 46, .c (.str [124])], O1 48 .mv 0, O1 49 (.fadr 2) 5, O1 50 .ld1 49, O2 51 (.call 35) 48 50, O2 52 (.bin .add) 47 51, Ol 53 (.bin .add) [.t 52, .c (.str [41])], O1 4 .mv 53] (unB [0, 0, 2, 7, 15, 31, 0, 0, 128, 463, 1023, 2047, 4095] 0) true true) .ret))))
theorem b_spec_l2Print : Body Tryd.prog 35 54 c_spec_l2Print [(.t 4)] := body_mk Tryd.func35 (by kernel_rfl) (by decide)
def c_spec_ExprPrint : ICode := (.seq (.reg [Ol 2 .mv [.c (.str [])]]) (.seq (.seq (.reg [O1 3 .mv 0, O1 4 (.call 34) 3, O1 5 .not 4]) (.cond (.t 5) (.seq (.reg [Ol 2 .mv [.c (.str [])]]) .ret) .skip)) (.seq (.reg [O1 6 .mv 0, O1 7 .mv 0, O1 8 .len 7, Ol 9 (.bin .sub) [.t 8, ci 1], O2 10 (.call 35) 6 9, O1 2 .mv 10]) .ret)))
theorem b_spec_ExprPrint : Body Tryd.prog 17 11 c_spec_ExprPrint [(.t 2)] := body_mk Tryd.func17 (by kernel_rfl) (by decide)
def nodeTxt (n : NodeD) (ts : List (List UInt8)) : List UInt8 :=
  if n.kind = 3 then [digitB n.a] else if n.kind = 1 ∨ n.kind = 2 then sgn n.kind
  else if n.kind = 4 then sgn 4 ++ ts.getD n.a.toNat []
  else [40] ++ ts.getD n.a.toNat [] ++ sgn n.kind ++ ts.getD n.b.toNat [] ++ [41]
def txts (l : List NodeD) : Nat → List (List UInt8)
  | 0 => []
  | i + 1 => txts l i ++ [nodeTxt (l.getD i default) (txts l i)]
@[simp] theorem length_txts (l : List NodeD) : ∀ i, (txts l i).length = i
  | 0 => rfl
  | i + 1 => by simp [txts, length_txts l i]
theorem txts_get (l : List NodeD) {j : Nat} : ∀ i, j < i → (txts l i).getD j [] = nodeTxt (l.getD j default) (txts l j)
  | 0, h => absurd h (by omega)
  | i + 1, h => by
    simp only [txts]
    rw [List.getD_eq_getElem?_getD, List.getElem?_append]
    by_cases hji : j < i
    · rw [if_pos (by rw [length_txts]; exact hji), ← List.getD_eq_getElem?_getD]
      exact txts_get l i hji
    · have : j = i := by omega
      subst this
      rw [if_neg (by rw [length_txts]; omega), length_txts]
      simp
def goodN (n : NodeD) (i : Nat) : Prop := ((n.kind = 1 ∨ n.kind = 2) ∧ n.a = 0 ∧ n.b = 0) ∨ (n.kind = 3 ∧ (0 ≤ n.a ∧ n.a ≤ 2) ∧ n.b = 0) ∨ (n.kind = 4 ∧ (0 ≤ n.a ∧ n.a < i) ∧ n.b = 0) ∨ ((n.kind = 5 ∨ n.kind = 6) ∧ (0 ≤ n.a ∧ n.a < i) ∧ 0 ≤ n.b ∧ n.b < i)
instance (n : NodeD) (i : Nat) : Decidable (goodN n i) := by unfold goodN; infer_instance
def goodL (l : List NodeD) : Prop := (1 ≤ l.length ∧ l.length ≤ 31) ∧ ∀ i, i < l.length → goodN (l.getD i default) i ∧ ((txts l l.length).getD i []).length ≤ 100
instance (l : List NodeD) : Decidable (goodL l) := by unfold goodL; infer_instance
def tx (l : List NodeD) (x : Nat) : List UInt8 := (txts l l.length).getD x []
theorem tx_is {l : List NodeD} {x : Nat} (h : x < l.length) : tx l x = nodeTxt (l.getD x default) (txts l x) := txts_get l _ h
theorem tx_at {l : List NodeD} {x i : Nat} (h : x < i) (hi : i ≤ l.length) : (txts l i).getD x [] = tx l x := by
  rw [txts_get l _ h, tx_is (by omega)]
theorem sset_at {X : List (List UInt8)} {i : Nat} {r : List AV} (h : i < X.length) : ((strs X).set (0 + ((i : Nat) : Int).toNat) r)[0 + ((i : Nat) : Int).toNat]? = some r := by
  rw [Nat.zero_add, Int.toNat_natCast]
  rw [List.getElem?_set_self (by simp [strs]; omega)]
theorem strs_rd {bs Z : List (List UInt8)} {x : Int} {s : List UInt8} (h0 : 0 ≤ x) (h1 : x < bs.length) (hs : bs.getD x.toNat [] = s) : (strs (bs ++ Z))[0 + x.toNat]? = some [.str s] := by
  rw [Nat.zero_add]
  have hx : x.toNat < bs.length := by omega
  rw [← hs]
  simp [strs, List.getElem?_append, hx, List.getD_eq_getElem?_getD, strRow]
theorem str_hole {bs : List (List UInt8)} {i n : Nat} (h : i = bs.length) (hi : i < n) : (strs (bs ++ List.replicate (n - i) []))[0 + ((i : Nat) : Int).toNat]? = some [.str []] := by
  rw [Nat.zero_add, Int.toNat_natCast]
  have hx : 0 < n - i := by omega
  subst h
  simp [strs, List.getElem?_append, hx, strRow]
theorem sfill_at {bs : List (List UInt8)} {i n : Nat} {v : List UInt8} {r : List AV} (hr : r = [.str v]) (h : i = bs.length) (hi : i < n) : (strs (bs ++ List.replicate (n - i) [])).set (0 + ((i : Nat) : Int).toNat) r = strs ((bs ++ [v]) ++ List.replicate (n - (i + 1)) []) := by
  subst hr
  rw [Nat.zero_add, Int.toNat_natCast]
  obtain ⟨m, rfl⟩ : ∃ m, n = i + 1 + m := ⟨n - (i + 1), by omega⟩
  subst h
  have e : bs.length + 1 + m - bs.length = m + 1 := by omega
  have e2 : bs.length + 1 + m - (bs.length + 1) = m := by omega
  rw [e, e2]
  simp [strs, List.replicate_succ, strRow]
theorem partsE_of {n : NodeD} {i : Nat} (h : goodN n i) : partsE n = if n.kind = 4 then 1 else if n.kind = 5 ∨ n.kind = 6 then 2 else 0 := by
  obtain ⟨k, a, b⟩ := n
  unfold goodN at h
  dsimp only at h
  simp only [partsE, leafI]
  rcases h with ⟨rfl | rfl, rfl, rfl⟩ | ⟨rfl, h1, rfl⟩ | ⟨rfl, h1, rfl⟩ | ⟨rfl | rfl, h1, h2⟩ <;> simp_all
theorem node_eq {l : List NodeD} {i : Nat} {n : NodeD} (h : i < l.length) (hn : l.getD i default = n) : (nodeRows l)[((i : Nat) : Int).toNat]? = some (nodeRow n) := by rw [node_at h, hn]
def RPrinted (xs : List AV) (r : AV) (objs : List AObj) : Prop := ∃ l, xs = [.val (nodeRows l), .fn 62 []] ∧ goodL l ∧ r = .str (tx l (l.length - 1)) ∧ objs = []
theorem RPrinted_mk {l : List NodeD} (h : goodL l) : RPrinted [.val (nodeRows l), .fn 62 []] (.str (tx l (l.length - 1))) [] := ⟨l, rfl, h, rfl, rfl⟩
theorem RPartsE_of {n : NodeD} {p : Int} (h : partsE n = p) : RPartsE [.agg (nodeRow n)] (.int .i64 p) [] := ⟨n, rfl, by rw [h], rfl⟩
set_option maxHeartbeats 4000000 in
theorem s_impl_printed : PureSound Tryd.prog 61 RPrinted := by
  have hR : Rely Tryd.prog (ctxOf [(73, .pure RSign), (62, .pure RPartsE), (74, .pure RDigit)]) :=
    rely_cons b_impl_signOf.has s_impl_signOf (rely_cons b_impl_exprParts.has s_impl_exprParts (rely_cons b_impl_digit.has s_impl_digit (rely_nil mixed)))
  refine pure_of_aw b_impl_printed ?_
  rintro xs r objs ⟨l, rfl, hok, rfl, rfl⟩ -
  have hln := length_nodeRows l
  obtain ⟨⟨hl1, hl2⟩, hgd⟩ := hok
  refine ⟨by simp, vc2_sound hR _ _ _ _ _ ?_⟩
  conv => whnf
  repeat' ((first | (refine And.intro (fun hb => ?_) (fun hb => ?_) <;> ((try simp only [SB, reduceCtorEq] at hb); try (exfalso; omega))) | refine G2 ?_ | rw [ints_at (by omega)] | rw [ints_at0 (by omega)] | rw [ints_at' (by omega) (by omega)] | refine G1 ?_ | fail) <;> conv => whnf)
  refine Lp.intro (α := Nat) (fun i => i ≤ l.length) (fun i => l.length - i)
    (fun i => [(0, .val (nodeRows l)), (1, .fn 62 []), (5, .ref 0 0 l.length), (12, .val (nodeRows l)), (13, .int .i64 l.length), (14, .int .i64 i)]) (fun i => [some (.arr 1 (strs (txts l i ++ List.replicate (l.length - i) [])))]) ?_ ?_
  · refine ⟨0, by omega, [some 0], rfl, rfl, And.intro (And.intro rfl ?_) trivial, ?_⟩
    · simp [strs, txts, nodeRows, strRow]
    · repeat' (first
        | exact trivial
        | refine ⟨?_, ?_⟩
        | fail)
      all_goals first
        | with_reducible rfl
        | (conv => whnf
           try left
           conv => lhs; whnf
           first
             | rfl
             | exact congrArg (AV.int .i64) (by omega)
             | skip)
      simp [nodeRows]
  · rintro i hi
    have hX : (txts l i ++ List.replicate (l.length - i) []).length = l.length := by simp [length_txts]; omega
    have hti := length_txts l i
    refine vc2_sound hR _ _ _ _ _ ?_
    by_cases hil : i < l.length
    · have hg := (hgd i hil).1
      have hps := partsE_of hg
      have hnext : txts l (i + 1) = txts l i ++ [nodeTxt (l.getD i default) (txts l i)] := rfl
      have hbnd : ∀ j, j < i → ((txts l i).getD j []).length ≤ 100 := fun j hj => by rw [tx_at hj (by omega)]; exact (hgd j (by omega)).2
      generalize hn : l.getD i default = n at *
      obtain ⟨k, a, b⟩ := n
      unfold goodN at hg
      unfold nodeTxt at hnext
      dsimp only at hg hps hnext
      rcases hg with ⟨hk, rfl, rfl⟩ | ⟨rfl, ha, rfl⟩ | ⟨rfl, ha, rfl⟩ | ⟨hk, ha, hb2⟩
      · rw [if_neg (by omega), if_pos hk] at hnext
        rw [if_neg (by omega), if_neg (by omega)] at hps
        conv => whnf
        repeat' ((first | (refine And.intro (fun hb => ?_) (fun hb => ?_) <;> ((try simp only [SB, reduceCtorEq] at hb); try (exfalso; omega))) | refine G2 ?_ | rw [ints_at (by omega)] | rw [ints_at0 (by omega)] | rw [ints_at' (by omega) (by omega)] | refine G1 ?_ | rw [node_eq hil hn] | refine ⟨_, _, RSign_mk (k := k) (by omega), ?_⟩ | refine ⟨_, _, RPartsE_of hps, ?_⟩ | rw [str_hole (by omega) (by omega)] | rw [sset_at (by omega)] | fail) <;> conv => whnf)
        refine ⟨i + 1, by omega, by omega, [some 0], rfl, rfl, And.intro (And.intro rfl ?_) trivial, ?_⟩
        · rw [hnext]
          exact sfill_at rfl (by omega) hil
        · repeat' (first
            | exact trivial
            | refine ⟨?_, ?_⟩
            | fail)
          all_goals first
            | with_reducible rfl
            | (conv => whnf
               try left
               conv => lhs; whnf
               first
                 | rfl
                 | exact congrArg (AV.int .i64) (by omega)
                 | skip)
      · rw [if_pos rfl] at hnext
        rw [if_neg (by omega), if_neg (by omega)] at hps
        conv => whnf
        repeat' ((first | (refine And.intro (fun hb => ?_) (fun hb => ?_) <;> ((try simp only [SB, reduceCtorEq] at hb); try (exfalso; omega))) | refine G2 ?_ | rw [ints_at (by omega)] | rw [ints_at0 (by omega)] | rw [ints_at' (by omega) (by omega)] | refine G1 ?_ | rw [node_eq hil hn] | refine ⟨_, _, RSign_mk (k := 3) (by omega), ?_⟩ | refine ⟨_, _, RPartsE_of hps, ?_⟩ | rw [str_hole (by omega) (by omega)] | rw [sset_at (by omega)] | refine ⟨_, _, RDigit_mk (n := a) (by omega) (by omega), ?_⟩ | fail) <;> conv => whnf)
        refine ⟨i + 1, by omega, by omega, [some 0], rfl, rfl, And.intro (And.intro rfl ?_) trivial, ?_⟩
        · rw [hnext]
          exact (List.set_set _ ..).trans (sfill_at rfl (by omega) hil)
        · repeat' (first
            | exact trivial
            | refine ⟨?_, ?_⟩
            | fail)
          all_goals first
            | with_reducible rfl
            | (conv => whnf
               try left
               conv => lhs; whnf
               first
                 | rfl
                 | exact congrArg (AV.int .i64) (by omega)
                 | skip)
      · rw [if_neg (by omega), if_neg (by omega), if_pos rfl] at hnext
        rw [if_pos rfl] at hps
        have hsg := length_sgn 4
        have h1 := hbnd a.toNat (by omega)
        obtain ⟨sa, hA⟩ : ∃ sa, (txts l i).getD a.toNat [] = sa := ⟨_, rfl⟩
        rw [hA] at hnext h1
        conv => whnf
        repeat' ((first | (refine And.intro (fun hb => ?_) (fun hb => ?_) <;> ((try simp only [SB, reduceCtorEq] at hb); try (exfalso; omega))) | refine G2 ?_ | rw [ints_at (by omega)] | rw [ints_at0 (by omega)] | rw [ints_at' (by omega) (by omega)] | refine G1 ?_ | rw [node_eq hil hn] | refine ⟨_, _, RSign_mk (k := 4) (by omega), ?_⟩ | refine ⟨_, _, RPartsE_of hps, ?_⟩ | rw [str_hole (by omega) (by omega)] | rw [strs_rd (by omega) (by omega) hA] | fail) <;> conv => whnf)
        refine ⟨i + 1, by omega, by omega, [some 0], rfl, rfl, And.intro (And.intro rfl ?_) trivial, ?_⟩
        · rw [hnext]
          exact sfill_at rfl (by omega) hil
        · repeat' (first
            | exact trivial
            | refine ⟨?_, ?_⟩
            | fail)
          all_goals first
            | with_reducible rfl
            | (conv => whnf
               try left
               conv => lhs; whnf
               first
                 | rfl
                 | exact congrArg (AV.int .i64) (by omega)
                 | skip)
      · rw [if_neg (by omega), if_neg (by omega), if_neg (by omega)] at hnext
        rw [if_neg (by omega), if_pos hk] at hps
        have hsg := length_sgn k
        have h1 := hbnd a.toNat (by omega)
        have h2 := hbnd b.toNat (by omega)
        obtain ⟨sa, hA⟩ : ∃ sa, (txts l i).getD a.toNat [] = sa := ⟨_, rfl⟩
        obtain ⟨sb, hB⟩ : ∃ sb, (txts l i).getD b.toNat [] = sb := ⟨_, rfl⟩
        rw [hA, hB] at hnext
        rw [hA] at h1
        rw [hB] at h2
        conv => whnf
        repeat' ((first | (refine And.intro (fun hb => ?_) (fun hb => ?_) <;> ((try simp only [SB, reduceCtorEq] at hb); try (exfalso; omega))) | refine G2 ?_ | rw [ints_at (by omega)] | rw [ints_at0 (by omega)] | rw [ints_at' (by omega) (by omega)] | refine G1 ?_ | rw [node_eq hil hn] | refine ⟨_, _, RSign_mk (k := k) (by omega), ?_⟩ | refine ⟨_, _, RPartsE_of hps, ?_⟩ | rw [str_hole (by omega) (by omega)] | rw [strs_rd (by omega) (by omega) hA] | rw [strs_rd (by omega) (by omega) hB] | (refine And.intro (by simp only [List.length_append, List.length_cons, List.length_nil]; omega) ?_) | fail) <;> conv => whnf)
        refine ⟨i + 1, by omega, by omega, [some 0], rfl, rfl, And.intro (And.intro rfl ?_) trivial, ?_⟩
        · rw [hnext]
          exact sfill_at rfl (by omega) hil
        · repeat' (first
            | exact trivial
            | refine ⟨?_, ?_⟩
            | fail)
          all_goals first
            | with_reducible rfl
            | (conv => whnf
               try left
               conv => lhs; whnf
               first
                 | rfl
                 | exact congrArg (AV.int .i64) (by omega)
                 | skip)
    · have hil' : i = l.length := by omega
      subst hil'
      have hlast : (txts l l.length).getD (((nodeRows l).length : Int) - 1).toNat [] = tx l (l.length - 1) := by
        have : (((nodeRows l).length : Int) - 1).toNat = l.length - 1 := by omega
        rw [this]; rfl
      conv => whnf
      repeat' ((first | (refine And.intro (fun hb => ?_) (fun hb => ?_) <;> ((try simp only [SB, reduceCtorEq] at hb); try (exfalso; omega))) | refine G2 ?_ | rw [ints_at (by omega)] | rw [ints_at0 (by omega)] | rw [ints_at' (by omega) (by omega)] | refine G1 ?_ | rw [strs_rd (by omega) (by omega) hlast] | fail) <;> conv => whnf)
      refine ⟨.inl rfl, ?_⟩
      conv => whnf
      refine ⟨[], ⟨rfl, trivial⟩, ?_, rfl, rfl⟩
      conv => whnf
      left
      conv => lhs; whnf
def RPrintE (xs : List AV) (r : AV) (objs : List AObj) : Prop := ∃ l, xs = [.val (nodeRows l)] ∧ goodL l ∧ treeE l = true ∧ exprOk l = true ∧ r = .str (tx l (l.length - 1)) ∧ objs = []
theorem RPrintE_eq {xs : List AV} {l : List NodeD} (hx : xs = [.val (nodeRows l)]) (h : goodL l) (h1 : treeE l = true) (h2 : exprOk l = true) : RPrintE xs (.str (tx l (l.length - 1))) [] := ⟨l, hx, h, h1, h2, rfl, rfl⟩
theorem s_impl_ExprPrint : PureSound Tryd.prog 45 RPrintE := by
  have hR : Rely Tryd.prog (ctxOf [(60, .pure RExprOkI), (61, .pure RPrinted)]) := rely_cons b_impl_ExprOk.has s_impl_ExprOk (rely_cons b_impl_printed.has s_impl_printed (rely_nil mixed))
  refine pure_of_aw b_impl_ExprPrint ?_
  rintro xs r objs ⟨l, rfl, hg, h1, h2, rfl, rfl⟩ -
  refine ⟨by simp, vc2_sound hR _ _ _ _ _ ?_⟩
  have ho := RExprOkI_mk (l := l)
  rw [h1] at ho
  conv => whnf
  repeat' ((first | (refine And.intro (fun hb => ?_) (fun hb => ?_) <;> ((try simp only [SB, reduceCtorEq] at hb); try (exfalso; omega))) | refine G2 ?_ | rw [ints_at (by omega)] | rw [ints_at0 (by omega)] | rw [ints_at' (by omega) (by omega)] | refine G1 ?_ | refine ⟨_, _, ho, ?_⟩ | refine ⟨_, _, RPrinted_mk hg, ?_⟩ | fail) <;> conv => whnf)
  refine ⟨.inl rfl, ?_⟩
  conv => whnf
  refine ⟨[], ⟨rfl, trivial⟩, ?_, rfl, rfl⟩
  conv => whnf
  left
  conv => lhs; whnf
def RPrintS (B : Nat) (xs : List AV) (r : AV) (objs : List AObj) : Prop := ∃ (l : List NodeD) (x : Nat), xs = [.val (nodeRows l), .int .i64 ((x : Nat) : Int)] ∧ goodL l ∧ x < l.length ∧ x < B ∧ r = .str (tx l x) ∧ objs = []
theorem RPrintS_is {B : Nat} {xs : List AV} {l : List NodeD} {y : Int} {x : Nat} (hx : xs = [.val (nodeRows l), .int .i64 y]) (hy : y = ((x : Nat) : Int)) (hg : goodL l) (h : x < l.length) (h2 : x < B) : RPrintS B xs (.str (tx l x)) [] := ⟨l, x, by rw [hx, hy], hg, h, h2, rfl, rfl⟩
set_option maxHeartbeats 4000000 in
theorem s_l2Print_n : ∀ B, PureSound Tryd.prog 35 (RPrintS B)
  | 0 => by
    rintro w own xs vs r objs - ⟨l, x, _, _, _, h, _⟩
    omega
  | B + 1 => by
    have hR : Rely Tryd.prog (ctxOf [(31, .pure RDigit), (35, .pure (RPrintS B))]) :=
      rely_cons b_spec_l2Digit.has s_spec_l2Digit (rely_cons b_spec_l2Print.has (s_l2Print_n B) (rely_nil mixed))
    refine pure_of_aw b_spec_l2Print ?_
    rintro xs r objs ⟨l, x, rfl, hg, hx, hB, rfl, rfl⟩ -
    have hgx := (hg.2 x hx).1
    have hlen := fun j (hj : j < l.length) => (hg.2 j hj).2
    have htx := tx_is hx
    have hat : ∀ j, j < x → (txts l x).getD j [] = tx l j := fun j hj => tx_at hj (by omega)
    refine ⟨by simp, vc2_sound hR _ _ _ _ _ ?_⟩
    generalize hn : l.getD x default = n at *
    obtain ⟨k, a, b⟩ := n
    unfold goodN at hgx
    unfold nodeTxt at htx
    dsimp only at hgx htx
    rcases hgx with ⟨hk, rfl, rfl⟩ | ⟨rfl, ha, rfl⟩ | ⟨rfl, ha, rfl⟩ | ⟨hk, ha, hb2⟩
    · rw [if_neg (by omega), if_pos hk] at htx
      rcases hk with rfl | rfl
      all_goals
        conv => whnf
        repeat' ((first | (refine And.intro (fun hb => ?_) (fun hb => ?_) <;> ((try simp only [SB, reduceCtorEq] at hb); try (exfalso; omega))) | refine G2 ?_ | rw [ints_at (by omega)] | rw [ints_at0 (by omega)] | rw [ints_at' (by omega) (by omega)] | refine G1 ?_ | rw [node_eq hx hn] | fail) <;> conv => whnf)
        refine ⟨.inl rfl, ?_⟩
        conv => whnf
        refine ⟨[], ⟨rfl, trivial⟩, ?_, rfl, rfl⟩
        conv => whnf
        left
        conv => lhs; whnf
        rw [htx]
        rfl
    · rw [if_pos rfl] at htx
      conv => whnf
      repeat' ((first | (refine And.intro (fun hb => ?_) (fun hb => ?_) <;> ((try simp only [SB, reduceCtorEq] at hb); try (exfalso; omega))) | refine G2 ?_ | rw [ints_at (by omega)] | rw [ints_at0 (by omega)] | rw [ints_at' (by omega) (by omega)] | refine G1 ?_ | rw [node_eq hx hn] | refine ⟨_, _, RDigit_mk (n := a) (by omega) (by omega), ?_⟩ | fail) <;> conv => whnf)
      refine ⟨.inl rfl, ?_⟩
      conv => whnf
      refine ⟨[], ⟨rfl, trivial⟩, ?_, rfl, rfl⟩
      conv => whnf
      left
      conv => lhs; whnf
      rw [htx]
    · rw [if_neg (by omega), if_neg (by omega), if_pos rfl, hat _ (by omega)] at htx
      have l1 : (tx l a.toNat).length ≤ 100 := hlen a.toNat (by omega)
      conv => whnf
      repeat' ((first | (refine And.intro (fun hb => ?_) (fun hb => ?_) <;> ((try simp only [SB, reduceCtorEq] at hb); try (exfalso; omega))) | refine G2 ?_ | rw [ints_at (by omega)] | rw [ints_at0 (by omega)] | rw [ints_at' (by omega) (by omega)] | refine G1 ?_ | rw [node_eq hx hn] | refine ⟨_, _, RPrintS_is (x := a.toNat) rfl (Int.toNat_of_nonneg ha.1).symm hg (by omega) (by omega), ?_⟩ | (refine And.intro (by simp only [List.length_append, List.length_cons, List.length_nil]; omega) ?_) | fail) <;> conv => whnf)
      refine ⟨.inl rfl, ?_⟩
      conv => whnf
      refine ⟨[], ⟨rfl, trivial⟩, ?_, rfl, rfl⟩
      conv => whnf
      left
      conv => lhs; whnf
      rw [htx]
      rfl
    · rw [if_neg (by omega), if_neg (by omega), if_neg (by omega), hat _ (by omega), hat _ (by omega)] at htx
      have l1 : (tx l a.toNat).length ≤ 100 := hlen a.toNat (by omega)
      have l2 : (tx l b.toNat).length ≤ 100 := hlen b.toNat (by omega)
      rcases hk with rfl | rfl
      all_goals
        conv => whnf
        repeat' ((first | (refine And.intro (fun hb => ?_) (fun hb => ?_) <;> ((try simp only [SB, reduceCtorEq] at hb); try (exfalso; omega))) | refine G2 ?_ | rw [ints_at (by omega)] | rw [ints_at0 (by omega)] | rw [ints_at' (by omega) (by omega)] | refine G1 ?_ | rw [node_eq hx hn] | refine ⟨_, _, RPrintS_is (x := a.toNat) rfl (Int.toNat_of_nonneg ha.1).symm hg (by omega) (by omega), ?_⟩ | refine ⟨_, _, RPrintS_is (x := b.toNat) rfl (Int.toNat_of_nonneg hb2.1).symm hg (by omega) (by omega), ?_⟩ | (refine And.intro (by simp only [List.length_append, List.length_cons, List.length_nil]; omega) ?_) | fail) <;> conv => whnf)
        refine ⟨.inl rfl, ?_⟩
        conv => whnf
        refine ⟨[], ⟨rfl, trivial⟩, ?_, rfl, rfl⟩
        conv => whnf
        left
        conv => lhs; whnf
        rw [htx]
        rfl
theorem s_spec_ExprPrint : PureSound Tryd.prog 17 RPrintE := by
  have hR : Rely Tryd.prog (ctxOf [(34, .pure RExprOkS), (35, .pure (RPrintS 31))]) := rely_cons b_spec_ExprOk.has s_spec_ExprOk (rely_cons b_spec_l2Print.has (s_l2Print_n 31) (rely_nil mixed))
  refine pure_of_aw b_spec_ExprPrint ?_
  rintro xs r objs ⟨l, rfl, hg, h1, h2, rfl, rfl⟩ -
  have hln := length_nodeRows l
  obtain ⟨hl1, hl2⟩ := hg.1
  refine ⟨by simp, vc2_sound hR _ _ _ _ _ ?_⟩
  have ho := RExprOkS_mk (l := l)
  rw [h2] at ho
  conv => whnf
  repeat' ((first | (refine And.intro (fun hb => ?_) (fun hb => ?_) <;> ((try simp only [SB, reduceCtorEq] at hb); try (exfalso; omega))) | refine G2 ?_ | rw [ints_at (by omega)] | rw [ints_at0 (by omega)] | rw [ints_at' (by omega) (by omega)] | refine G1 ?_ | refine ⟨_, _, ho, ?_⟩ | refine ⟨_, _, RPrintS_is (x := l.length - 1) rfl (by omega) hg (by omega) (by omega), ?_⟩ | fail) <;> conv => whnf)
  refine ⟨.inl rfl, ?_⟩
  conv => whnf
  refine ⟨[], ⟨rfl, trivial⟩, ?_, rfl, rfl⟩
  conv => whnf
  left
  conv => lhs; whnf
structure EdgeD where
  src : Int
  letter : Int
  dst : Int
  mark : Bool
  deriving Inhabited, DecidableEq
structure AutoD where
  letters : Int
  states : Int
  start : Int
  edges : List EdgeD
  deriving Inhabited, DecidableEq
structure NamedD where
  name : Int
  auto : AutoD
  deriving Inhabited, DecidableEq
def edgeRow (x : EdgeD) : List AV := [.int .i64 x.src, .int .i64 x.letter, .int .i64 x.dst, .bool x.mark]
def edgeRows (l : List EdgeD) : List (List AV) := l.map edgeRow
def autoRow (a : AutoD) : List AV := [.int .i64 a.letters, .int .i64 a.states, .int .i64 a.start, .val (edgeRows a.edges)]
def namedRow (x : NamedD) : List AV := [.int .i64 x.name, .int .i64 x.auto.letters, .int .i64 x.auto.states, .int .i64 x.auto.start, .val (edgeRows x.auto.edges)]
def namedRows (l : List NamedD) : List (List AV) := l.map namedRow
def c_laws_szEdgeS : ICode := (.seq (.reg [Ol 4 .mv [ci 0]]) (.seq (.reg [O1 5 .mv 1, O1 6 .mv 0, O1 7 .len 6, O2 8 (.bin .sub) 5 7, O1 1 .mv 8]) (.seq (.seq (.reg [O1 9 .mv 1, Ol 10 (.bin .lss) [.t 9, ci 0]]) (.cond (.t 10) (.seq (.reg [Ol 4 .mv [ci (-1)]]) .ret) .skip)) (.seq (.reg [O1 11 .mv 1, O1 4 .mv 11]) .ret))))
theorem b_laws_szEdgeS : Body Tryd.prog 9 12 c_laws_szEdgeS [(.t 4)] := body_mk Tryd.func9 (by kernel_rfl) (by decide)
def c_laws_szAuto : ICode := (.seq (.reg [O1 2 (.box 4) 0, Ol 4 .mv [ci 0]]) (.seq (.reg [O1 5 (.fadr 3) 2, O1 6 .ld1 5, O1 7 .mv 1, O2 8 (.call 9) 6 7, O1 1 .mv 8]) (.seq (.seq (.reg [O1 9 .mv 1, Ol 10 (.bin .lss) [.t 9, ci 0]]) (.cond (.t 10) (.seq (.reg [Ol 4 .mv [ci (-1)]]) .ret) .skip)) (.seq (.reg [O1 11 .mv 1, O1 4 .mv 11]) .ret))))
theorem b_laws_szAuto : Body Tryd.prog 4 12 c_laws_szAuto [(.t 4)] := body_mk Tryd.func4 (by kernel_rfl) (by decide)
def c_laws_toEdge : ICode := (.seq (.reg [O1 1 (.box 4) 0, O0 2 (.alc [(.int .i64 0), (.int .i64 0), (.int .i64 0), (.bool false)])]) (.seq (.reg [O0 3 (.alc [(.int .i64 0), (.int .i64 0), (.int .i64 0), (.bool false)])]) (.seq (.reg [O1 4 (.fadr 0) 1, O1 5 .ld1 4, O1 6 (.fadr 0) 3, S2 (.st 1) 6 5]) (.seq (.reg [O1 7 (.fadr 1) 1, O1 8 .ld1 7, O1 9 (.fadr 1) 3, S2 (.st 1) 9 8]) (.seq (.reg [O1 10 (.fadr 2) 1, O1 11 .ld1 10, O1 12 (.fadr 2) 3, S2 (.st 1) 12 11]) (.seq (.reg [O1 13 (.fadr 3) 1, O1 14 .ld1 13, O1 15 (.fadr 3) 3, S2 (.st 1) 15 14]) (.seq (.reg [O1 16 (.ldn 4) 3, S2 (.st 4) 2 16]) .ret)))))))
theorem b_laws_toEdge : Body Tryd.prog 36 17 c_laws_toEdge [(.cn 2 4)] := body_mk Tryd.func36 (by kernel_rfl) (by decide)
def c_laws_toEdgeS : ICode := (.seq (.reg [Ol 2 .mv [.c .snil]]) (.seq (.reg [O1 5 .mv 0, O1 6 .len 5, O2 7 (.mks 4 32 [(.int .i64 0), (.int .i64 0), (.int .i64 0), (.bool false)]) 6 6, O1 3 .mv 7]) (.seq (.seq (.reg [Ol 4 .mv [ci 0]]) (.block 0 (.loop (.seq (.seq (.reg [O1 8 .mv 4, O1 9 .mv 0, O1 10 .len 9, O2 11 (.bin .lss) 8 10]) (.cond (.t 11) .skip (.exit 0))) (.seq (.block 1 (.reg [O1 14 .mv 3, O1 15 .mv 4, O1 16 .mv 0, O1 17 .mv 4, O2 18 (.iadr 4) 16 17, O1 19 (.ldn 4) 18, O1 20 (.call 36) 19, O2 21 (.iadr 4) 14 15, S2 (.st 4) 21 20])) (.reg [O1 12 .mv 4, Ol 13 (.bin .add) [.t 12, ci 1], O1 4 .mv 13])))))) (.seq (.reg [O1 22 .mv 3, O1 2 .mv 22]) .ret))))
theorem b_laws_toEdgeS : Body Tryd.prog 18 23 c_laws_toEdgeS [(.t 2)] := body_mk Tryd.func18 (by kernel_rfl) (by decide)
def c_laws_toAuto : ICode := (.seq (.reg [O1 1 (.box 4) 0, O0 2 (.alc [(.int .i64 0), (.int .i64 0), (.int .i64 0), .snil])]) (.seq (.reg [O0 3 (.alc [(.int .i64 0), (.int .i64 0), (.int .i64 0), .snil])]) (.seq (.reg [O1 4 (.fadr 0) 1, O1 5 .ld1 4, O1 6 (.fadr 0) 3, S2 (.st 1) 6 5]) (.seq (.reg [O1 7 (.fadr 1) 1, O1 8 .ld1 7, O1 9 (.fadr 1) 3, S2 (.st 1) 9 8]) (.seq (.reg [O1 10 (.fadr 2) 1, O1 11 .ld1 10, O1 12 (.fadr 2) 3, S2 (.st 1) 12 11]) (.seq (.reg [O1 13 (.fadr 3) 1, O1 14 .ld1 13, O1 15 (.call 18) 14, O1 16 (.fadr 3) 3, S2 (.st 1) 16 15]) (.seq (.reg [O1 17 (.ldn 4) 3, S2 (.st 4) 2 17]) .ret)))))))
theorem b_laws_toAuto : Body Tryd.prog 6 18 c_laws_toAuto [(.cn 2 4)] := body_mk Tryd.func6 (by kernel_rfl) (by decide)
def RSzEdgeS (xs : List AV) (r : AV) (objs : List AObj) : Prop := ∃ l n, xs = [.val (edgeRows l), .int .i64 n] ∧ -1 ≤ n ∧ n ≤ 1048576 ∧ r = .int .i64 (if n - l.length < 0 then -1 else n - l.length) ∧ objs = []
theorem RSzEdgeS_mk {l : List EdgeD} {n : Int} (h1 : -1 ≤ n) (h2 : n ≤ 1048576) : RSzEdgeS [.val (edgeRows l), .int .i64 n] (.int .i64 (if n - l.length < 0 then -1 else n - l.length)) [] := ⟨l, n, rfl, h1, h2, rfl, rfl⟩
@[simp] theorem length_edgeRows (l : List EdgeD) : (edgeRows l).length = l.length := by simp [edgeRows]
theorem s_laws_szEdgeS : PureSound Tryd.prog 9 RSzEdgeS := by
  have hR : Rely Tryd.prog (ctxOf []) := rely_nil mixed
  refine pure_of_aw b_laws_szEdgeS ?_
  rintro xs r objs ⟨l, n, rfl, h1, h2, rfl, rfl⟩ ⟨w, own, vs, hrel⟩
  have hl : (edgeRows l).length ≤ 9223372036854775807 := by
    obtain ⟨v, hv⟩ := rels_at hrel (i := 0) rfl
    exact rel_len hv
  clear hrel
  have hle := length_edgeRows l
  refine ⟨by simp, vc2_sound hR _ _ _ _ _ ?_⟩
  conv => whnf
  repeat' ((first | contradiction | (refine And.intro (fun hb => ?_) (fun hb => ?_) <;> first | contradiction | ((try simp only [SB, reduceCtorEq] at hb); try (exfalso; first | contradiction | omega))) | refine G2 ?_ | rw [ints_at (by omega)] | rw [ints_at0 (by omega)] | rw [ints_at' (by omega) (by omega)] | refine G1 ?_ | fail) <;> conv => whnf)
  · refine ⟨.inl rfl, ?_⟩
    conv => whnf
    refine ⟨[], ⟨rfl, trivial⟩, ?_, rfl, rfl⟩
    conv => whnf
    left
    conv => lhs; whnf
    exact congrArg (AV.int .i64) (by rw [if_pos (by omega)])
  · refine ⟨.inl rfl, ?_⟩
    conv => whnf
    refine ⟨[], ⟨rfl, trivial⟩, ?_, rfl, rfl⟩
    conv => whnf
    left
    conv => lhs; whnf
    exact congrArg (AV.int .i64) (by rw [if_neg (by omega)]; omega)
def REdge (xs : List AV) (r : AV) (objs : List AObj) : Prop := ∃ x, xs = [.agg (edgeRow x)] ∧ r = .agg (edgeRow x) ∧ objs = []
theorem REdge_mk {x : EdgeD} : REdge [.agg (edgeRow x)] (.agg (edgeRow x)) [] := ⟨x, rfl, rfl, rfl⟩
theorem s_laws_toEdge : PureSound Tryd.prog 36 REdge := by
  have hR : Rely Tryd.prog (ctxOf []) := rely_nil mixed
  refine pure_of_aw b_laws_toEdge ?_
  rintro xs r objs ⟨⟨a, b, c, m⟩, rfl, rfl, rfl⟩ -
  refine ⟨by simp, vc2_sound hR _ _ _ _ _ ?_⟩
  cases m
  all_goals
    conv => whnf
    repeat' ((first | contradiction | (refine And.intro (fun hb => ?_) (fun hb => ?_) <;> first | contradiction | ((try simp only [SB, reduceCtorEq] at hb); try (exfalso; first | contradiction | omega))) | refine G2 ?_ | rw [ints_at (by omega)] | rw [ints_at0 (by omega)] | rw [ints_at' (by omega) (by omega)] | refine G1 ?_ | fail) <;> conv => whnf)
    refine ⟨.inl rfl, ?_⟩
    conv => whnf
    refine And.intro (Nat.le_of_ble_eq_true rfl) ?_
    conv => whnf
    refine ⟨[], ⟨rfl, trivial⟩, ?_, rfl, rfl⟩
    exact And.intro (.inl rfl) (And.intro (.inl rfl) (And.intro (.inl rfl) (And.intro (.inl rfl) trivial)))
def RToEdgeS (xs : List AV) (r : AV) (objs : List AObj) : Prop := ∃ l, xs = [.val (edgeRows l)] ∧ l.length ≤ 1048576 ∧ r = .ref 0 0 l.length ∧ objs = [.arr 4 (edgeRows l)]
theorem RToEdgeS_mk {l : List EdgeD} (h : l.length ≤ 1048576) : RToEdgeS [.val (edgeRows l)] (.ref 0 0 l.length) [.arr 4 (edgeRows l)] := ⟨l, rfl, h, rfl, rfl⟩
theorem edgeRows_nov (l : List EdgeD) : (edgeRows l).all AV.novs = true := by
  simp [edgeRows, edgeRow, AV.novs, AV.nov]
def zeroEdge : EdgeD := ⟨0, 0, 0, false⟩
theorem s_laws_toEdgeS : PureSound Tryd.prog 18 RToEdgeS := by
  have hR : Rely Tryd.prog (ctxOf [(36, .pure REdge)]) := rely_cons b_laws_toEdge.has s_laws_toEdge (rely_nil mixed)
  refine pure_of_aw b_laws_toEdgeS ?_
  rintro xs r objs ⟨l, rfl, hl, rfl, rfl⟩ -
  have hle := length_edgeRows l
  refine ⟨by simp, vc2_sound hR _ _ _ _ _ ?_⟩
  conv => whnf
  repeat' ((first | contradiction | (refine And.intro (fun hb => ?_) (fun hb => ?_) <;> first | contradiction | ((try simp only [SB, reduceCtorEq] at hb); try (exfalso; first | contradiction | omega))) | refine G2 ?_ | rw [ints_at (by omega)] | rw [ints_at0 (by omega)] | rw [ints_at' (by omega) (by omega)] | refine G1 ?_ | fail) <;> conv => whnf)
  refine Lp.intro (α := Nat) (fun i => i ≤ l.length) (fun i => l.length - i) (fun i => [(0, .val (edgeRows l)), (3, .ref 0 0 l.length), (4, .int .i64 i)]) (fun i => [some (.arr 4 ((l.take i ++ List.replicate (l.length - i) zeroEdge).map edgeRow))]) ?_ ?_
  · refine ⟨0, by omega, [some 0], rfl, rfl, And.intro (And.intro rfl ?_) trivial, ?_⟩
    · show List.replicate ((edgeRows l).length : Int).toNat _ = _
      simp [edgeRows, edgeRow, zeroEdge]
    · repeat' (first
        | exact trivial
        | refine ⟨?_, ?_⟩
        | fail)
      all_goals first
        | with_reducible rfl
        | (conv => whnf
           try left
           conv => lhs; whnf
           first
             | rfl
             | exact congrArg (AV.int .i64) (by omega)
             | skip)
      exact congrArg (AV.ref 0 0) (by simp [edgeRows])
  · intro i hi
    refine vc2_sound hR _ _ _ _ _ ?_
    by_cases hlt : i < l.length
    · conv => whnf
      repeat' ((first | contradiction | (refine And.intro (fun hb => ?_) (fun hb => ?_) <;> first | contradiction | ((try simp only [SB, reduceCtorEq] at hb); try (exfalso; first | contradiction | omega))) | refine G2 ?_ | rw [ints_at (by omega)] | rw [ints_at0 (by omega)] | rw [ints_at' (by omega) (by omega)] | refine G1 ?_ | fail) <;> conv => whnf)
      rw [show (edgeRows l)[((i : Nat) : Int).toNat]? = some (edgeRow (l.getD i default)) from map_at hlt]
      conv => whnf
      repeat' ((first | contradiction | (refine And.intro (fun hb => ?_) (fun hb => ?_) <;> first | contradiction | ((try simp only [SB, reduceCtorEq] at hb); try (exfalso; first | contradiction | omega))) | refine G2 ?_ | rw [ints_at (by omega)] | rw [ints_at0 (by omega)] | rw [ints_at' (by omega) (by omega)] | refine G1 ?_ | refine ⟨_, _, REdge_mk (x := l.getD i default), ?_⟩ | fail) <;> conv => whnf)
      rw [map_at0 (f := edgeRow) (by simp; omega)]
      conv => whnf
      repeat' ((first | contradiction | (refine And.intro (fun hb => ?_) (fun hb => ?_) <;> first | contradiction | ((try simp only [SB, reduceCtorEq] at hb); try (exfalso; first | contradiction | omega))) | refine G2 ?_ | rw [ints_at (by omega)] | rw [ints_at0 (by omega)] | rw [ints_at' (by omega) (by omega)] | refine G1 ?_ | fail) <;> conv => whnf)
      refine ⟨i + 1, by omega, by omega, [some 0], rfl, rfl, And.intro (And.intro rfl ?_) trivial, ?_⟩
      · show (List.map edgeRow _).set (0 + ((i : Nat) : Int).toNat) (edgeRow (l.getD i default)) = _
        rw [Nat.zero_add]
        exact fill_stepD hlt
      · repeat' (first
          | exact trivial
          | refine ⟨?_, ?_⟩
          | fail)
        all_goals first
          | with_reducible rfl
          | (conv => whnf
             try left
             conv => lhs; whnf
             first
               | rfl
               | exact congrArg (AV.int .i64) (by omega)
               | skip)
    · conv => whnf
      repeat' ((first | contradiction | (refine And.intro (fun hb => ?_) (fun hb => ?_) <;> first | contradiction | ((try simp only [SB, reduceCtorEq] at hb); try (exfalso; first | contradiction | omega))) | refine G2 ?_ | rw [ints_at (by omega)] | rw [ints_at0 (by omega)] | rw [ints_at' (by omega) (by omega)] | refine G1 ?_ | fail) <;> conv => whnf)
      refine ⟨.inl rfl, ?_⟩
      conv => whnf
      refine ⟨[some 0], ⟨rfl, And.intro (And.intro rfl ?_) trivial⟩, rfl, rfl, by simp [AObj.nov, edgeRows_nov]⟩
      have : i = l.length := by omega
      subst this
      simp [edgeRows]
def RSzAuto (xs : List AV) (r : AV) (objs : List AObj) : Prop := ∃ x n, xs = [.agg (autoRow x), .int .i64 n] ∧ -1 ≤ n ∧ n ≤ 1048576 ∧ r = .int .i64 (if n - x.edges.length < 0 then -1 else n - x.edges.length) ∧ objs = []
theorem RSzAuto_mk {x : AutoD} {n : Int} (h1 : -1 ≤ n) (h2 : n ≤ 1048576) : RSzAuto [.agg (autoRow x), .int .i64 n] (.int .i64 (if n - x.edges.length < 0 then -1 else n - x.edges.length)) [] := ⟨x, n, rfl, h1, h2, rfl, rfl⟩
theorem s_laws_szAuto : PureSound Tryd.prog 4 RSzAuto := by
  have hR : Rely Tryd.prog (ctxOf [(9, .pure RSzEdgeS)]) := rely_cons b_laws_szEdgeS.has s_laws_szEdgeS (rely_nil mixed)
  refine pure_of_aw b_laws_szAuto ?_
  rintro xs r objs ⟨x, n, rfl, h1, h2, rfl, rfl⟩ -
  refine ⟨by simp, vc2_sound hR _ _ _ _ _ ?_⟩
  conv => whnf
  repeat' ((first | contradiction | (refine And.intro (fun hb => ?_) (fun hb => ?_) <;> first | contradiction | ((try simp only [SB, reduceCtorEq] at hb); try (exfalso; first | contradiction | omega))) | refine G2 ?_ | rw [ints_at (by omega)] | rw [ints_at0 (by omega)] | rw [ints_at' (by omega) (by omega)] | refine G1 ?_ | refine ⟨_, _, RSzEdgeS_mk h1 h2, ?_⟩ | fail) <;> conv => whnf)
  · refine ⟨.inl rfl, ?_⟩
    conv => whnf
    refine ⟨[], ⟨rfl, trivial⟩, ?_, rfl, rfl⟩
    conv => whnf
    left
    conv => lhs; whnf
    exact congrArg (AV.int .i64) (by split at hb <;> (try rw [if_pos (by omega)]) <;> omega)
  · refine ⟨.inl rfl, ?_⟩
    conv => whnf
    refine ⟨[], ⟨rfl, trivial⟩, ?_, rfl, rfl⟩
    conv => whnf
    left
    conv => lhs; whnf
@[simp] theorem length_namedRows (l : List NamedD) : (namedRows l).length = l.length := by simp [namedRows]
def c_laws_eqEdge : ICode := (.seq (.reg [O1 2 (.box 4) 0, O1 3 (.box 4) 1, Ol 4 .mv [cb false]]) (.seq (.seq (.reg [O1 5 (.fadr 0) 2, O1 6 .ld1 5, O1 7 (.fadr 0) 3, O1 8 .ld1 7, O2 9 (.bin .neq) 6 8]) (.cond (.t 9) (.seq (.reg [Ol 4 .mv [cb false]]) .ret) .skip)) (.seq (.seq (.reg [O1 10 (.fadr 1) 2, O1 11 .ld1 10, O1 12 (.fadr 1) 3, O1 13 .ld1 12, O2 14 (.bin .neq) 11 13]) (.cond (.t 14) (.seq (.reg [Ol 4 .mv [cb false]]) .ret) .skip)) (.seq (.seq (.reg [O1 15 (.fadr 2) 2, O1 16 .ld1 15, O1 17 (.fadr 2) 3, O1 18 .ld1 17, O2 19 (.bin .neq) 16 18]) (.cond (.t 19) (.seq (.reg [Ol 4 .mv [cb false]]) .ret) .skip)) (.seq (.seq (.reg [O1 20 (.fadr 3) 2, O1 21 .ld1 20, O1 22 (.fadr 3) 3, O1 23 .ld1 22, O2 24 (.beq true) 21 23]) (.cond (.t 24) (.seq (.reg [Ol 4 .mv [cb false]]) .ret) .skip)) (.seq (.reg [Ol 4 .mv [cb true]]) .ret))))))
theorem b_laws_eqEdge : Body Tryd.prog 49 25 c_laws_eqEdge [(.t 4)] := body_mk Tryd.func49 (by kernel_rfl) (by decide)
def c_laws_eqEdgeS : ICode := (.seq (.reg [Ol 4 .mv [cb false]]) (.seq (.seq (.reg [O1 6 .mv 0, O1 7 .len 6, O1 8 .mv 1, O1 9 .len 8, O2 10 (.bin .neq) 7 9]) (.cond (.t 10) (.seq (.reg [Ol 4 .mv [cb false]]) .ret) .skip)) (.seq (.seq (.reg [Ol 5 .mv [ci 0]]) (.block 0 (.loop (.seq (.seq (.reg [O1 11 .mv 5, O1 12 .mv 0, O1 13 .len 12, O2 14 (.bin .lss) 11 13]) (.cond (.t 14) .skip (.exit 0))) (.seq (.block 1 (.seq (.drw [O1 17 .mv 0, O1 18 .mv 5, O2 19 (.iadr 4) 17 18, O1 20 (.ldn 4) 19, O1 21 .mv 1, O1 22 .mv 5, O2 23 (.iadr 4) 21 22, O1 24 (.ldn 4) 23, O2 25 (.call 49) 20 24, O1 26 .not 25] (unB [0, 0, 3, 7, 0, 0, 48, 112, 255, 511] 0) true true) (.cond (.t 26) (.seq (.reg [Ol 4 .mv [cb false]]) .ret) .skip))) (.reg [O1 15 .mv 5, Ol 16 (.bin .add) [.t 15, ci 1], O1 5 .mv 16])))))) (.seq (.reg [Ol 4 .mv [cb true]]) .ret))))
theorem b_laws_eqEdgeS : Body Tryd.prog 26 27 c_laws_eqEdgeS [(.t 4)] := body_mk Tryd.func26 (by kernel_rfl) (by decide)
def c_laws_eqAuto : ICode := (.seq (.reg [O1 2 (.box 4) 0, O1 3 (.box 4) 1, Ol 4 .mv [cb false]]) (.seq (.seq (.reg [O1 5 (.fadr 0) 2, O1 6 .ld1 5, O1 7 (.fadr 0) 3, O1 8 .ld1 7, O2 9 (.bin .neq) 6 8]) (.cond (.t 9) (.seq (.reg [Ol 4 .mv [cb false]]) .ret) .skip)) (.seq (.seq (.reg [O1 10 (.fadr 1) 2, O1 11 .ld1 10, O1 12 (.fadr 1) 3, O1 13 .ld1 12, O2 14 (.bin .neq) 11 13]) (.cond (.t 14) (.seq (.reg [Ol 4 .mv [cb false]]) .ret) .skip)) (.seq (.seq (.reg [O1 15 (.fadr 2) 2, O1 16 .ld1 15, O1 17 (.fadr 2) 3, O1 18 .ld1 17, O2 19 (.bin .neq) 16 18]) (.cond (.t 19) (.seq (.reg [Ol 4 .mv [cb false]]) .ret) .skip)) (.seq (.seq (.reg [O1 20 (.fadr 3) 2, O1 21 .ld1 20, O1 22 (.fadr 3) 3, O1 23 .ld1 22, O2 24 (.call 26) 21 23, O1 25 .not 24]) (.cond (.t 25) (.seq (.reg [Ol 4 .mv [cb false]]) .ret) .skip)) (.seq (.reg [Ol 4 .mv [cb true]]) .ret))))))
theorem b_laws_eqAuto : Body Tryd.prog 8 26 c_laws_eqAuto [(.t 4)] := body_mk Tryd.func8 (by kernel_rfl) (by decide)
def REqEdge (xs : List AV) (r : AV) (objs : List AObj) : Prop := ∃ x y, xs = [.agg (edgeRow x), .agg (edgeRow y)] ∧ r = .bool (decide (x = y)) ∧ objs = []
theorem REqEdge_mk {x y : EdgeD} : REqEdge [.agg (edgeRow x), .agg (edgeRow y)] (.bool (decide (x = y))) [] := ⟨x, y, rfl, rfl, rfl⟩
theorem edge_eq_iff {x y : EdgeD} : x = y ↔ x.src = y.src ∧ x.letter = y.letter ∧ x.dst = y.dst ∧ x.mark = y.mark := by
  cases x; cases y; simp
theorem s_laws_eqEdge : PureSound Tryd.prog 49 REqEdge := by
  have hR : Rely Tryd.prog (ctxOf []) := rely_nil mixed
  refine pure_of_aw b_laws_eqEdge ?_
  rintro xs r objs ⟨x, y, rfl, rfl, rfl⟩ -
  refine ⟨by simp, vc2_sound hR _ _ _ _ _ ?_⟩
  conv => whnf
  repeat' ((first | contradiction | (refine And.intro (fun hb => ?_) (fun hb => ?_) <;> first | contradiction | ((try simp only [SB, reduceCtorEq] at hb); try (exfalso; first | contradiction | omega))) | refine G2 ?_ | rw [ints_at (by omega)] | rw [ints_at0 (by omega)] | rw [ints_at' (by omega) (by omega)] | refine G1 ?_ | fail) <;> conv => whnf)
  all_goals
    refine ⟨.inl rfl, ?_⟩
    conv => whnf
    refine ⟨[], ⟨rfl, trivial⟩, ?_, rfl, rfl⟩
    conv => whnf
    left
    conv => lhs; whnf
    refine congrArg AV.bool ?_
    simp_all [edge_eq_iff]
theorem eq_of_getDD {α : Type} [Inhabited α] {a b : List α} (h : a.length = b.length) (hj : ∀ j, j < a.length → a.getD j default = b.getD j default) : a = b := by
  apply List.ext_getElem h
  intro i h1 h2
  have := hj i h1
  simpa [List.getD_eq_getElem?_getD, List.getElem?_eq_getElem h1, List.getElem?_eq_getElem h2] using this
def REqEdgeS (xs : List AV) (r : AV) (objs : List AObj) : Prop := ∃ a b, xs = [.val (edgeRows a), .val (edgeRows b)] ∧ r = .bool (decide (a = b)) ∧ objs = []
theorem REqEdgeS_mk {a b : List EdgeD} : REqEdgeS [.val (edgeRows a), .val (edgeRows b)] (.bool (decide (a = b))) [] := ⟨a, b, rfl, rfl, rfl⟩
theorem s_laws_eqEdgeS : PureSound Tryd.prog 26 REqEdgeS := by
  have hR : Rely Tryd.prog (ctxOf [(49, .pure REqEdge)]) := rely_cons b_laws_eqEdge.has s_laws_eqEdge (rely_nil mixed)
  refine pure_of_aw b_laws_eqEdgeS ?_
  rintro xs r objs ⟨a, b, rfl, rfl, rfl⟩ ⟨w, own, vs, hrel⟩
  have hl : (edgeRows a).length ≤ 9223372036854775807 := by
    obtain ⟨v, hv⟩ := rels_at hrel (i := 0) rfl
    exact rel_len hv
  rw [length_edgeRows] at hl
  clear hrel
  have ha := length_edgeRows a
  have hb' := length_edgeRows b
  refine ⟨by simp, vc2_sound hR _ _ _ _ _ ?_⟩
  conv => whnf
  repeat' ((first | contradiction | (refine And.intro (fun hb => ?_) (fun hb => ?_) <;> first | contradiction | ((try simp only [SB, reduceCtorEq] at hb); try (exfalso; first | contradiction | omega))) | refine G2 ?_ | rw [ints_at (by omega)] | rw [ints_at0 (by omega)] | rw [ints_at' (by omega) (by omega)] | refine G1 ?_ | fail) <;> conv => whnf)
  · refine ⟨.inl rfl, ?_⟩
    conv => whnf
    refine ⟨[], ⟨rfl, trivial⟩, ?_, rfl, rfl⟩
    conv => whnf
    left
    conv => lhs; whnf
    refine congrArg AV.bool (Eq.symm (decide_eq_false ?_))
    intro h; subst h; exact hb rfl
  · refine Lp.intro (α := Nat) (fun i => i ≤ a.length ∧ ∀ j, j < i → a.getD j default = b.getD j default) (fun i => a.length - i) (fun i => [(0, .val (edgeRows a)), (1, .val (edgeRows b)), (5, .int .i64 i)]) (fun _ => []) ?_ ?_
    · refine ⟨0, ⟨by omega, by omega⟩, [], rfl, rfl, trivial, ?_⟩
      repeat' (first
        | exact trivial
        | refine ⟨?_, ?_⟩
        | fail)
      all_goals first
        | with_reducible rfl
        | (conv => whnf
           try left
           conv => lhs; whnf
           first
             | rfl
             | exact congrArg (AV.int .i64) (by omega)
             | skip)
    · rintro i ⟨hi, hall⟩
      refine vc2_sound hR _ _ _ _ _ ?_
      by_cases hlt : i < a.length
      · conv => whnf
        repeat' ((first | contradiction | (refine And.intro (fun hb => ?_) (fun hb => ?_) <;> first | contradiction | ((try simp only [SB, reduceCtorEq] at hb); try (exfalso; first | contradiction | omega))) | refine G2 ?_ | rw [ints_at (by omega)] | rw [ints_at0 (by omega)] | rw [ints_at' (by omega) (by omega)] | refine G1 ?_ | fail) <;> conv => whnf)
        rw [show (edgeRows a)[((i : Nat) : Int).toNat]? = some (edgeRow (a.getD i default)) from map_at hlt]
        conv => whnf
        repeat' ((first | contradiction | (refine And.intro (fun hb => ?_) (fun hb => ?_) <;> first | contradiction | ((try simp only [SB, reduceCtorEq] at hb); try (exfalso; first | contradiction | omega))) | refine G2 ?_ | rw [ints_at (by omega)] | rw [ints_at0 (by omega)] | rw [ints_at' (by omega) (by omega)] | refine G1 ?_ | fail) <;> conv => whnf)
        rw [show (edgeRows b)[((i : Nat) : Int).toNat]? = some (edgeRow (b.getD i default)) from map_at (by omega)]
        conv => whnf
        repeat' ((first | contradiction | (refine And.intro (fun hb => ?_) (fun hb => ?_) <;> first | contradiction | ((try simp only [SB, reduceCtorEq] at hb); try (exfalso; first | contradiction | omega))) | refine G2 ?_ | rw [ints_at (by omega)] | rw [ints_at0 (by omega)] | rw [ints_at' (by omega) (by omega)] | refine G1 ?_ | refine ⟨_, _, REqEdge_mk (x := a.getD i default) (y := b.getD i default), ?_⟩ | fail) <;> conv => whnf)
        · refine ⟨i + 1, ⟨by omega, fun j hj => ?_⟩, by omega, [], rfl, rfl, trivial, ?_⟩
          · by_cases hji : j = i
            · subst hji; exact hb
            · exact hall j (by omega)
          · repeat' (first
              | exact trivial
              | refine ⟨?_, ?_⟩
              | fail)
            all_goals first
              | with_reducible rfl
              | (conv => whnf
                 try left
                 conv => lhs; whnf
                 first
                   | rfl
                   | exact congrArg (AV.int .i64) (by omega)
                   | skip)
        · refine ⟨.inl rfl, ?_⟩
          conv => whnf
          refine ⟨[], ⟨rfl, trivial⟩, ?_, rfl, rfl⟩
          conv => whnf
          left
          conv => lhs; whnf
          refine congrArg AV.bool (Eq.symm (decide_eq_false ?_))
          intro h; subst h; exact hb rfl
      · conv => whnf
        repeat' ((first | contradiction | (refine And.intro (fun hb => ?_) (fun hb => ?_) <;> first | contradiction | ((try simp only [SB, reduceCtorEq] at hb); try (exfalso; first | contradiction | omega))) | refine G2 ?_ | rw [ints_at (by omega)] | rw [ints_at0 (by omega)] | rw [ints_at' (by omega) (by omega)] | refine G1 ?_ | fail) <;> conv => whnf)
        refine ⟨.inl rfl, ?_⟩
        conv => whnf
        refine ⟨[], ⟨rfl, trivial⟩, ?_, rfl, rfl⟩
        conv => whnf
        left
        conv => lhs; whnf
        refine congrArg AV.bool (Eq.symm (decide_eq_true ?_))
        exact eq_of_getDD (by omega) (fun j hj => hall j (by omega))
def REqAuto (xs : List AV) (r : AV) (objs : List AObj) : Prop := ∃ x y, xs = [.agg (autoRow x), .agg (autoRow y)] ∧ r = .bool (decide (x = y)) ∧ objs = []
theorem auto_eq_iff {x y : AutoD} : x = y ↔ x.letters = y.letters ∧ x.states = y.states ∧ x.start = y.start ∧ x.edges = y.edges := by
  cases x; cases y; simp
theorem s_laws_eqAuto : PureSound Tryd.prog 8 REqAuto := by
  have hR : Rely Tryd.prog (ctxOf [(26, .pure REqEdgeS)]) := rely_cons b_laws_eqEdgeS.has s_laws_eqEdgeS (rely_nil mixed)
  refine pure_of_aw b_laws_eqAuto ?_
  rintro xs r objs ⟨x, y, rfl, rfl, rfl⟩ -
  refine ⟨by simp, vc2_sound hR _ _ _ _ _ ?_⟩
  conv => whnf
  repeat' ((first | contradiction | (refine And.intro (fun hb => ?_) (fun hb => ?_) <;> first | contradiction | ((try simp only [SB, reduceCtorEq] at hb); try (exfalso; first | contradiction | omega))) | refine G2 ?_ | rw [ints_at (by omega)] | rw [ints_at0 (by omega)] | rw [ints_at' (by omega) (by omega)] | refine G1 ?_ | refine ⟨_, _, REqEdgeS_mk (a := x.edges) (b := y.edges), ?_⟩ | fail) <;> conv => whnf)
  all_goals
    refine ⟨.inl rfl, ?_⟩
    conv => whnf
    refine ⟨[], ⟨rfl, trivial⟩, ?_, rfl, rfl⟩
    conv => whnf
    left
    conv => lhs; whnf
    refine congrArg AV.bool ?_
    simp_all [auto_eq_iff]
theorem two_pow_pos (n : Nat) : (1 : Int) ≤ 2 ^ n := by
  have : 0 < 2 ^ n := Nat.two_pow_pos n
  have h : ((2 ^ n : Nat) : Int) = (2 : Int) ^ n := by simp
  rw [← h]; omega
theorem two_pow_mono {m n : Nat} (h : m ≤ n) : (2 : Int) ^ m ≤ 2 ^ n := by
  have := Nat.pow_le_pow_right (n := 2) (by omega) h
  have h1 : ((2 ^ n : Nat) : Int) = (2 : Int) ^ n := by simp
  have h2 : ((2 ^ m : Nat) : Int) = (2 : Int) ^ m := by simp
  rw [← h1, ← h2]; omega
theorem two_pow_62 {n : Nat} (h : n ≤ 62) : (2 : Int) ^ n ≤ 4611686018427387904 := two_pow_mono h
theorem two_pow_31 {n : Nat} (h : n ≤ 31) : (2 : Int) ^ n ≤ 2147483648 := two_pow_mono h
theorem shl_one {s : Int} (h0 : 0 ≤ s) (h1 : s ≤ 62) : IntKind.i64.wrap (1 * 2 ^ (Nat.min s.toNat IntKind.i64.bits)) = 2 ^ s.toNat := by
  have hb : IntKind.i64.bits = 64 := rfl
  have hm : Nat.min s.toNat IntKind.i64.bits = s.toNat := by rw [hb]; exact Nat.min_eq_left (by omega)
  rw [hm]
  have h2 := two_pow_62 (n := s.toNat) (by omega)
  have h3 := two_pow_pos s.toNat
  rw [Int.one_mul]
  exact IntWalk.i64_in _ (by omega)
theorem toNat_ofInt64 {t : Int} (h0 : 0 ≤ t) (h1 : t < 18446744073709551616) : (BitVec.ofInt 64 t).toNat = t.toNat := by
  rw [BitVec.toNat_ofInt]
  congr 1
  exact Int.emod_eq_of_lt h0 (by simpa using h1)
theorem and_val {a b : Int} (ha : 0 ≤ a) (ha' : a ≤ 4611686018427387904) (hb : 0 ≤ b) (hb' : b ≤ 4611686018427387904) :
    IntKind.i64.wrap (BitVec.ofInt IntKind.i64.bits a &&& BitVec.ofInt IntKind.i64.bits b).toNat = ((a.toNat &&& b.toNat : Nat) : Int) := by
  have hbits : IntKind.i64.bits = 64 := rfl
  rw [hbits, BitVec.toNat_and, toNat_ofInt64 ha (by omega), toNat_ofInt64 hb (by omega)]
  have : a.toNat &&& b.toNat ≤ a.toNat := Nat.and_le_left
  exact IntWalk.i64_in _ (by omega)
theorem and_mask {t s : Int} (h0 : 0 ≤ t) (h1 : t ≤ 2147483647) (hs : 0 ≤ s) (hs' : s ≤ 31) :
    IntKind.i64.wrap (BitVec.ofInt IntKind.i64.bits t &&& BitVec.ofInt IntKind.i64.bits (2 ^ s.toNat - 1)).toNat = t % 2 ^ s.toNat := by
  have h2 := two_pow_31 (n := s.toNat) (by omega)
  have h3 := two_pow_pos s.toNat
  rw [and_val h0 (by omega) (by omega) (by omega)]
  have e : ((2 : Int) ^ s.toNat - 1).toNat = 2 ^ s.toNat - 1 := by
    have h : ((2 ^ s.toNat : Nat) : Int) = (2 : Int) ^ s.toNat := by simp
    omega
  rw [e, Nat.and_two_pow_sub_one_eq_mod]
  rw [Int.natCast_emod]
  simp
  rw [Int.max_eq_left h0]
theorem mask_same {t s : Int} (h0 : 0 ≤ t) : t % 2 ^ s.toNat = t ↔ t < 2 ^ s.toNat := by
  have h3 := two_pow_pos s.toNat
  constructor
  · intro h
    have := Int.emod_lt_of_pos t (b := 2 ^ s.toNat) (by omega)
    omega
  · intro h
    exact Int.emod_eq_of_lt h0 h
def edgeLess (x y : EdgeD) : Bool := if x.src ≠ y.src then decide (x.src < y.src) else if x.letter ≠ y.letter then decide (x.letter < y.letter) else decide (x.dst < y.dst)
def HeadOk (l s t : Int) : Prop := (1 ≤ l ∧ l ≤ 8) ∧ (0 ≤ s ∧ s ≤ 31) ∧ (0 ≤ t ∧ t ≤ 2147483647 ∧ t < 2 ^ s.toNat)
instance (l s t : Int) : Decidable (HeadOk l s t) := by unfold HeadOk; infer_instance
def EdgeIn (a : AutoD) (e : EdgeD) : Prop := (0 ≤ e.src ∧ e.src ≤ a.states - 1) ∧ (0 ≤ e.dst ∧ e.dst ≤ a.states - 1) ∧ (0 ≤ e.letter ∧ e.letter ≤ a.letters - 1)
instance (a : AutoD) (e : EdgeD) : Decidable (EdgeIn a e) := by unfold EdgeIn; infer_instance
def EdgeAt (a : AutoD) (i : Nat) : Prop := EdgeIn a (a.edges.getD i default) ∧ (0 < i → edgeLess (a.edges.getD (i - 1) default) (a.edges.getD i default) = true)
instance (a : AutoD) (i : Nat) : Decidable (EdgeAt a i) := by unfold EdgeAt; infer_instance
def AutoOk (a : AutoD) : Prop := HeadOk a.letters a.states a.start ∧ a.edges.length ≤ 2000 ∧ ∀ i, i < a.edges.length → EdgeAt a i
instance (a : AutoD) : Decidable (AutoOk a) := by unfold AutoOk; infer_instance
def NamedAt (l : List NamedD) (i : Nat) : Prop := (97 ≤ (l.getD i default).name ∧ (l.getD i default).name ≤ 122) ∧ AutoOk (l.getD i default).auto ∧ (0 < i → (l.getD (i - 1) default).name < (l.getD i default).name)
instance (l : List NamedD) (i : Nat) : Decidable (NamedAt l i) := by unfold NamedAt; infer_instance
def ShelfOk (l : List NamedD) : Prop := l.length ≤ 8 ∧ ∀ i, i < l.length → NamedAt l i
instance (l : List NamedD) : Decidable (ShelfOk l) := by unfold ShelfOk; infer_instance
def c_spec_l4Less : ICode := (.seq (.reg [O1 2 (.box 4) 0, O1 3 (.box 4) 1, Ol 4 .mv [cb false]]) (.seq (.seq (.reg [O1 5 (.fadr 0) 2, O1 6 .ld1 5, O1 7 (.fadr 0) 3, O1 8 .ld1 7, O2 9 (.bin .neq) 6 8]) (.cond (.t 9) (.seq (.reg [O1 10 (.fadr 0) 2, O1 11 .ld1 10, O1 12 (.fadr 0) 3, O1 13 .ld1 12, O2 14 (.bin .lss) 11 13, O1 4 .mv 14]) .ret) .skip)) (.seq (.seq (.reg [O1 15 (.fadr 1) 2, O1 16 .ld1 15, O1 17 (.fadr 1) 3, O1 18 .ld1 17, O2 19 (.bin .neq) 16 18]) (.cond (.t 19) (.seq (.reg [O1 20 (.fadr 1) 2, O1 21 .ld1 20, O1 22 (.fadr 1) 3, O1 23 .ld1 22, O2 24 (.bin .lss) 21 23, O1 4 .mv 24]) .ret) .skip)) (.seq (.reg [O1 25 (.fadr 2) 2, O1 26 .ld1 25, O1 27 (.fadr 2) 3, O1 28 .ld1 27, O2 29 (.bin .lss) 26 28, O1 4 .mv 29]) .ret))))
theorem b_spec_l4Less : Body Tryd.prog 30 30 c_spec_l4Less [(.t 4)] := body_mk Tryd.func30 (by kernel_rfl) (by decide)
def c_spec_l4State : ICode := (.seq (.reg [Ol 4 .mv [cb false]]) (.seq (.reg [O1 5 .mv 0, O1 6 .mv 1, Ol 7 (.bin .sub) [.t 6, ci 1], Ol 8 (.call 27) [.t 5, ci 0, .t 7], O1 4 .mv 8]) .ret))
theorem b_spec_l4State : Body Tryd.prog 29 9 c_spec_l4State [(.t 4)] := body_mk Tryd.func29 (by kernel_rfl) (by decide)
def c_spec_SetOk : ICode := (.seq (.reg [Ol 2 .mv [cb false]]) (.seq (.reg [O1 3 .mv 0, Ol 4 (.call 27) [.t 3, ci 0, ci 2147483647], O1 2 .mv 4]) .ret))
theorem b_spec_SetOk : Body Tryd.prog 32 5 c_spec_SetOk [(.t 2)] := body_mk Tryd.func32 (by kernel_rfl) (by decide)
def c_spec_SetIn : ICode := (.seq (.reg [Ol 4 .mv [cb false]]) (.seq (.reg [O1 5 .mv 0, O1 6 (.call 32) 5, O1 7 .mv 6, Og 8 .mv [.t 1] 7 true, Og 9 (.call 32) [.t 8] 7 true, Ol 10 .pick [.t 7, .t 9, cb false], O1 11 .mv 10, Og 12 .mv [.t 0] 11 true, Og 13 .mv [.t 1] 11 true, Og 14 (.bin .and) [.t 12, .t 13] 11 true, Og 15 .mv [.t 0] 11 true, Og 16 (.bin .eql) [.t 14, .t 15] 11 true, Ol 17 .pick [.t 11, .t 16, cb false], O1 4 .mv 17]) .ret))
theorem b_spec_SetIn : Body Tryd.prog 28 18 c_spec_SetIn [(.t 4)] := body_mk Tryd.func28 (by kernel_rfl) (by decide)
def c_spec_AutoOk : ICode := (.seq (.reg [O1 1 (.box 4) 0, Ol 2 .mv [cb false]]) (.seq (.seq (.drw [O1 5 (.fadr 0) 1, O1 6 .ld1 5, Ol 7 (.call 27) [.t 6, ci 1, ci 8], O1 8 .not 7, O1 9 .mv 8, Og 10 (.fadr 1) [.t 1] 9 false, Og 11 .ld1 [.t 10] 9 false, Og 12 (.call 27) [.t 11, ci 0, ci 31] 9 false, Og 13 .not [.t 12] 9 false, Ol 14 .pick [.t 9, cb true, .t 13], O1 15 .mv 14, Og 16 (.fadr 2) [.t 1] 15 false, Og 17 .ld1 [.t 16] 15 false, Og 18 (.fadr 1) [.t 1] 15 false, Og 19 .ld1 [.t 18] 15 false, Og 20 (.bin .shl) [ci 1, .t 19] 15 false, Og 21 (.bin .sub) [.t 20, ci 1] 15 false, Og 22 (.call 28) [.t 17, .t 21] 15 false, Og 23 .not [.t 22] 15 false, Ol 24 .pick [.t 15, cb true, .t 23], O1 25 .mv 24, Og 26 (.fadr 3) [.t 1] 25 false, Og 27 .ld1 [.t 26] 25 false, Og 28 .len [.t 27] 25 false, Og 29 (.bin .gtr) [.t 28, ci 2000] 25 false, Ol 30 .pick [.t 25, cb true, .t 29]] (unB [0, 1, 3, 7, 15, 31, 63, 127, 255, 511, 1023, 2047, 4095, 2047, 10239, 26623, 59391, 131071, 262143, 524287, 1048575, 2097151, 4194303, 8388607, 16777215, 33554431] 0) true true) (.cond (.t 30) (.seq (.reg [Ol 2 .mv [cb false]]) .ret) .skip)) (.seq (.seq (.reg [Ol 3 .mv [ci 0]]) (.block 0 (.loop (.seq (.seq (.reg [O1 31 .mv 3, O1 32 (.fadr 3) 1, O1 33 .ld1 32, O1 34 .len 33, O2 35 (.bin .lss) 31 34]) (.cond (.t 35) .skip (.exit 0))) (.seq (.block 1 (.seq (.reg [O1 38 (.fadr 3) 1, O1 39 .ld1 38, O1 40 .mv 3, O2 41 (.iadr 4) 39 40, O1 42 (.ldn 4) 41, O0 4 (.alc [(.int .i64 0), (.int .i64 0), (.int .i64 0), (.bool false)]), S2 (.st 4) 4 42]) (.seq (.drw [O1 43 (.fadr 0) 4, O1 44 .ld1 43, O1 45 (.fadr 1) 1, O1 46 .ld1 45, O2 47 (.call 29) 44 46, O1 48 .not 47, O1 49 .mv 48, Og 50 (.fadr 2) [.t 4] 49 false, Og 51 .ld1 [.t 50] 49 false, Og 52 (.fadr 1) [.t 1] 49 false, Og 53 .ld1 [.t 52] 49 false, Og 54 (.call 29) [.t 51, .t 53] 49 false, Og 55 .not [.t 54] 49 false, Ol 56 .pick [.t 49, cb true, .t 55], O1 57 .mv 56, Og 58 (.fadr 1) [.t 4] 57 false, Og 59 .ld1 [.t 58] 57 false, Og 60 (.fadr 0) [.t 1] 57 false, Og 61 .ld1 [.t 60] 57 false, Og 62 (.bin .sub) [.t 61, ci 1] 57 false, Og 63 (.call 27) [.t 59, ci 0, .t 62] 57 false, Og 64 .not [.t 63] 57 false, Ol 65 .pick [.t 57, cb true, .t 64], O1 66 .mv 65, Og 67 .mv [.t 3] 66 false, Og 68 (.bin .gtr) [.t 67, ci 0] 66 false, Og 69 .mv [.t 68] 66 false, Og 70 (.fadr 3) [.t 1] 69 true, Og 71 .ld1 [.t 70] 69 true, Og 72 .mv [.t 3] 69 true, Og 73 (.bin .sub) [.t 72, ci 1] 69 true, Og 74 (.iadr 4) [.t 71, .t 73] 69 true, Og 75 (.ldn 4) [.t 74] 69 true, Og 76 (.ldn 4) [.t 4] 69 true, Og 77 (.call 30) [.t 75, .t 76] 69 true, Og 78 .not [.t 77] 69 true, Og 79 .pick [.t 69, .t 78, cb false] 66 false, Ol 80 .pick [.t 66, cb true, .t 79]] (unB [0, 1, 0, 4, 15, 31, 63, 127, 255, 127, 639, 2047, 4095, 8191, 16383, 32767, 65535, 32767, 163839, 425983, 1048575, 2097151, 4194303, 8388607, 16777215, 33554431, 67108863, 134217727, 268435455, 134217727, 671088639, 2147483647, 4294967295, 134217727, 17179869183, 34359738367, 68719476735, 137438953471] 0) true true) (.cond (.t 80) (.seq (.reg [Ol 2 .mv [cb false]]) .ret) .skip)))) (.reg [O1 36 .mv 3, Ol 37 (.bin .add) [.t 36, ci 1], O1 3 .mv 37])))))) (.seq (.reg [Ol 2 .mv [cb true]]) .ret))))
theorem b_spec_AutoOk : Body Tryd.prog 11 81 c_spec_AutoOk [(.t 2)] := body_mk Tryd.func11 (by kernel_rfl) (by decide)
def RLess (xs : List AV) (r : AV) (objs : List AObj) : Prop := ∃ x y, xs = [.agg (edgeRow x), .agg (edgeRow y)] ∧ r = .bool (edgeLess x y) ∧ objs = []
theorem RLess_mk {x y : EdgeD} : RLess [.agg (edgeRow x), .agg (edgeRow y)] (.bool (edgeLess x y)) [] := ⟨x, y, rfl, rfl, rfl⟩
theorem s_spec_l4Less : PureSound Tryd.prog 30 RLess := by
  have hR : Rely Tryd.prog (ctxOf []) := rely_nil mixed
  refine pure_of_aw b_spec_l4Less ?_
  rintro xs r objs ⟨x, y, rfl, rfl, rfl⟩ -
  refine ⟨by simp, vc2_sound hR _ _ _ _ _ ?_⟩
  conv => whnf
  repeat' ((first | contradiction | (refine And.intro (fun hb => ?_) (fun hb => ?_) <;> first | contradiction | ((try simp only [SB, reduceCtorEq] at hb); try (exfalso; first | contradiction | omega))) | refine G2 ?_ | rw [ints_at (by omega)] | rw [ints_at0 (by omega)] | rw [ints_at' (by omega) (by omega)] | refine G1 ?_ | fail) <;> conv => whnf)
  all_goals
    refine ⟨.inl rfl, ?_⟩
    conv => whnf
    refine ⟨[], ⟨rfl, trivial⟩, ?_, rfl, rfl⟩
    conv => whnf
    left
    conv => lhs; whnf
    refine congrArg AV.bool ?_
    simp_all [edgeLess]
def RState (xs : List AV) (r : AV) (objs : List AObj) : Prop := ∃ x s, xs = [.int .i64 x, .int .i64 s] ∧ 0 ≤ s ∧ s ≤ 31 ∧ r = .bool (decide (0 ≤ x ∧ x ≤ s - 1)) ∧ objs = []
theorem RState_mk {x s : Int} (h1 : 0 ≤ s) (h2 : s ≤ 31) : RState [.int .i64 x, .int .i64 s] (.bool (decide (0 ≤ x ∧ x ≤ s - 1))) [] := ⟨x, s, rfl, h1, h2, rfl, rfl⟩
theorem s_spec_l4State : PureSound Tryd.prog 29 RState := by
  have hR : Rely Tryd.prog (ctxOf [(27, .pure RIn)]) := rely_cons b_spec_l1In.has s_spec_l1In (rely_nil mixed)
  refine pure_of_aw b_spec_l4State ?_
  rintro xs r objs ⟨x, s, rfl, h1, h2, rfl, rfl⟩ -
  refine ⟨by simp, vc2_sound hR _ _ _ _ _ ?_⟩
  conv => whnf
  repeat' ((first | contradiction | (refine And.intro (fun hb => ?_) (fun hb => ?_) <;> first | contradiction | ((try simp only [SB, reduceCtorEq] at hb); try (exfalso; first | contradiction | omega))) | refine G2 ?_ | rw [ints_at (by omega)] | rw [ints_at0 (by omega)] | rw [ints_at' (by omega) (by omega)] | refine G1 ?_ | refine ⟨_, _, RIn_mk, ?_⟩ | fail) <;> conv => whnf)
  all_goals
    refine ⟨.inl rfl, ?_⟩
    conv => whnf
    refine ⟨[], ⟨rfl, trivial⟩, ?_, rfl, rfl⟩
    conv => whnf
    left
    conv => lhs; whnf
    try exact congrArg AV.bool (by simp_all)
def RSetOk (xs : List AV) (r : AV) (objs : List AObj) : Prop := ∃ s, xs = [.int .i64 s] ∧ r = .bool (decide (0 ≤ s ∧ s ≤ 2147483647)) ∧ objs = []
theorem RSetOk_mk {s : Int} : RSetOk [.int .i64 s] (.bool (decide (0 ≤ s ∧ s ≤ 2147483647))) [] := ⟨s, rfl, rfl, rfl⟩
theorem s_spec_SetOk : PureSound Tryd.prog 32 RSetOk := by
  have hR : Rely Tryd.prog (ctxOf [(27, .pure RIn)]) := rely_cons b_spec_l1In.has s_spec_l1In (rely_nil mixed)
  refine pure_of_aw b_spec_SetOk ?_
  rintro xs r objs ⟨s, rfl, rfl, rfl⟩ -
  refine ⟨by simp, vc2_sound hR _ _ _ _ _ ?_⟩
  conv => whnf
  repeat' ((first | contradiction | (refine And.intro (fun hb => ?_) (fun hb => ?_) <;> first | contradiction | ((try simp only [SB, reduceCtorEq] at hb); try (exfalso; first | contradiction | omega))) | refine G2 ?_ | rw [ints_at (by omega)] | rw [ints_at0 (by omega)] | rw [ints_at' (by omega) (by omega)] | refine G1 ?_ | refine ⟨_, _, RIn_mk, ?_⟩ | fail) <;> conv => whnf)
  all_goals
    refine ⟨.inl rfl, ?_⟩
    conv => whnf
    refine ⟨[], ⟨rfl, trivial⟩, ?_, rfl, rfl⟩
    conv => whnf
    left
    conv => lhs; whnf
    try exact congrArg AV.bool (by simp_all)
def RSetIn (xs : List AV) (r : AV) (objs : List AObj) : Prop := ∃ t s, xs = [.int .i64 t, .int .i64 (2 ^ Int.toNat s - 1)] ∧ 0 ≤ s ∧ s ≤ 31 ∧ r = .bool (decide (0 ≤ t ∧ t ≤ 2147483647 ∧ t < 2 ^ s.toNat)) ∧ objs = []
theorem RSetIn_mk {t s : Int} (h1 : 0 ≤ s) (h2 : s ≤ 31) : RSetIn [.int .i64 t, .int .i64 (2 ^ s.toNat - 1)] (.bool (decide (0 ≤ t ∧ t ≤ 2147483647 ∧ t < 2 ^ s.toNat))) [] := ⟨t, s, rfl, h1, h2, rfl, rfl⟩
theorem setIn_val {t s : Int} (h0 : 0 ≤ t) (h1 : t ≤ 2147483647) (hs : 0 ≤ s) (hs' : s ≤ 31) :
    (IntKind.i64.wrap (BitVec.ofInt IntKind.i64.bits t &&& BitVec.ofInt IntKind.i64.bits (2 ^ s.toNat - 1)).toNat = t) ↔ t < 2 ^ s.toNat := by
  rw [and_mask h0 h1 hs hs', mask_same h0]
theorem s_spec_SetIn : PureSound Tryd.prog 28 RSetIn := by
  have hR : Rely Tryd.prog (ctxOf [(32, .pure RSetOk)]) := rely_cons b_spec_SetOk.has s_spec_SetOk (rely_nil mixed)
  refine pure_of_aw b_spec_SetIn ?_
  rintro xs r objs ⟨t, s, rfl, h1, h2, rfl, rfl⟩ -
  have p1 := two_pow_31 (n := s.toNat) (by omega)
  have p2 := two_pow_pos s.toNat
  refine ⟨by simp, vc2_sound hR _ _ _ _ _ ?_⟩
  conv => whnf
  repeat' ((first | contradiction | (refine And.intro (fun hb => ?_) (fun hb => ?_) <;> first | contradiction | ((try simp only [SB, reduceCtorEq] at hb); try (exfalso; first | contradiction | omega))) | refine G2 ?_ | rw [ints_at (by omega)] | rw [ints_at0 (by omega)] | rw [ints_at' (by omega) (by omega)] | refine G1 ?_ | refine ⟨_, _, RSetOk_mk, ?_⟩ | fail) <;> conv => whnf)
  all_goals
    refine ⟨.inl rfl, ?_⟩
    conv => whnf
    refine ⟨[], ⟨rfl, trivial⟩, ?_, rfl, rfl⟩
    conv => whnf
    left
    conv => lhs; whnf
    refine congrArg AV.bool ?_
    first
    | exact (decide_eq_false (by omega)).symm
    | (have hv := setIn_val (t := t) (by omega) (by omega) h1 h2
       rw [eq_comm]
       first
       | (rw [decide_eq_true_iff]
          have := hv.1 (by assumption)
          omega)
       | (rw [decide_eq_false_iff_not]
          intro h
          exact absurd (hv.2 h.2.2) (by assumption)))
theorem row_at {α : Type} [Inhabited α] {f : α → List AV} {l : List α} {i : Nat} (h : i < l.length) : (l.map f)[((i : Nat) : Int).toNat]? = some (f (l.getD i default)) := map_at h
theorem row_prev {α : Type} [Inhabited α] {f : α → List AV} {l : List α} {i : Nat} (h : i ≤ l.length) (h0 : 0 < i) : (l.map f)[(((i : Nat) : Int) - 1).toNat]? = some (f (l.getD (i - 1) default)) := by
  have e : (((i : Nat) : Int) - 1).toNat = (((i - 1 : Nat) : Nat) : Int).toNat := by omega
  rw [e]; exact map_at (by omega)
theorem edge_at {l : List EdgeD} {i : Nat} (h : i < l.length) : (edgeRows l)[((i : Nat) : Int).toNat]? = some (edgeRow (l.getD i default)) := row_at h
theorem edge_prev {l : List EdgeD} {i : Nat} (h : i ≤ l.length) (h0 : 0 < i) : (edgeRows l)[(((i : Nat) : Int) - 1).toNat]? = some (edgeRow (l.getD (i - 1) default)) := row_prev h h0
theorem mask_in {s : Int} (h0 : 0 ≤ s) (h1 : s ≤ 31) : IntKind.i64.wrap (IntKind.i64.wrap (1 * 2 ^ (Nat.min s.toNat IntKind.i64.bits)) - 1) = 2 ^ s.toNat - 1 := by
  rw [shl_one h0 (by omega)]
  have p1 := two_pow_31 (n := s.toNat) (by omega)
  have p2 := two_pow_pos s.toNat
  exact IntWalk.i64_in _ (by omega)
def RAutoOk (xs : List AV) (r : AV) (objs : List AObj) : Prop := ∃ a, xs = [.agg (autoRow a)] ∧ r = .bool (decide (AutoOk a)) ∧ objs = []
theorem RAutoOk_mk {a : AutoD} : RAutoOk [.agg (autoRow a)] (.bool (decide (AutoOk a))) [] := ⟨a, rfl, rfl, rfl⟩
theorem s_spec_AutoOk : PureSound Tryd.prog 11 RAutoOk := by
  have hR : Rely Tryd.prog (ctxOf [(27, .pure RIn), (28, .pure RSetIn), (29, .pure RState), (30, .pure RLess)]) :=
    rely_cons b_spec_l1In.has s_spec_l1In (rely_cons b_spec_SetIn.has s_spec_SetIn (rely_cons b_spec_l4State.has s_spec_l4State (rely_cons b_spec_l4Less.has s_spec_l4Less (rely_nil mixed))))
  refine pure_of_aw b_spec_AutoOk ?_
  rintro xs r objs ⟨a, rfl, rfl, rfl⟩ ⟨w, own, vs, hrel⟩
  have hle := length_edgeRows a.edges
  clear hrel
  refine ⟨by simp, vc2_sound hR _ _ _ _ _ ?_⟩
  conv => whnf
  repeat' ((first | contradiction | (refine And.intro (fun hb => ?_) (fun hb => ?_) <;> first | contradiction | ((try simp only [SB, reduceCtorEq] at hb); try (exfalso; first | contradiction | omega))) | refine G2 ?_ | rw [ints_at (by omega)] | rw [ints_at0 (by omega)] | rw [ints_at' (by omega) (by omega)] | refine G1 ?_ | refine ⟨_, _, RIn_mk, ?_⟩ | refine ⟨_, mask_in (by omega) (by omega), ?_⟩ | refine ⟨_, _, RSetIn_mk (by omega) (by omega), ?_⟩ | fail) <;> conv => whnf)
  rotate_left
  · refine Lp.intro (α := Nat) (fun i => i ≤ a.edges.length ∧ ∀ j, j < i → EdgeAt a j) (fun i => a.edges.length - i) (fun i => [(1, .ptr 0 0 0), (3, .int .i64 i)]) (fun _ => [some (.box (autoRow a))]) ?_ ?_
    · refine ⟨0, ⟨by omega, by omega⟩, [some 0], rfl, rfl, And.intro (And.intro (.inl rfl) (And.intro (.inl rfl) (And.intro (.inl rfl) (And.intro (.inl rfl) trivial)))) trivial, ?_⟩
      repeat' (first
        | exact trivial
        | refine ⟨?_, ?_⟩
        | fail)
      all_goals first
        | with_reducible rfl
        | (conv => whnf
           try left
           conv => lhs; whnf
           first
             | rfl
             | exact congrArg (AV.int .i64) (by omega)
             | skip)
    · rintro i ⟨hi, hall⟩
      refine vc2_sound hR _ _ _ _ _ ?_
      conv => whnf
      repeat' ((first | contradiction | (refine And.intro (fun hb => ?_) (fun hb => ?_) <;> first | contradiction | ((try simp only [SB, reduceCtorEq] at hb); try (exfalso; first | contradiction | omega))) | refine G2 ?_ | rw [ints_at (by omega)] | rw [ints_at0 (by omega)] | rw [ints_at' (by omega) (by omega)] | refine G1 ?_ | rw [edge_at (by omega)] | rw [edge_prev (by omega) (by omega)] | refine ⟨_, _, RState_mk (by omega) (by omega), ?_⟩ | refine ⟨_, _, RIn_mk, ?_⟩ | refine ⟨_, _, RLess_mk (x := a.edges.getD (i - 1) default) (y := a.edges.getD i default), ?_⟩ | fail) <;> conv => whnf)
      · refine ⟨i + 1, ⟨by omega, fun j hj => ?_⟩, by omega, [some 0], rfl, rfl, ?_, ?_⟩
        · by_cases hji : j = i
          · subst hji; exact ⟨⟨by assumption, by assumption, by assumption⟩, fun _ => by assumption⟩
          · exact hall j (by omega)
        · repeat' (first | exact trivial | exact rfl | exact Or.inl rfl | refine And.intro ?_ ?_)
        · repeat' (first
            | exact trivial
            | refine ⟨?_, ?_⟩
            | fail)
          all_goals first
            | with_reducible rfl
            | (conv => whnf
               try left
               conv => lhs; whnf
               first
                 | rfl
                 | exact congrArg (AV.int .i64) (by omega)
                 | skip)
      · refine ⟨.inl rfl, ?_⟩
        conv => whnf
        refine ⟨[], ⟨rfl, trivial⟩, ?_, rfl, rfl⟩
        conv => whnf
        left
        conv => lhs; whnf
        refine congrArg AV.bool (decide_eq_false ?_).symm
        rintro ⟨_, _, g5⟩
        have := (g5 i (by omega)).2 (by omega)
        simp_all
      · refine ⟨i + 1, ⟨by omega, fun j hj => ?_⟩, by omega, [some 0], rfl, rfl, ?_, ?_⟩
        · by_cases hji : j = i
          · subst hji; exact ⟨⟨by assumption, by assumption, by assumption⟩, fun _ => by omega⟩
          · exact hall j (by omega)
        · repeat' (first | exact trivial | exact rfl | exact Or.inl rfl | refine And.intro ?_ ?_)
        · repeat' (first
            | exact trivial
            | refine ⟨?_, ?_⟩
            | fail)
          all_goals first
            | with_reducible rfl
            | (conv => whnf
               try left
               conv => lhs; whnf
               first
                 | rfl
                 | exact congrArg (AV.int .i64) (by omega)
                 | skip)
      · refine ⟨.inl rfl, ?_⟩
        conv => whnf
        refine ⟨[], ⟨rfl, trivial⟩, ?_, rfl, rfl⟩
        conv => whnf
        left
        conv => lhs; whnf
        refine congrArg AV.bool (decide_eq_false ?_).symm
        rintro ⟨_, _, g5⟩
        obtain ⟨⟨k1, k2, k3⟩, _⟩ := g5 i (by omega)
        contradiction
      · refine ⟨.inl rfl, ?_⟩
        conv => whnf
        refine ⟨[], ⟨rfl, trivial⟩, ?_, rfl, rfl⟩
        conv => whnf
        left
        conv => lhs; whnf
        refine congrArg AV.bool (decide_eq_false ?_).symm
        rintro ⟨_, _, g5⟩
        obtain ⟨⟨k1, k2, k3⟩, _⟩ := g5 i (by omega)
        contradiction
      · refine ⟨.inl rfl, ?_⟩
        conv => whnf
        refine ⟨[], ⟨rfl, trivial⟩, ?_, rfl, rfl⟩
        conv => whnf
        left
        conv => lhs; whnf
        refine congrArg AV.bool (decide_eq_false ?_).symm
        rintro ⟨_, _, g5⟩
        obtain ⟨⟨k1, k2, k3⟩, _⟩ := g5 i (by omega)
        contradiction
      · refine ⟨.inl rfl, ?_⟩
        conv => whnf
        refine ⟨[], ⟨rfl, trivial⟩, ?_, rfl, rfl⟩
        conv => whnf
        left
        conv => lhs; whnf
        refine congrArg AV.bool (decide_eq_true ?_).symm
        exact ⟨⟨by assumption, by assumption, by assumption⟩, by omega, fun j hj => hall j (by omega)⟩
  all_goals
    refine ⟨.inl rfl, ?_⟩
    conv => whnf
    refine ⟨[], ⟨rfl, trivial⟩, ?_, rfl, rfl⟩
    conv => whnf
    left
    conv => lhs; whnf
    refine congrArg AV.bool (decide_eq_false ?_).symm
    rintro ⟨⟨g1, g2, g3⟩, g4, g5⟩
    omega
def c_impl_SetOk : ICode := (.seq (.reg [Ol 2 .mv [cb false]]) (.seq (.reg [O1 3 .mv 0, Ol 4 (.call 39) [.t 3, ci 0, ci 2147483647], O1 2 .mv 4]) .ret))
theorem b_impl_SetOk : Body Tryd.prog 42 5 c_impl_SetOk [(.t 2)] := body_mk Tryd.func42 (by kernel_rfl) (by decide)
def c_impl_only : ICode := (.seq (.reg [Ol 2 .mv [ci 0]]) (.seq (.reg [O1 3 .mv 0, O1 4 (.cvt .u64) 3, Ol 5 (.bin .shl) [ci 1, .t 4], O1 2 .mv 5]) .ret))
theorem b_impl_only : Body Tryd.prog 37 6 c_impl_only [(.t 2)] := body_mk Tryd.func37 (by kernel_rfl) (by decide)
def c_impl_headOk : ICode := (.seq (.reg [Ol 6 .mv [cb false]]) (.seq (.reg [O1 7 .mv 0, O1 8 (.call 53) 7, O1 9 .mv 8, Og 10 .mv [.t 1] 9 true, Og 11 (.call 39) [.t 10, ci 0, ci 31] 9 true, Ol 12 .pick [.t 9, .t 11, cb false], O1 13 .mv 12, Og 14 .mv [.t 2] 13 true, Og 15 (.call 42) [.t 14] 13 true, Ol 16 .pick [.t 13, .t 15, cb false], O1 17 .mv 16, Og 18 .mv [.t 2] 17 true, Og 19 .mv [.t 1] 17 true, Og 20 (.call 37) [.t 19] 17 true, Og 21 (.bin .lss) [.t 18, .t 20] 17 true, Ol 22 .pick [.t 17, .t 21, cb false], O1 6 .mv 22]) .ret))
theorem b_impl_headOk : Body Tryd.prog 38 23 c_impl_headOk [(.t 6)] := body_mk Tryd.func38 (by kernel_rfl) (by decide)
def c_cmp_isNaN_int : ICode := (.seq (.reg [Ol 2 .mv [cb false]]) (.seq (.reg [O1 3 .mv 0, O1 4 .mv 0, O2 5 (.bin .neq) 3 4, O1 2 .mv 5]) .ret))
theorem b_cmp_isNaN_int : Body Tryd.prog 65 6 c_cmp_isNaN_int [(.t 2)] := body_mk Tryd.func65 (by kernel_rfl) (by decide)
def c_cmp_Compare_int : ICode := (.seq (.reg [Ol 4 .mv [ci 0]]) (.seq (.reg [O1 7 .mv 0, O1 8 (.call 65) 7, O1 5 .mv 8]) (.seq (.reg [O1 9 .mv 1, O1 10 (.call 65) 9, O1 6 .mv 10]) (.seq (.seq (.reg [O1 11 .mv 5]) (.cond (.t 11) (.seq (.seq (.reg [O1 12 .mv 6]) (.cond (.t 12) (.seq (.reg [Ol 4 .mv [ci 0]]) .ret) .skip)) (.seq (.reg [Ol 4 .mv [ci (-1)]]) .ret)) .skip)) (.seq (.seq (.reg [O1 13 .mv 6]) (.cond (.t 13) (.seq (.reg [Ol 4 .mv [ci 1]]) .ret) .skip)) (.seq (.seq (.reg [O1 14 .mv 0, O1 15 .mv 1, O2 16 (.bin .lss) 14 15]) (.cond (.t 16) (.seq (.reg [Ol 4 .mv [ci (-1)]]) .ret) .skip)) (.seq (.seq (.reg [O1 17 .mv 0, O1 18 .mv 1, O2 19 (.bin .gtr) 17 18]) (.cond (.t 19) (.seq (.reg [Ol 4 .mv [ci 1]]) .ret) .skip)) (.seq (.reg [Ol 4 .mv [ci 0]]) .ret))))))))
theorem b_cmp_Compare_int : Body Tryd.prog 55 20 c_cmp_Compare_int [(.t 4)] := body_mk Tryd.func55 (by kernel_rfl) (by decide)
def c_cmp_Or_int : ICode := (.seq (.reg [Ol 2 .mv [ci 0]]) (.seq (.reg [Ol 3 .mv [ci 0]]) (.seq (.seq (.reg [O1 6 .mv 0, O1 7 .len 6, Ol 8 .mv [ci 0]]) (.block 0 (.loop (.seq (.reg [O2 9 (.bin .lss) 8 7]) (.seq (.cond (.t 9) .skip (.exit 0)) (.seq (.block 1 (.seq (.reg [O2 10 (.iadr 1) 6 8, O1 11 .ld1 10, O1 5 .mv 11]) (.seq (.reg [O1 12 .mv 5, O1 13 .mv 3, O2 14 (.bin .neq) 12 13]) (.cond (.t 14) (.seq (.reg [O1 15 .mv 5, O1 2 .mv 15]) .ret) .skip)))) (.reg [Ol 16 (.bin .add) [.t 8, ci 1], O1 8 .mv 16]))))))) (.seq (.reg [O1 17 .mv 3, O1 2 .mv 17]) .ret))))
theorem b_cmp_Or_int : Body Tryd.prog 54 18 c_cmp_Or_int [(.t 2)] := body_mk Tryd.func54 (by kernel_rfl) (by decide)
def c_impl_compareEdges : ICode := (.seq (.reg [O1 2 (.box 4) 0, O1 3 (.box 4) 1, Ol 4 .mv [ci 0]]) (.seq (.drw [O1 5 (.fadr 0) 2, O1 6 .ld1 5, O1 7 (.fadr 0) 3, O1 8 .ld1 7, O2 9 (.call 55) 6 8, O1 10 (.fadr 1) 2, O1 11 .ld1 10, O1 12 (.fadr 1) 3, O1 13 .ld1 12, O2 14 (.call 55) 11 13, O1 15 (.fadr 2) 2, O1 16 .ld1 15, O1 17 (.fadr 2) 3, O1 18 .ld1 17, O2 19 (.call 55) 16 18, O3 20 (.bsl 1) 9 14 19, O1 21 (.call 54) 20, O1 4 .mv 21] (unB [0, 1, 0, 4, 15, 0, 32, 0, 128, 511, 0, 1024, 0, 4096, 16383, 32767, 65535, 131071] 0) true true) .ret))
theorem b_impl_compareEdges : Body Tryd.prog 40 22 c_impl_compareEdges [(.t 4)] := body_mk Tryd.func40 (by kernel_rfl) (by decide)
def c_impl_AutoOk : ICode := (.seq (.reg [O1 1 (.box 4) 0, Ol 2 .mv [cb false]]) (.seq (.seq (.reg [O1 5 (.fadr 0) 1, O1 6 .ld1 5, O1 7 (.fadr 1) 1, O1 8 .ld1 7, O1 9 (.fadr 2) 1, O1 10 .ld1 9, O3 11 (.call 38) 6 8 10, O1 12 .not 11, O1 13 .mv 12, Og 14 (.fadr 3) [.t 1] 13 false, Og 15 .ld1 [.t 14] 13 false, Og 16 .len [.t 15] 13 false, Og 17 (.bin .gtr) [.t 16, ci 2000] 13 false, Ol 18 .pick [.t 13, cb true, .t 17]]) (.cond (.t 18) (.seq (.reg [Ol 2 .mv [cb false]]) .ret) .skip)) (.seq (.seq (.reg [O1 19 (.fadr 3) 1, O1 20 .ld1 19, O1 21 .len 20, Ol 22 .mv [ci 0]]) (.block 0 (.loop (.seq (.reg [O2 23 (.bin .lss) 22 21]) (.seq (.cond (.t 23) .skip (.exit 0)) (.seq (.block 1 (.seq (.reg [O1 24 .mv 22, O2 25 (.iadr 4) 20 22, O1 26 (.ldn 4) 25, O0 4 (.alc [(.int .i64 0), (.int .i64 0), (.int .i64 0), (.bool false)]), O1 3 .mv 24, S2 (.st 4) 4 26]) (.seq (.seq (.reg [O1 27 (.fadr 0) 4, O1 28 .ld1 27, O1 29 (.fadr 1) 1, O1 30 .ld1 29, Ol 31 (.bin .sub) [.t 30, ci 1], Ol 32 (.call 39) [.t 28, ci 0, .t 31], O1 33 .not 32, O1 34 .mv 33, Og 35 (.fadr 2) [.t 4] 34 false, Og 36 .ld1 [.t 35] 34 false, Og 37 (.fadr 1) [.t 1] 34 false, Og 38 .ld1 [.t 37] 34 false, Og 39 (.bin .sub) [.t 38, ci 1] 34 false, Og 40 (.call 39) [.t 36, ci 0, .t 39] 34 false, Og 41 .not [.t 40] 34 false, Ol 42 .pick [.t 34, cb true, .t 41], O1 43 .mv 42, Og 44 (.fadr 1) [.t 4] 43 false, Og 45 .ld1 [.t 44] 43 false, Og 46 (.fadr 0) [.t 1] 43 false, Og 47 .ld1 [.t 46] 43 false, Og 48 (.bin .sub) [.t 47, ci 1] 43 false, Og 49 (.call 39) [.t 45, ci 0, .t 48] 43 false, Og 50 .not [.t 49] 43 false, Ol 51 .pick [.t 43, cb true, .t 50]]) (.cond (.t 51) (.seq (.reg [Ol 2 .mv [cb false]]) .ret) .skip)) (.seq (.drw [O1 52 .mv 3, Ol 53 (.bin .gtr) [.t 52, ci 0], O1 54 .mv 53, Og 55 (.fadr 3) [.t 1] 54 true, Og 56 .ld1 [.t 55] 54 true, Og 57 .mv [.t 3] 54 true, Og 58 (.bin .sub) [.t 57, ci 1] 54 true, Og 59 (.iadr 4) [.t 56, .t 58] 54 true, Og 60 (.ldn 4) [.t 59] 54 true, Og 61 (.ldn 4) [.t 4] 54 true, Og 62 (.call 40) [.t 60, .t 61] 54 true, Og 63 (.bin .geq) [.t 62, ci 0] 54 true, Ol 64 .pick [.t 54, .t 63, cb false]] (unB [0, 1, 3, 7, 15, 7, 39, 127, 255, 7, 1023, 2047, 4095] 0) true true) (.cond (.t 64) (.seq (.reg [Ol 2 .mv [cb false]]) .ret) .skip))))) (.reg [Ol 65 (.bin .add) [.t 22, ci 1], O1 22 .mv 65]))))))) (.seq (.reg [Ol 2 .mv [cb true]]) .ret))))
theorem b_impl_AutoOk : Body Tryd.prog 20 66 c_impl_AutoOk [(.t 2)] := body_mk Tryd.func20 (by kernel_rfl) (by decide)
theorem s_impl_SetOk : PureSound Tryd.prog 42 RSetOk := by
  have hR : Rely Tryd.prog (ctxOf [(39, .pure RIn)]) := rely_cons b_impl_inRange.has s_impl_inRange (rely_nil mixed)
  refine pure_of_aw b_impl_SetOk ?_
  rintro xs r objs ⟨s, rfl, rfl, rfl⟩ -
  refine ⟨by simp, vc2_sound hR _ _ _ _ _ ?_⟩
  conv => whnf
  repeat' ((first | contradiction | (refine And.intro (fun hb => ?_) (fun hb => ?_) <;> first | contradiction | ((try simp only [SB, reduceCtorEq] at hb); try (exfalso; first | contradiction | omega))) | refine G2 ?_ | rw [ints_at (by omega)] | rw [ints_at0 (by omega)] | rw [ints_at' (by omega) (by omega)] | refine G1 ?_ | refine ⟨_, _, RIn_mk, ?_⟩ | fail) <;> conv => whnf)
  all_goals
    refine ⟨.inl rfl, ?_⟩
    conv => whnf
    refine ⟨[], ⟨rfl, trivial⟩, ?_, rfl, rfl⟩
    conv => whnf
    left
    conv => lhs; whnf
    try exact congrArg AV.bool (by simp_all)
def ROnly (xs : List AV) (r : AV) (objs : List AObj) : Prop := ∃ i, xs = [.int .i64 i] ∧ 0 ≤ i ∧ i ≤ 62 ∧ r = .int .i64 (2 ^ i.toNat) ∧ objs = []
theorem ROnly_mk {i : Int} (h0 : 0 ≤ i) (h1 : i ≤ 62) : ROnly [.int .i64 i] (.int .i64 (2 ^ i.toNat)) [] := ⟨i, rfl, h0, h1, rfl, rfl⟩
theorem s_impl_only : PureSound Tryd.prog 37 ROnly := by
  have hR : Rely Tryd.prog (ctxOf []) := rely_nil mixed
  refine pure_of_aw b_impl_only ?_
  rintro xs r objs ⟨i, rfl, h0, h1, rfl, rfl⟩ -
  refine ⟨by simp, vc2_sound hR _ _ _ _ _ ?_⟩
  conv => whnf
  repeat' ((first | contradiction | (refine And.intro (fun hb => ?_) (fun hb => ?_) <;> first | contradiction | ((try simp only [SB, reduceCtorEq] at hb); try (exfalso; first | contradiction | omega))) | refine G2 ?_ | rw [ints_at (by omega)] | rw [ints_at0 (by omega)] | rw [ints_at' (by omega) (by omega)] | refine G1 ?_ | refine ⟨_, IntWalk.u64_in _ (by omega), ?_⟩ | fail) <;> conv => whnf)
  refine ⟨.inl rfl, ?_⟩
  conv => whnf
  refine ⟨[], ⟨rfl, trivial⟩, ?_, rfl, rfl⟩
  conv => whnf
  left
  conv => lhs; whnf
  exact congrArg (AV.int .i64) (shl_one h0 h1)
def RHeadOk (xs : List AV) (r : AV) (objs : List AObj) : Prop := ∃ l s t, xs = [.int .i64 l, .int .i64 s, .int .i64 t] ∧ r = .bool (decide (HeadOk l s t)) ∧ objs = []
theorem RHeadOk_mk {l s t : Int} : RHeadOk [.int .i64 l, .int .i64 s, .int .i64 t] (.bool (decide (HeadOk l s t))) [] := ⟨l, s, t, rfl, rfl, rfl⟩
theorem s_impl_headOk : PureSound Tryd.prog 38 RHeadOk := by
  have hR : Rely Tryd.prog (ctxOf [(53, .pure RIsLetters), (39, .pure RIn), (42, .pure RSetOk), (37, .pure ROnly)]) :=
    rely_cons b_impl_isLetters.has s_impl_isLetters (rely_cons b_impl_inRange.has s_impl_inRange (rely_cons b_impl_SetOk.has s_impl_SetOk (rely_cons b_impl_only.has s_impl_only (rely_nil mixed))))
  refine pure_of_aw b_impl_headOk ?_
  rintro xs r objs ⟨l, s, t, rfl, rfl, rfl⟩ -
  refine ⟨by simp, vc2_sound hR _ _ _ _ _ ?_⟩
  conv => whnf
  repeat' ((first | contradiction | (refine And.intro (fun hb => ?_) (fun hb => ?_) <;> first | contradiction | ((try simp only [SB, reduceCtorEq] at hb); try (exfalso; first | contradiction | omega))) | refine G2 ?_ | rw [ints_at (by omega)] | rw [ints_at0 (by omega)] | rw [ints_at' (by omega) (by omega)] | refine G1 ?_ | refine ⟨_, _, RIsLetters_mk, ?_⟩ | refine ⟨_, _, RIn_mk, ?_⟩ | refine ⟨_, _, RSetOk_mk, ?_⟩ | refine ⟨_, _, ROnly_mk (by omega) (by omega), ?_⟩ | fail) <;> conv => whnf)
  all_goals
    refine ⟨.inl rfl, ?_⟩
    conv => whnf
    refine ⟨[], ⟨rfl, trivial⟩, ?_, rfl, rfl⟩
    conv => whnf
    left
    conv => lhs; whnf
    refine congrArg AV.bool ?_
    first
    | exact (decide_eq_true (show HeadOk l s t from ⟨by omega, by omega, by omega⟩)).symm
    | (refine (decide_eq_false ?_).symm
       rintro ⟨g1, g2, g3⟩
       omega)
def RNaN (xs : List AV) (r : AV) (objs : List AObj) : Prop := ∃ i, xs = [.int .i64 i] ∧ r = .bool false ∧ objs = []
theorem RNaN_mk {i : Int} : RNaN [.int .i64 i] (.bool false) [] := ⟨i, rfl, rfl, rfl⟩
theorem s_cmp_isNaN : PureSound Tryd.prog 65 RNaN := by
  have hR : Rely Tryd.prog (ctxOf []) := rely_nil mixed
  refine pure_of_aw b_cmp_isNaN_int ?_
  rintro xs r objs ⟨i, rfl, rfl, rfl⟩ -
  refine ⟨by simp, vc2_sound hR _ _ _ _ _ ?_⟩
  conv => whnf
  repeat' ((first | contradiction | (refine And.intro (fun hb => ?_) (fun hb => ?_) <;> first | contradiction | ((try simp only [SB, reduceCtorEq] at hb); try (exfalso; first | contradiction | omega))) | refine G2 ?_ | rw [ints_at (by omega)] | rw [ints_at0 (by omega)] | rw [ints_at' (by omega) (by omega)] | refine G1 ?_ | fail) <;> conv => whnf)
  all_goals
    refine ⟨.inl rfl, ?_⟩
    conv => whnf
    refine ⟨[], ⟨rfl, trivial⟩, ?_, rfl, rfl⟩
    conv => whnf
    left
    conv => lhs; whnf
    try exact congrArg AV.bool (by simp_all)
def cmpI (x y : Int) : Int := if x < y then -1 else if x > y then 1 else 0
def RCompare (xs : List AV) (r : AV) (objs : List AObj) : Prop := ∃ x y, xs = [.int .i64 x, .int .i64 y] ∧ r = .int .i64 (cmpI x y) ∧ objs = []
theorem RCompare_mk {x y : Int} : RCompare [.int .i64 x, .int .i64 y] (.int .i64 (cmpI x y)) [] := ⟨x, y, rfl, rfl, rfl⟩
theorem s_cmp_Compare : PureSound Tryd.prog 55 RCompare := by
  have hR : Rely Tryd.prog (ctxOf [(65, .pure RNaN)]) := rely_cons b_cmp_isNaN_int.has s_cmp_isNaN (rely_nil mixed)
  refine pure_of_aw b_cmp_Compare_int ?_
  rintro xs r objs ⟨x, y, rfl, rfl, rfl⟩ -
  refine ⟨by simp, vc2_sound hR _ _ _ _ _ ?_⟩
  conv => whnf
  repeat' ((first | contradiction | (refine And.intro (fun hb => ?_) (fun hb => ?_) <;> first | contradiction | ((try simp only [SB, reduceCtorEq] at hb); try (exfalso; first | contradiction | omega))) | refine G2 ?_ | rw [ints_at (by omega)] | rw [ints_at0 (by omega)] | rw [ints_at' (by omega) (by omega)] | refine G1 ?_ | refine ⟨_, _, RNaN_mk, ?_⟩ | fail) <;> conv => whnf)
  all_goals
    refine ⟨.inl rfl, ?_⟩
    conv => whnf
    refine ⟨[], ⟨rfl, trivial⟩, ?_, rfl, rfl⟩
    conv => whnf
    left
    conv => lhs; whnf
    exact congrArg (AV.int .i64) (by unfold cmpI; split <;> (try split) <;> omega)
def orI : List Int → Int
  | [] => 0
  | x :: r => if x ≠ 0 then x else orI r
theorem orI_drop {l : List Int} {i : Nat} (h : i < l.length) : orI (l.drop i) = if l.getD i 0 ≠ 0 then l.getD i 0 else orI (l.drop (i + 1)) := by
  rw [List.drop_eq_getElem_cons h]
  simp [orI, List.getD_eq_getElem?_getD, List.getElem?_eq_getElem h]
def ROr (xs : List AV) (r : AV) (objs : List AObj) : Prop := ∃ l, xs = [.val (ints l)] ∧ l.length ≤ 1000000 ∧ r = .int .i64 (orI l) ∧ objs = []
theorem ROr_eq {xs : List AV} {l : List Int} (h : xs = [.val (ints l)]) (h2 : l.length ≤ 1000000) : ROr xs (.int .i64 (orI l)) [] := ⟨l, h, h2, rfl, rfl⟩
theorem s_cmp_Or : PureSound Tryd.prog 54 ROr := by
  have hR : Rely Tryd.prog (ctxOf []) := rely_nil mixed
  refine pure_of_aw b_cmp_Or_int ?_
  rintro xs r objs ⟨l, rfl, hl, rfl, rfl⟩ -
  refine ⟨by simp, vc2_sound hR _ _ _ _ _ ?_⟩
  conv => whnf
  repeat' ((first | contradiction | (refine And.intro (fun hb => ?_) (fun hb => ?_) <;> first | contradiction | ((try simp only [SB, reduceCtorEq] at hb); try (exfalso; first | contradiction | omega))) | refine G2 ?_ | rw [ints_at (by omega)] | rw [ints_at0 (by omega)] | rw [ints_at' (by omega) (by omega)] | refine G1 ?_ | fail) <;> conv => whnf)
  refine Lp.intro (α := Nat) (fun i => i ≤ l.length ∧ orI (l.drop i) = orI l) (fun i => l.length - i) (fun i => [(3, .int .i64 0), (6, .val (ints l)), (7, .int .i64 (ints l).length), (8, .int .i64 i)]) (fun _ => []) ?_ ?_
  · refine ⟨0, ⟨by omega, rfl⟩, [], rfl, rfl, trivial, ?_⟩
    repeat' (first
      | exact trivial
      | refine ⟨?_, ?_⟩
      | fail)
    all_goals first
      | with_reducible rfl
      | (conv => whnf
         try left
         conv => lhs; whnf
         first
           | rfl
           | exact congrArg (AV.int .i64) (by omega)
           | skip)
  · rintro i ⟨hi, hall⟩
    refine vc2_sound hR _ _ _ _ _ ?_
    conv => whnf
    repeat' ((first | contradiction | (refine And.intro (fun hb => ?_) (fun hb => ?_) <;> first | contradiction | ((try simp only [SB, reduceCtorEq] at hb); try (exfalso; first | contradiction | omega))) | refine G2 ?_ | rw [ints_at (by omega)] | rw [ints_at0 (by omega)] | rw [ints_at' (by omega) (by omega)] | refine G1 ?_ | fail) <;> conv => whnf)
    · refine ⟨.inl rfl, ?_⟩
      conv => whnf
      refine ⟨[], ⟨rfl, trivial⟩, ?_, rfl, rfl⟩
      conv => whnf
      left
      conv => lhs; whnf
      exact congrArg (AV.int .i64) (by rw [← hall, orI_drop (by omega), if_pos (by assumption)])
    · refine ⟨i + 1, ⟨by omega, by rw [← hall, orI_drop (i := i) (by omega), if_neg (by simpa using hb)]⟩, by omega, [], rfl, rfl, ?_, ?_⟩
      · repeat' (first | exact trivial | exact rfl | exact Or.inl rfl | refine And.intro ?_ ?_)
      · repeat' (first
          | exact trivial
          | refine ⟨?_, ?_⟩
          | fail)
        all_goals first
          | with_reducible rfl
          | (conv => whnf
             try left
             conv => lhs; whnf
             first
               | rfl
               | exact congrArg (AV.int .i64) (by omega)
               | skip)
    · refine ⟨.inl rfl, ?_⟩
      conv => whnf
      refine ⟨[], ⟨rfl, trivial⟩, ?_, rfl, rfl⟩
      conv => whnf
      left
      conv => lhs; whnf
      exact congrArg (AV.int .i64) (by rw [← hall, List.drop_of_length_le (by omega)]; rfl)
def cmpE (x y : EdgeD) : Int := orI [cmpI x.src y.src, cmpI x.letter y.letter, cmpI x.dst y.dst]
theorem cmpE_less {x y : EdgeD} : 0 ≤ cmpE x y ↔ edgeLess x y = false := by
  simp only [cmpE, orI, cmpI, edgeLess]
  (repeat' split) <;> simp_all <;> omega
def RCompareE (xs : List AV) (r : AV) (objs : List AObj) : Prop := ∃ x y, xs = [.agg (edgeRow x), .agg (edgeRow y)] ∧ r = .int .i64 (cmpE x y) ∧ objs = []
theorem RCompareE_mk {x y : EdgeD} : RCompareE [.agg (edgeRow x), .agg (edgeRow y)] (.int .i64 (cmpE x y)) [] := ⟨x, y, rfl, rfl, rfl⟩
theorem s_impl_compareEdges : PureSound Tryd.prog 40 RCompareE := by
  have hR : Rely Tryd.prog (ctxOf [(55, .pure RCompare), (54, .pure ROr)]) := rely_cons b_cmp_Compare_int.has s_cmp_Compare (rely_cons b_cmp_Or_int.has s_cmp_Or (rely_nil mixed))
  refine pure_of_aw b_impl_compareEdges ?_
  rintro xs r objs ⟨x, y, rfl, rfl, rfl⟩ -
  refine ⟨by simp, vc2_sound hR _ _ _ _ _ ?_⟩
  conv => whnf
  repeat' ((first | contradiction | (refine And.intro (fun hb => ?_) (fun hb => ?_) <;> first | contradiction | ((try simp only [SB, reduceCtorEq] at hb); try (exfalso; first | contradiction | omega))) | refine G2 ?_ | rw [ints_at (by omega)] | rw [ints_at0 (by omega)] | rw [ints_at' (by omega) (by omega)] | refine G1 ?_ | refine ⟨_, _, RCompare_mk, ?_⟩ | fail) <;> conv => whnf)
  refine ⟨_, _, ROr_eq (l := [cmpI x.src y.src, cmpI x.letter y.letter, cmpI x.dst y.dst]) rfl (by simp), ?_⟩
  conv => whnf
  repeat' ((first | contradiction | (refine And.intro (fun hb => ?_) (fun hb => ?_) <;> first | contradiction | ((try simp only [SB, reduceCtorEq] at hb); try (exfalso; first | contradiction | omega))) | refine G2 ?_ | rw [ints_at (by omega)] | rw [ints_at0 (by omega)] | rw [ints_at' (by omega) (by omega)] | refine G1 ?_ | fail) <;> conv => whnf)
  refine ⟨.inl rfl, ?_⟩
  conv => whnf
  refine ⟨[], ⟨rfl, trivial⟩, ?_, rfl, rfl⟩
  conv => whnf
  left
  conv => lhs; whnf
  rfl
theorem s_impl_AutoOk : PureSound Tryd.prog 20 RAutoOk := by
  have hR : Rely Tryd.prog (ctxOf [(39, .pure RIn), (38, .pure RHeadOk), (40, .pure RCompareE)]) :=
    rely_cons b_impl_inRange.has s_impl_inRange (rely_cons b_impl_headOk.has s_impl_headOk (rely_cons b_impl_compareEdges.has s_impl_compareEdges (rely_nil mixed)))
  refine pure_of_aw b_impl_AutoOk ?_
  rintro xs r objs ⟨a, rfl, rfl, rfl⟩ ⟨w, own, vs, hrel⟩
  have hle := length_edgeRows a.edges
  clear hrel
  refine ⟨by simp, vc2_sound hR _ _ _ _ _ ?_⟩
  conv => whnf
  repeat' ((first | contradiction | (refine And.intro (fun hb => ?_) (fun hb => ?_) <;> first | contradiction | ((try simp only [SB, reduceCtorEq] at hb); try (exfalso; first | contradiction | omega))) | refine G2 ?_ | rw [ints_at (by omega)] | rw [ints_at0 (by omega)] | rw [ints_at' (by omega) (by omega)] | refine G1 ?_ | refine ⟨_, _, RHeadOk_mk, ?_⟩ | fail) <;> conv => whnf)
  · refine ⟨.inl rfl, ?_⟩
    conv => whnf
    refine ⟨[], ⟨rfl, trivial⟩, ?_, rfl, rfl⟩
    conv => whnf
    left
    conv => lhs; whnf
    refine congrArg AV.bool (decide_eq_false ?_).symm
    rintro ⟨_, g4, g5⟩
    omega
  · have hh : HeadOk a.letters a.states a.start := by assumption
    obtain ⟨g1, g2, g3⟩ := hh
    refine Lp.intro (α := Nat) (fun i => i ≤ a.edges.length ∧ ∀ j, j < i → EdgeAt a j) (fun i => a.edges.length - i) (fun i => [(1, .ptr 0 0 0), (20, .val (edgeRows a.edges)), (21, .int .i64 (edgeRows a.edges).length), (22, .int .i64 i)]) (fun _ => [some (.box (autoRow a))]) ?_ ?_
    · refine ⟨0, ⟨by omega, by omega⟩, [some 0], rfl, rfl, ?_, ?_⟩
      · repeat' (first | exact trivial | exact rfl | exact Or.inl rfl | refine And.intro ?_ ?_)
      · repeat' (first
          | exact trivial
          | refine ⟨?_, ?_⟩
          | fail)
        all_goals first
          | with_reducible rfl
          | (conv => whnf
             try left
             conv => lhs; whnf
             first
               | rfl
               | exact congrArg (AV.int .i64) (by omega)
               | skip)
    · rintro i ⟨hi, hall⟩
      refine vc2_sound hR _ _ _ _ _ ?_
      conv => whnf
      repeat' ((first | contradiction | (refine And.intro (fun hb => ?_) (fun hb => ?_) <;> first | contradiction | ((try simp only [SB, reduceCtorEq] at hb); try (exfalso; first | contradiction | omega))) | refine G2 ?_ | rw [ints_at (by omega)] | rw [ints_at0 (by omega)] | rw [ints_at' (by omega) (by omega)] | refine G1 ?_ | rw [edge_at (by omega)] | rw [edge_prev (by omega) (by omega)] | refine ⟨_, _, RIn_mk, ?_⟩ | refine ⟨_, _, RCompareE_mk (x := a.edges.getD (i - 1) default) (y := a.edges.getD i default), ?_⟩ | fail) <;> conv => whnf)
      · refine ⟨.inl rfl, ?_⟩
        conv => whnf
        refine ⟨[], ⟨rfl, trivial⟩, ?_, rfl, rfl⟩
        conv => whnf
        left
        conv => lhs; whnf
        refine congrArg AV.bool (decide_eq_false ?_).symm
        rintro ⟨_, _, g5⟩
        have k1 := (g5 i (by omega)).2 (by omega)
        rw [cmpE_less.1 (by assumption)] at k1
        cases k1
      · refine ⟨i + 1, ⟨by omega, fun j hj => ?_⟩, by omega, [some 0], rfl, rfl, ?_, ?_⟩
        · by_cases hji : j = i
          · subst hji
            refine ⟨⟨by assumption, by assumption, by assumption⟩, fun _ => ?_⟩
            rw [← Bool.not_eq_false]
            intro hf
            have := cmpE_less.2 hf
            omega
          · exact hall j (by omega)
        · repeat' (first | exact trivial | exact rfl | exact Or.inl rfl | refine And.intro ?_ ?_)
        · repeat' (first
            | exact trivial
            | refine ⟨?_, ?_⟩
            | fail)
          all_goals first
            | with_reducible rfl
            | (conv => whnf
               try left
               conv => lhs; whnf
               first
                 | rfl
                 | exact congrArg (AV.int .i64) (by omega)
                 | skip)
      · refine ⟨i + 1, ⟨by omega, fun j hj => ?_⟩, by omega, [some 0], rfl, rfl, ?_, ?_⟩
        · by_cases hji : j = i
          · subst hji; exact ⟨⟨by assumption, by assumption, by assumption⟩, fun _ => by omega⟩
          · exact hall j (by omega)
        · repeat' (first | exact trivial | exact rfl | exact Or.inl rfl | refine And.intro ?_ ?_)
        · repeat' (first
            | exact trivial
            | refine ⟨?_, ?_⟩
            | fail)
          all_goals first
            | with_reducible rfl
            | (conv => whnf
               try left
               conv => lhs; whnf
               first
                 | rfl
                 | exact congrArg (AV.int .i64) (by omega)
                 | skip)
      · refine ⟨.inl rfl, ?_⟩
        conv => whnf
        refine ⟨[], ⟨rfl, trivial⟩, ?_, rfl, rfl⟩
        conv => whnf
        left
        conv => lhs; whnf
        refine congrArg AV.bool (decide_eq_false ?_).symm
        rintro ⟨_, _, g5⟩
        obtain ⟨⟨k1, k2, k3⟩, _⟩ := g5 i (by omega)
        contradiction
      · refine ⟨.inl rfl, ?_⟩
        conv => whnf
        refine ⟨[], ⟨rfl, trivial⟩, ?_, rfl, rfl⟩
        conv => whnf
        left
        conv => lhs; whnf
        refine congrArg AV.bool (decide_eq_false ?_).symm
        rintro ⟨_, _, g5⟩
        obtain ⟨⟨k1, k2, k3⟩, _⟩ := g5 i (by omega)
        contradiction
      · refine ⟨.inl rfl, ?_⟩
        conv => whnf
        refine ⟨[], ⟨rfl, trivial⟩, ?_, rfl, rfl⟩
        conv => whnf
        left
        conv => lhs; whnf
        refine congrArg AV.bool (decide_eq_false ?_).symm
        rintro ⟨_, _, g5⟩
        obtain ⟨⟨k1, k2, k3⟩, _⟩ := g5 i (by omega)
        contradiction
      · refine ⟨.inl rfl, ?_⟩
        conv => whnf
        refine ⟨[], ⟨rfl, trivial⟩, ?_, rfl, rfl⟩
        conv => whnf
        left
        conv => lhs; whnf
        refine congrArg AV.bool (decide_eq_true ?_).symm
        exact ⟨⟨by assumption, by assumption, by assumption⟩, by omega, fun j hj => hall j (by omega)⟩
  · refine ⟨.inl rfl, ?_⟩
    conv => whnf
    refine ⟨[], ⟨rfl, trivial⟩, ?_, rfl, rfl⟩
    conv => whnf
    left
    conv => lhs; whnf
    refine congrArg AV.bool (decide_eq_false ?_).symm
    rintro ⟨g3, g4, g5⟩
    contradiction
end Go.Proofs.YthanhknkoikbfaaDoor.Ct
namespace Go.Proofs.YthanhknkoikbfaaDoor.Ct
open Go Go.Proofs Go.Proofs.YthanhknkoikbfaaDoor.Av Go.Proofs.YthanhknkoikbfaaDoor.Pl
def c_impl_has : ICode := (.seq (.reg [Ol 4 .mv [cb false]]) (.seq (.reg [O1 5 .mv 0, O1 6 .mv 1, O1 7 (.cvt .u64) 6, O2 8 (.bin .shr) 5 7, Ol 9 (.bin .and) [.t 8, ci 1], Ol 10 (.bin .eql) [.t 9, ci 1], O1 4 .mv 10]) .ret))
theorem b_impl_has : Body Tryd.prog 43 11 c_impl_has [(.t 4)] := body_mk Tryd.func43 (by kernel_rfl) (by decide)
def c_spec_l1Bit : ICode := (.seq (.reg [Ol 2 .mv [ci 0]]) (.seq (.reg [O1 3 .mv 0, Ol 4 (.bin .and) [.t 3, ci 31], Ol 5 (.bin .shl) [ci 1, .t 4], O1 2 .mv 5]) .ret))
theorem b_spec_l1Bit : Body Tryd.prog 16 6 c_spec_l1Bit [(.t 2)] := body_mk Tryd.func16 (by kernel_rfl) (by decide)
def c_spec_l1Has : ICode := (.seq (.reg [Ol 4 .mv [cb false]]) (.seq (.reg [O1 5 .mv 1, Ol 6 (.call 27) [.t 5, ci 0, ci 30], O1 7 .mv 6, Og 8 .mv [.t 0] 7 true, Og 9 .mv [.t 1] 7 true, Og 10 (.call 16) [.t 9] 7 true, Og 11 (.bin .and) [.t 8, .t 10] 7 true, Og 12 (.bin .neq) [.t 11, ci 0] 7 true, Ol 13 .pick [.t 7, .t 12, cb false], O1 4 .mv 13]) .ret))
theorem b_spec_l1Has : Body Tryd.prog 13 14 c_spec_l1Has [(.t 4)] := body_mk Tryd.func13 (by kernel_rfl) (by decide)
theorem natPow (k : Nat) : ((2 ^ k : Nat) : Int) = (2 : Int) ^ k := by simp
theorem shr_bit {X : Nat} {i : Int} (hX : X ≤ 4611686018427387904) (h0 : 0 ≤ i) (h1 : i ≤ 62) :
    (IntKind.i64.wrap (BitVec.ofInt IntKind.i64.bits (((X : Nat) : Int).fdiv (2 ^ (Nat.min i.toNat IntKind.i64.bits))) &&& BitVec.ofInt IntKind.i64.bits 1).toNat == 1) = X.testBit i.toNat := by
  have hm : Nat.min i.toNat IntKind.i64.bits = i.toNat := Nat.min_eq_left (show i.toNat ≤ 64 by omega)
  have hd : ((X : Nat) : Int).fdiv (2 ^ i.toNat) = ((X / 2 ^ i.toNat : Nat) : Int) := by
    rw [← natPow, Int.fdiv_eq_ediv_of_nonneg _ (Int.natCast_nonneg _), Int.natCast_ediv]
  have hle : X / 2 ^ i.toNat ≤ X := Nat.div_le_self _ _
  rw [hm, hd, and_val (Int.natCast_nonneg _) (Int.ofNat_le.2 (Nat.le_trans hle hX)) (by decide) (by decide)]
  rw [Nat.testBit, Nat.shiftRight_eq_div_pow, Int.toNat_natCast, show (1 : Int).toNat = 1 from rfl, Nat.one_and_eq_mod_two, Nat.and_one_is_mod]
  have := Nat.mod_lt (X / 2 ^ i.toNat) (show 0 < 2 by decide)
  rw [Bool.eq_iff_iff, beq_iff_eq, bne_iff_ne]
  omega
def RHas (xs : List AV) (r : AV) (objs : List AObj) : Prop := ∃ (X : Nat) (i : Int), xs = [.int .i64 ((X : Nat) : Int), .int .i64 i] ∧ X < 2 ^ 31 ∧ 0 ≤ i ∧ i ≤ 30 ∧ r = .bool (X.testBit i.toNat) ∧ objs = []
theorem RHas_mk {X : Nat} {i : Int} (h : X < 2 ^ 31) (h0 : 0 ≤ i) (h1 : i ≤ 30) : RHas [.int .i64 ((X : Nat) : Int), .int .i64 i] (.bool (X.testBit i.toNat)) [] := ⟨X, i, rfl, h, h0, h1, rfl, rfl⟩
theorem s_impl_has : PureSound Tryd.prog 43 RHas := by
  have hR : Rely Tryd.prog (ctxOf []) := rely_nil mixed
  refine pure_of_aw b_impl_has ?_
  rintro xs r objs ⟨X, i, rfl, hX, h0, h1, rfl, rfl⟩ -
  have hX' : X ≤ 4611686018427387904 := by omega
  rw [← shr_bit hX' h0 (by omega)]
  refine ⟨by simp, vc2_sound hR _ _ _ _ _ ?_⟩
  conv => whnf
  repeat' ((first | contradiction | (refine And.intro (fun hb => ?_) (fun hb => ?_) <;> first | contradiction | ((try simp only [SB, reduceCtorEq] at hb); try (exfalso; first | contradiction | omega))) | refine G2 ?_ | rw [ints_at (by omega)] | rw [ints_at0 (by omega)] | rw [ints_at' (by omega) (by omega)] | refine G1 ?_ | refine ⟨_, IntWalk.u64_in _ (by omega), ?_⟩ | fail) <;> conv => whnf)
  all_goals
    refine ⟨.inl rfl, ?_⟩
    conv => whnf
    refine ⟨[], ⟨rfl, trivial⟩, ?_, rfl, rfl⟩
    conv => whnf
    left
    conv => lhs; whnf
    refine congrArg AV.bool ?_
    symm
    first
    | (rw [beq_iff_eq]; assumption)
    | (rw [beq_eq_false_iff_ne]; assumption)
def RBit (xs : List AV) (r : AV) (objs : List AObj) : Prop := ∃ i : Int, xs = [.int .i64 i] ∧ 0 ≤ i ∧ i ≤ 30 ∧ r = .int .i64 ((2 ^ i.toNat : Nat) : Int) ∧ objs = []
theorem RBit_mk {i : Int} (h0 : 0 ≤ i) (h1 : i ≤ 30) : RBit [.int .i64 i] (.int .i64 ((2 ^ i.toNat : Nat) : Int)) [] := ⟨i, rfl, h0, h1, rfl, rfl⟩
theorem and31 {i : Int} (h0 : 0 ≤ i) (h1 : i ≤ 31) : IntKind.i64.wrap (BitVec.ofInt IntKind.i64.bits i &&& BitVec.ofInt IntKind.i64.bits 31).toNat = i := by
  rw [and_val h0 (by omega) (by decide) (by decide), show (31 : Int).toNat = 2 ^ 5 - 1 from rfl, Nat.and_two_pow_sub_one_eq_mod, Nat.mod_eq_of_lt (by omega)]
  omega
theorem s_spec_l1Bit : PureSound Tryd.prog 16 RBit := by
  have hR : Rely Tryd.prog (ctxOf []) := rely_nil mixed
  refine pure_of_aw b_spec_l1Bit ?_
  rintro xs r objs ⟨i, rfl, h0, h1, rfl, rfl⟩ -
  refine ⟨by simp, vc2_sound hR _ _ _ _ _ ?_⟩
  conv => whnf
  repeat' ((first | contradiction | (refine And.intro (fun hb => ?_) (fun hb => ?_) <;> first | contradiction | ((try simp only [SB, reduceCtorEq] at hb); try (exfalso; first | contradiction | omega))) | refine G2 ?_ | rw [ints_at (by omega)] | rw [ints_at0 (by omega)] | rw [ints_at' (by omega) (by omega)] | refine G1 ?_ | rw [and31 h0 (by omega)] | fail) <;> conv => whnf)
  refine ⟨.inl rfl, ?_⟩
  conv => whnf
  refine ⟨[], ⟨rfl, trivial⟩, ?_, rfl, rfl⟩
  conv => whnf
  left
  conv => lhs; whnf
  refine congrArg (AV.int .i64) ?_
  rw [natPow]
  exact shl_one h0 (by omega)
theorem s_impl_onlyB : PureSound Tryd.prog 37 RBit := fun w own xs vs r objs hr ⟨i, hx, h0, h1, h2, h3⟩ => s_impl_only w own xs vs r objs hr ⟨i, hx, h0, by omega, by rw [h2, natPow], h3⟩
theorem and_bit {X : Nat} {i : Int} (hX : X < 2 ^ 31) (h0 : 0 ≤ i) (h1 : i ≤ 30) :
    IntKind.i64.wrap (BitVec.ofInt IntKind.i64.bits ((X : Nat) : Int) &&& BitVec.ofInt IntKind.i64.bits ((2 ^ i.toNat : Nat) : Int)).toNat = ((X &&& 2 ^ i.toNat : Nat) : Int) := by
  have h3 : 2 ^ i.toNat ≤ 4611686018427387904 := Nat.le_trans (Nat.pow_le_pow_right (show 0 < 2 by decide) (show i.toNat ≤ 30 by omega)) (by decide)
  rw [and_val (by omega) (by omega) (Int.natCast_nonneg _) (Int.ofNat_le.2 h3), Int.toNat_natCast, Int.toNat_natCast]
theorem and_bit_ne {X i : Nat} : ((X &&& 2 ^ i : Nat) : Int) ≠ 0 ↔ X.testBit i = true := by
  constructor
  · intro h
    cases hb : X.testBit i with
    | true => rfl
    | false =>
      exfalso
      refine h ?_
      have : X &&& 2 ^ i = 0 := Nat.eq_of_testBit_eq fun j => by
        rw [Nat.testBit_and, Nat.testBit_two_pow, Nat.zero_testBit]
        by_cases hij : i = j
        · subst hij; simp [hb]
        · simp [hij]
      omega
  · intro h h0
    have h0 : X &&& 2 ^ i = 0 := by omega
    have : (X &&& 2 ^ i).testBit i = true := by rw [Nat.testBit_and, h, Nat.testBit_two_pow]; simp
    rw [h0, Nat.zero_testBit] at this
    cases this
theorem s_spec_l1Has : PureSound Tryd.prog 13 RHas := by
  have hR : Rely Tryd.prog (ctxOf [(27, .pure RIn), (16, .pure RBit)]) := rely_cons b_spec_l1In.has s_spec_l1In (rely_cons b_spec_l1Bit.has s_spec_l1Bit (rely_nil mixed))
  refine pure_of_aw b_spec_l1Has ?_
  rintro xs r objs ⟨X, i, rfl, hX, h0, h1, rfl, rfl⟩ -
  refine ⟨by simp, vc2_sound hR _ _ _ _ _ ?_⟩
  conv => whnf
  repeat' ((first | contradiction | (refine And.intro (fun hb => ?_) (fun hb => ?_) <;> first | contradiction | ((try simp only [SB, reduceCtorEq] at hb); try (exfalso; first | contradiction | omega))) | refine G2 ?_ | rw [ints_at (by omega)] | rw [ints_at0 (by omega)] | rw [ints_at' (by omega) (by omega)] | refine G1 ?_ | refine ⟨_, _, RIn_mk, ?_⟩ | refine ⟨_, _, RBit_mk h0 h1, ?_⟩ | fail) <;> conv => whnf)
  · refine ⟨.inl rfl, ?_⟩
    conv => whnf
    refine ⟨[], ⟨rfl, trivial⟩, ?_, rfl, rfl⟩
    conv => whnf
    left
    conv => lhs; whnf
    refine congrArg AV.bool ?_
    exact (and_bit_ne.1 (by rw [← and_bit hX h0 h1]; assumption)).symm
  · refine ⟨.inl rfl, ?_⟩
    conv => whnf
    refine ⟨[], ⟨rfl, trivial⟩, ?_, rfl, rfl⟩
    conv => whnf
    left
    conv => lhs; whnf
    refine congrArg AV.bool ?_
    symm
    cases hb2 : X.testBit i.toNat with
    | false => rfl
    | true => exact absurd (by rw [← and_bit hX h0 h1]; assumption) (and_bit_ne.2 hb2)
end Go.Proofs.YthanhknkoikbfaaDoor.Ct
namespace Go.Proofs.YthanhknkoikbfaaDoor.Av
open Go
end Go.Proofs.YthanhknkoikbfaaDoor.Av
namespace Go.Proofs.YthanhknkoikbfaaDoor.Av
set_option linter.unusedSimpArgs false
set_option linter.unusedVariables false
open Go
structure Rg (P : Program) (N k : Nat) (ios : List IOper) (K : XK) (e : Env) (h : Heap) (n : Nat) : Prop where
  aw : Aw P N k (.reg ios) K e h n
theorem Rg.split {P : Program} {N k : Nat} {K : XK} {e : Env} {h : Heap} {n : Nat} {Γ : Ctx} (hR : Rely P Γ) (i : Nat) {l : List IOper} (hk : regK2 Γ (l.take i) e h n (fun e' h' n' => ∃ σ L os, CovN σ e' h' L os k ∧ regK2 Γ (l.drop i) (envL L) (objsO os) os.length (K .normal))) : Rg P N k l K e h n := by
  have h1 : Aw P N k (.reg (l.take i ++ l.drop i)) K e h n := Aw.split hR (by rw [← regK2_eq]; simpa only [regK2_eq] using hk)
  rw [List.take_append_drop] at h1
  exact ⟨h1⟩
def AV.sealed : AV → Bool
  | .own _ _ => true
  | v => v.free
inductive Turn : Heap → Nat → Heap → Nat → Prop where
  | refl (h : Heap) (n : Nat) : Turn h n h n
  | fold {h h2 : Heap} {n n2 : Nat} (k m i j z y : Nat) (rows row rs) (ho : h k = some (.arx z rows)) (hm : h m = some (.arr y rs)) (hk : m ≠ k) (hr : rows[i]? = some row) (len : Nat) (hl : rs.length = len) (hc : row[j]? = some (.ref m 0 len))
      (t : Turn ((h.del m).set k (.arx z (rows.set i (row.set j (.own y rs))))) n h2 n2) : Turn h n h2 n2
  | nil {h h2 : Heap} {n n2 : Nat} (k i j z y : Nat) (rows row) (ho : h k = some (.arx z rows)) (hr : rows[i]? = some row) (hc : row[j]? = some .snil)
      (t : Turn (h.set k (.arx z (rows.set i (row.set j (.own y []))))) n h2 n2) : Turn h n h2 n2
  | lax {h h2 : Heap} {n n2 : Nat} (k z : Nat) (rows) (ho : h k = some (.arr z rows) ∨ h k = some (.nst z rows)) (t : Turn (h.set k (.arx z rows)) n h2 n2) : Turn h n h2 n2
  | clos {h h2 : Heap} {n n2 : Nat} (k z : Nat) (rows) (ho : h k = some (.arx z rows)) (hs : ∀ row ∈ rows, ∀ c ∈ row, c.sealed = true) (t : Turn (h.set k (.nst z rows)) n h2 n2) : Turn h n h2 n2
  | unfold {h h2 : Heap} {n n2 : Nat} (k i j z y : Nat) (rows row rs) (ho : h k = some (.arx z rows)) (hr : rows[i]? = some row) (hc : row[j]? = some (.own y rs)) (len : Nat) (hl : rs.length = len)
      (t : Turn ((h.set k (.arx z (rows.set i (row.set j (.ref n 0 len))))).set n (.arr y rs)) (n + 1) h2 n2) : Turn h n h2 n2
section
variable {P : Program} {w0 : World} {pass own0 : Nat → Prop} {π π' : Pl} {e : Env} {h h2 : Heap} {n n' n2 : Nat} {a : Act} {w : World}
theorem NstAt.swap (m : Mono own0 π π' n n' w w) {k i j : Nat} {p : Place} {z : Nat} {rows : List (List AV)} {row : List AV} {x x' : AV} (h : NstAt w (ownOf own0 π) π n k p z rows)
    (hh : ∀ b i' j', (i', j') ≠ (i, j) → π.hid b = some (k, i', j') → π'.hid b = some (k, i', j')) (hr : rows[i]? = some row) (hc : row[j]? = some x)
    (hx : ∀ b cur e u, p.blk = some b → w.heap[b]? = some (.cells cur e (0, 0)) → cur[i * z + j]? = some u → CellAt w (ownOf own0 π) π n k i j x u → CellAt w (ownOf own0 π') π' n' k i j x' u) :
    NstAt w (ownOf own0 π') π' n' k p z (rows.set i (row.set j x')) := by
  obtain ⟨h0, h1, h2⟩ := h
  have hil := (List.getElem?_eq_some_iff.1 hr).1
  have hjl := (List.getElem?_eq_some_iff.1 hc).1
  refine ⟨h0, fun i' row' hr' => ?_, ?_⟩
  · rw [List.getElem?_set] at hr'
    by_cases hi : i = i'
    · subst hi
      rw [if_pos rfl, if_pos hil] at hr'
      cases hr'; simpa using h1 i row hr
    · rw [if_neg hi] at hr'
      exact h1 i' row' hr'
  · cases hb : p.blk with
    | none => simp only [hb] at h2; subst h2; simp at hil
    | some b =>
      simp only [hb] at h2
      obtain ⟨cur, e, g1, g2, g3, g4, g5⟩ := h2
      refine ⟨cur, e, g1, g2, by simpa using g3, g4, fun i' j' row' x0 u a1 a2 a3 => ?_⟩
      have old : ∀ i' j' row' x0, (i', j') ≠ (i, j) → rows[i']? = some row' → row'[j']? = some x0 → cur[i' * z + j']? = some u → CellAt w (ownOf own0 π') π' n' k i' j' x0 u :=
        fun i' j' row' x0 hne a1 a2 a3 => (g5 i' j' row' x0 u a1 a2 a3).mono m fun b hb => ⟨rfl, hh b i' j' hne hb⟩
      rw [List.getElem?_set] at a1
      by_cases hi : i = i'
      · subst hi
        rw [if_pos rfl, if_pos hil] at a1
        cases a1
        rw [List.getElem?_set] at a2
        by_cases hj : j = j'
        · subst hj
          rw [if_pos rfl, if_pos hjl] at a2
          cases a2
          exact hx b cur e u hb g1 a3 (g5 i j row x u hr hc a3)
        · rw [if_neg hj] at a2
          exact old i j' row x0 (by simp; omega) hr a2 a3
      · rw [if_neg hi] at a1
        exact old i' j' row' x0 (by simp; omega) a1 a2 a3
def plFold (π : Pl) (k m i j : Nat) : Pl where
  at' id := if id = m then none else π id
  hid b := if (π m).bind Place.blk = some b then some (k, i, j) else π.hid b
theorem plFold_at (π : Pl) (k m i j id : Nat) : plFold π k m i j id = if id = m then none else π id := rfl
theorem plFold_hid (π : Pl) (k m i j b : Nat) : (plFold π k m i j).hid b = if (π m).bind Place.blk = some b then some (k, i, j) else π.hid b := rfl
def plUn (π : Pl) (n : Nat) (p : Place) : Pl where
  at' id := if id = n then some p else π id
  hid b := if p.blk = some b then none else π.hid b
theorem plUn_at (π : Pl) (n : Nat) (p : Place) (id : Nat) : plUn π n p id = if id = n then some p else π id := rfl
theorem plUn_hid (π : Pl) (n : Nat) (p : Place) (b : Nat) : (plUn π n p).hid b = if p.blk = some b then none else π.hid b := rfl
theorem go_self (hs : HSim own0 π h n w) (fr : Fr w0 pass π w) {k : Nat} {o o' : AObj} (ho : h k = some o) (hx : ∀ p, π k = some p → ObjAt w (ownOf own0 π) π n k p o → ObjAt w (ownOf own0 π) π n k p o') :
    Go1 w0 pass own0 π n w π (h.set k o') n w := by
  refine ⟨.refl fun _ _ hp => (hs.lt hp).1, ⟨fun id hid => ?_, fun id o1 hid => ?_, hs.inj, hs.sep, hs.old, hs.hid⟩, fr⟩
  · unfold Heap.set at hid
    split at hid
    · cases hid
    · exact hs.dom id hid
  · unfold Heap.set at hid
    split at hid
    · rename_i he; subst he; cases hid
      obtain ⟨g1, p, g2, g3⟩ := hs.obj _ _ ho
      exact ⟨g1, p, g2, hx p g2 g3⟩
    · exact hs.obj id o1 hid
theorem go_fold (hs : HSim own0 π h n w) (fr : Fr w0 pass π w) {k m i j z y : Nat} {rows rs : List (List AV)} {row : List AV} (ho : h k = some (.arx z rows)) (hm : h m = some (.arr y rs)) (hk : m ≠ k)
    (hr : rows[i]? = some row) (hc : row[j]? = some (.ref m 0 rs.length)) :
    Go1 w0 pass own0 π n w (plFold π k m i j) ((h.del m).set k (.arx z (rows.set i (row.set j (.own y rs))))) n w := by
  obtain ⟨gm, q, hq, hqo⟩ := hs.obj m _ hm
  obtain ⟨gk, p, hp, hpo⟩ := hs.obj k _ ho
  have hid0 : ∀ b v, π.hid b = some v → (plFold π k m i j).hid b = some v := by
    intro b v hb
    rw [plFold_hid, if_neg, hb]
    rw [hq]
    exact (hs.hid b v hb).2.2.2 m q hq
  have hidb : ∀ b, q.blk = some b → (plFold π k m i j).hid b = some (k, i, j) := by
    intro b hb
    rw [plFold_hid, if_pos]
    rw [hq]; exact hb
  have hidc : ∀ b v, (plFold π k m i j).hid b = some v → (q.blk = some b ∧ v = (k, i, j)) ∨ π.hid b = some v := by
    intro b v hb
    rw [plFold_hid] at hb
    split at hb
    · rename_i h1
      rw [hq] at h1
      cases hb; exact .inl ⟨h1, rfl⟩
    · exact .inr hb
  have hat : ∀ id r, plFold π k m i j id = some r → id ≠ m ∧ π id = some r := by
    intro id r h1
    rw [plFold_at] at h1
    split at h1
    · cases h1
    · rename_i hne; exact ⟨hne, h1⟩
  have mono : Mono own0 π (plFold π k m i j) n n w w := by
    refine ⟨Nat.le_refl _, fun b hb hno => ⟨rfl, ?_⟩, fun id r h1 => ⟨?_, (hs.lt h1).1⟩, fun id h1 _ => ?_, Nat.le_refl _, rfl, ⟨rfl, .inl (Nat.le_refl _)⟩, rfl⟩
    · rintro ((h1 | h1) | ⟨id, r, h1, h2⟩)
      · exact hno (.inl (.inl h1))
      · obtain ⟨v, hv⟩ := Option.isSome_iff_exists.1 h1
        rcases hidc b v hv with ⟨h3, _⟩ | h3
        · exact hno (.inr ⟨m, q, hq, h3⟩)
        · exact hno (.inl (.inr (by rw [h3]; rfl)))
      · exact hno (.inr ⟨id, r, (hat id r h1).2, h2⟩)
    · rw [plFold_at]
      split
      · exact .inr rfl
      · exact .inl h1
    · rw [plFold_at]
      split
      · rfl
      · exact h1
  refine ⟨mono, ⟨fun id hid => ?_, fun id o1 hid => ?_, fun id id' r r' b h1 h2 => hs.inj id id' r r' b (hat _ _ h1).2 (hat _ _ h2).2, fun id r b h1 => hs.sep id r b (hat _ _ h1).2, hs.old, fun b v hb => ?_⟩,
    ⟨fr.os, fr.tape, fr.output, fr.size, fr.kept, fun id r b h1 => fr.blk id r b (hat _ _ h1).2, fun b v hb => ?_⟩⟩
  · unfold Heap.set at hid
    split at hid
    · cases hid
    · unfold Heap.del at hid
      rw [plFold_at]
      split
      · rfl
      · rename_i hne; rw [if_neg hne] at hid; exact hs.dom id hid
  · unfold Heap.set at hid
    split at hid
    · rename_i he; subst he; cases hid
      refine ⟨gk, p, by rw [plFold_at, if_neg (Ne.symm hk)]; exact hp, ?_⟩
      refine NstAt.swap mono hpo (fun b i' j' _ hb => hid0 b _ hb) hr hc (fun _ _ _ u _ _ _ hu => ?_)
      have hu : Rel w (ownOf own0 π) π n (.ref m 0 rs.length) u := hu
      show OwnAt _ _ _ _ _ _ _ _ _ _
      generalize hl : rs.length = len at hu
      cases hu with
      | refLive _ _ _ b cap p' hp' hb h1 h2 =>
        rw [hq] at hp'; cases hp'
        refine .inr ⟨q, b, cap, hb, hidb b hb, by rw [Nat.zero_mul, hl], by omega, by omega, ?_⟩
        exact ArrAt.mono mono hqo (fun _ _ => rfl)
      | refEnd => exact .inl ⟨List.length_eq_zero_iff.1 hl, _, rfl⟩
      | refNil => exact .inl ⟨List.length_eq_zero_iff.1 hl, _, rfl⟩
      | refDead _ _ _ _ _ hd _ => rw [hq] at hd; cases hd
    · rename_i hne
      unfold Heap.del at hid
      split at hid
      · cases hid
      · rename_i hne2
        obtain ⟨g1, r, g2, g3⟩ := hs.obj id o1 hid
        exact ⟨g1, r, by rw [plFold_at, if_neg hne2]; exact g2, g3.mono mono (fun _ _ => rfl) (fun b i' j' hb => ⟨rfl, hid0 b _ hb⟩)⟩
  · rcases hidc b v hb with ⟨h3, rfl⟩ | h3
    · refine ⟨hs.sep m q b hq h3, hs.blk_lt hq h3, gk, fun id r h1 h2 => ?_⟩
      exact (hat _ _ h1).1 (hs.inj id m r q b (hat _ _ h1).2 hq h2 h3)
    · obtain ⟨g1, g2, g3, g4⟩ := hs.hid b v h3
      exact ⟨g1, g2, g3, fun id r h1 => g4 id r (hat _ _ h1).2⟩
  · rcases hidc b v hb with ⟨h3, _⟩ | h3
    · exact fr.blk m q b hq h3
    · exact fr.hid b v h3
theorem go_unfold (hs : HSim own0 π h n w) (fr : Fr w0 pass π w) {k i j z y : Nat} {rows rs : List (List AV)} {row : List AV} (ho : h k = some (.arx z rows))
    (hr : rows[i]? = some row) (hc : row[j]? = some (.own y rs)) :
    ∃ π', Go1 w0 pass own0 π n w π' ((h.set k (.arx z (rows.set i (row.set j (.ref n 0 rs.length))))).set n (.arr y rs)) (n + 1) w := by
  obtain ⟨gk, p, hp, hpo⟩ := hs.obj k _ ho
  obtain ⟨bp, u0, hbp, hcell0, hu0⟩ := nst_at hpo hr hc
  have hu0 : OwnAt w (ownOf own0 π) π n k i j y rs u0 := hu0
  obtain ⟨q, hq1, hq2, hq3⟩ : ∃ q : Place, (∀ π' : Pl, Mono own0 π π' n (n + 1) w w → ArrAt w (ownOf own0 π') π' (n + 1) q y rs) ∧
      (∀ b, q.blk = some b → π.hid b = some (k, i, j)) ∧ ∀ π' : Pl, π' n = some q → Rel w (ownOf own0 π') π' (n + 1) (.ref n 0 rs.length) u0 := by
    rcases hu0 with ⟨rfl, ad, rfl⟩ | ⟨q, b, cap, h1, h2, rfl, h4, h5, h6⟩
    · refine ⟨⟨none, y, 0⟩, fun π' m => ⟨rfl, fun i row h => by simp at h, rfl⟩, (fun b hb => by cases hb), fun π' hq => ?_⟩
      exact .refNil n _ ⟨none, y, 0⟩ hq rfl
    · refine ⟨q, fun π' m => h6.mono m (fun _ _ => rfl), fun b' hb' => by rw [h1] at hb'; cases hb'; exact h2, fun π' hq => ?_⟩
      have := Rel.refLive (w := w) (own := ownOf own0 π') (N := n + 1) n 0 rs.length b cap q hq h1 h4 (by omega)
      rwa [Nat.zero_mul] at this
  have hidc : ∀ b v, (plUn π n q).hid b = some v → q.blk ≠ some b ∧ π.hid b = some v := by
    intro b v hb
    rw [plUn_hid] at hb
    split at hb
    · cases hb
    · rename_i h1; exact ⟨h1, hb⟩
  have hid0 : ∀ b v, v ≠ (k, i, j) → π.hid b = some v → (plUn π n q).hid b = some v := by
    intro b v hv hb
    rw [plUn_hid, if_neg, hb]
    intro h1
    have := hq2 b h1
    rw [hb] at this; cases this; exact hv rfl
  have hat : ∀ id r, plUn π n q id = some r → (id = n ∧ r = q) ∨ (id ≠ n ∧ π id = some r) := by
    intro id r h1
    rw [plUn_at] at h1
    split at h1
    · rename_i he; cases h1; exact .inl ⟨he, rfl⟩
    · rename_i he; exact .inr ⟨he, h1⟩
  have hlt : ∀ id r, π id = some r → id ≠ n := fun id r h1 => Nat.ne_of_lt (hs.lt h1).1
  have mono : Mono own0 π (plUn π n q) n (n + 1) w w := by
    refine ⟨Nat.le_refl _, fun b hb hno => ⟨rfl, ?_⟩, fun id r h1 => ⟨?_, (hs.lt h1).1⟩, fun id h1 hl => ?_, Nat.le_succ _, rfl, ⟨rfl, .inl (Nat.le_refl _)⟩, rfl⟩
    · rintro ((h1 | h1) | ⟨id, r, h1, h2⟩)
      · exact hno (.inl (.inl h1))
      · obtain ⟨v, hv⟩ := Option.isSome_iff_exists.1 h1
        exact hno (.inl (.inr (by rw [(hidc b v hv).2]; rfl)))
      · rcases hat id r h1 with ⟨_, rfl⟩ | ⟨_, h3⟩
        · exact hno (.inl (.inr (by rw [hq2 b h2]; rfl)))
        · exact hno (.inr ⟨id, r, h3, h2⟩)
    · rw [plUn_at, if_neg (hlt id r h1)]
      exact .inl h1
    · rw [plUn_at, if_neg (by omega)]
      exact h1
  have hkn : k ≠ n := Nat.ne_of_lt gk
  refine ⟨plUn π n q, mono, ⟨fun id hid => ?_, fun id o1 hid => ?_, fun id id' r r' b h1 h2 h3 h4 => ?_, fun id r b h1 h2 => ?_, hs.old, fun b v hb => ?_⟩,
    ⟨fr.os, fr.tape, fr.output, fr.size, fr.kept, fun id r b h1 h2 => ?_, fun b v hb => fr.hid b v (hidc b v hb).2⟩⟩
  · unfold Heap.set at hid
    split at hid
    · cases hid
    · rename_i hne
      split at hid
      · cases hid
      · rw [plUn_at, if_neg hne]; exact hs.dom id hid
  · unfold Heap.set at hid
    split at hid
    · rename_i he; subst he; cases hid
      exact ⟨Nat.lt_succ_self _, q, by rw [plUn_at, if_pos rfl], hq1 _ mono⟩
    · rename_i hne
      split at hid
      · rename_i he; subst he; cases hid
        refine ⟨Nat.lt_succ_of_lt gk, p, by rw [plUn_at, if_neg hkn]; exact hp, ?_⟩
        refine NstAt.swap mono hpo (fun b i' j' hne' hb => hid0 b _ (by intro hh; cases hh; exact hne' rfl) hb) hr hc (fun b cur e u h1 h2 h3 _ => ?_)
        rw [hbp] at h1; cases h1
        rw [hpo.1, cell_of_row w bp _ cur e (0, 0) h2, h3] at hcell0
        cases hcell0
        exact hq3 _ (by rw [plUn_at, if_pos rfl])
      · rename_i hne2
        obtain ⟨g1, r, g2, g3⟩ := hs.obj id o1 hid
        exact ⟨Nat.lt_succ_of_lt g1, r, by rw [plUn_at, if_neg hne]; exact g2, g3.mono mono (fun _ _ => rfl) (fun b i' j' hb => ⟨rfl, hid0 b _ (by intro hh; cases hh; exact hne2 rfl) hb⟩)⟩
  · rcases hat id r h1 with ⟨rfl, rfl⟩ | ⟨g1, g2⟩
    · rcases hat id' r' h2 with ⟨rfl, rfl⟩ | ⟨g3, g4⟩
      · rfl
      · exact absurd h4 ((hs.hid b _ (hq2 b h3)).2.2.2 id' r' g4)
    · rcases hat id' r' h2 with ⟨rfl, rfl⟩ | ⟨g3, g4⟩
      · exact absurd h3 ((hs.hid b _ (hq2 b h4)).2.2.2 id r g2)
      · exact hs.inj id id' r r' b g2 g4 h3 h4
  · rcases hat id r h1 with ⟨rfl, rfl⟩ | ⟨g1, g2⟩
    · exact (hs.hid b _ (hq2 b h2)).1
    · exact hs.sep id r b g2 h2
  · obtain ⟨h1, h2⟩ := hidc b v hb
    obtain ⟨g1, g2, g3, g4⟩ := hs.hid b v h2
    refine ⟨g1, g2, Nat.lt_succ_of_lt g3, fun id r h5 => ?_⟩
    rcases hat id r h5 with ⟨rfl, rfl⟩ | ⟨g5, g6⟩
    · exact h1
    · exact g4 id r g6
  · rcases hat id r h1 with ⟨rfl, rfl⟩ | ⟨g1, g2⟩
    · exact fr.hid b _ (hq2 b h2)
    · exact fr.blk id r b g2 h2
theorem sealed_seal (hs : HSim own0 π h n w) {k z : Nat} {rows : List (List AV)} {p : Place} (ho : NstAt w (ownOf own0 π) π n k p z rows) (hc : ∀ row ∈ rows, ∀ c ∈ row, c.sealed = true) :
    ∀ (i : Nat) row, rows[i]? = some row → ∀ x ∈ row, x.sld := by
  intro i row hr x hx
  have h1 := hc row (List.mem_of_getElem? hr) x hx
  by_cases hl : x.lone = true
  · cases x <;> simp_all [AV.sld, AV.sealed, AV.lone]
  · cases x <;> simp [AV.lone] at hl
    rename_i y rs
    obtain ⟨j, hj⟩ := List.getElem?_of_mem hx
    obtain ⟨b, u, _, _, hu⟩ := nst_at ho hr hj
    rcases (show OwnAt _ _ _ _ _ _ _ _ _ _ from hu) with ⟨rfl, _⟩ | ⟨_, _, _, _, _, _, _, _, h2⟩
    · simp [AV.sld]
    · intro r hr
      obtain ⟨t, ht⟩ := List.getElem?_of_mem hr
      exact h2.2.1 t r ht
theorem arr_nst {own : Nat → Prop} {k z : Nat} {rows : List (List AV)} {p : Place} (ho : ArrAt w own π n p z rows) : NstAt w own π n k p z rows := by
  obtain ⟨h0, h1, h2⟩ := ho
  refine ⟨h0, fun i row hr => (h1 i row hr).1, ?_⟩
  cases hb : p.blk with
  | none => simpa only [hb] using h2
  | some b =>
    simp only [hb] at h2
    obtain ⟨cur, e, g1, g2, g3, g4, g5⟩ := h2
    refine ⟨cur, e, g1, g2, g3, g4, fun i j row x u a1 a2 a3 => ?_⟩
    have hf := (h1 i row a1).2 x (List.mem_of_getElem? a2)
    exact (cellAt_lone (by cases x <;> simp_all [AV.lone, AV.free])).2 (g5 i j row x u a1 a2 a3)
theorem turn_sim {A : Anch} (t : Turn h n h2 n2) : ∀ {π : Pl}, A.at π n → Sim w0 pass own0 π e h n a w → ∃ π', A.at π' n2 ∧ Sim w0 pass own0 π' e h2 n2 a w := by
  have step : ∀ {π π' : Pl} {h h1 : Heap} {n n1 : Nat}, Go1 w0 pass own0 π n w π' h1 n1 w → A.at π n → Sim w0 pass own0 π e h n a w → A.at π' n1 ∧ Sim w0 pass own0 π' e h1 n1 a w :=
    fun g hA s => ⟨Anch.at_mono hA g.mono, ⟨g.hs, g.fr, fun t => (s.env t).mono g.mono⟩⟩
  induction t with
  | refl h n => exact fun hA s => ⟨_, hA, s⟩
  | fold k m i j z y rows row rs ho hm hk hr len hl hc t ih =>
    intro π hA s
    subst hl
    obtain ⟨hA, s⟩ := step (go_fold s.hs s.fr ho hm hk hr hc) hA s
    exact ih hA s
  | nil k i j z y rows row ho hr hc t ih =>
    intro π hA s
    obtain ⟨hA, s⟩ := step (go_self s.hs s.fr (o' := .arx z (rows.set i (row.set j (.own y [])))) ho fun p hp hpo => NstAt.swap (x' := .own y []) (.refl fun _ _ hp => (s.hs.lt hp).1) hpo (fun b i' j' _ hb => hb) hr hc (fun _ _ _ u _ _ _ hu => by
      have hu : Rel w (ownOf own0 π) π _ .snil u := hu
      cases hu with
      | snil ad => exact .inl ⟨rfl, ad, rfl⟩)) hA s
    exact ih hA s
  | lax k z rows ho t ih =>
    intro π hA s
    rcases ho with ho | ho
    · obtain ⟨hA, s⟩ := step (go_self s.hs s.fr (o' := .arx z rows) ho fun p hp hpo => arr_nst hpo) hA s
      exact ih hA s
    · obtain ⟨hA, s⟩ := step (go_self s.hs s.fr (o' := .arx z rows) ho fun p hp hpo => hpo.1) hA s
      exact ih hA s
  | clos k z rows ho hs t ih =>
    intro π hA s
    obtain ⟨hA, s⟩ := step (go_self s.hs s.fr (o' := .nst z rows) ho fun p hp hpo => ⟨hpo, sealed_seal s.hs hpo hs⟩) hA s
    exact ih hA s
  | unfold k i j z y rows row rs ho hr hc len hl t ih =>
    intro π hA s
    subst hl
    obtain ⟨π', g⟩ := go_unfold s.hs s.fr ho hr hc
    obtain ⟨hA, s⟩ := step g hA s
    exact ih hA s
theorem St.turn {N : Nat} {A : Anch} (t : Turn h n h2 n2) (st : St w0 pass own0 A N e h n a w) : St w0 pass own0 A N e h2 n2 a w := by
  obtain ⟨h1, h3, π, hA, s⟩ := st
  exact ⟨h1, h3, turn_sim t hA s⟩
theorem Turn.trans {h h1 h2 : Heap} {n n1 n2 : Nat} (t : Turn h n h1 n1) (t2 : Turn h1 n1 h2 n2) : Turn h n h2 n2 := by
  induction t with
  | refl => exact t2
  | fold k m i j z y rows row rs ho hm hk hr len hl hc t ih => exact .fold k m i j z y rows row rs ho hm hk hr len hl hc (ih t2)
  | nil k i j z y rows row ho hr hc t ih => exact .nil k i j z y rows row ho hr hc (ih t2)
  | lax k z rows ho t ih => exact .lax k z rows ho (ih t2)
  | clos k z rows ho hs t ih => exact .clos k z rows ho hs (ih t2)
  | unfold k i j z y rows row rs ho hr hc len hl t ih => exact .unfold k i j z y rows row rs ho hr hc len hl (ih t2)
end
section
variable {P : Program} {N k : Nat} {K : XK} {e : Env} {h h2 : Heap} {n n2 : Nat}
theorem Aw.turn {ic : ICode} (t : Turn h n h2 n2) (hw : Aw P N k ic K e h2 n2) : Aw P N k ic K e h n :=
  fun c hc w0 pass own0 A hA a w st => hw c hc w0 pass own0 A hA a w (st.turn t)
theorem Lp.turn {x : ICode} (t : Turn h n h2 n2) (hl : Lp P N k x K e h2 n2) : Lp P N k x K e h n := ⟨Aw.turn t hl.1⟩
end
end Go.Proofs.YthanhknkoikbfaaDoor.Av
namespace Go.Proofs.YthanhknkoikbfaaDoor.Ct
open Go Go.Proofs Go.Proofs.YthanhknkoikbfaaDoor.Av Go.Proofs.YthanhknkoikbfaaDoor.Pl
abbrev StepD := Nat × Int
def stepRow (s : StepD) : List AV := [.int .i64 ((s.1 : Nat) : Int), .int .i64 s.2]
def stepRows (l : List StepD) : List (List AV) := l.map stepRow
@[simp] theorem length_stepRows (l : List StepD) : (stepRows l).length = l.length := by simp [stepRows]
abbrev GraphD := List (List StepD)
def gRow (l : List StepD) : List AV := [.val (stepRows l)]
def gRows (G : GraphD) : List (List AV) := G.map gRow
@[simp] theorem length_gRows (G : GraphD) : (gRows G).length = G.length := by simp [gRows]
def gOwn (l : List StepD) : List AV := [.own 2 (stepRows l)]
def gOwns (G : GraphD) : List (List AV) := G.map gOwn
@[simp] theorem length_gOwns (G : GraphD) : (gOwns G).length = G.length := by simp [gOwns]
def gAdd (G : GraphD) (f t : Nat) (m : Int) : GraphD := G.set f (G.getD f [] ++ [(t, m)])
@[simp] theorem length_gAdd (G : GraphD) (f t : Nat) (m : Int) : (gAdd G f t m).length = G.length := by simp [gAdd]
abbrev Trip := Nat × Nat × Int
def mkG (n : Nat) (l : List Trip) : GraphD := (List.range n).map fun x => (l.filter fun e => e.1 == x).map fun e => e.2
@[simp] theorem length_mkG (n : Nat) (l : List Trip) : (mkG n l).length = n := by simp [mkG]
/-! ### the graph of an automaton -/
theorem edge_in {a : AutoD} (h : AutoOk a) {i : Nat} (hi : i < a.edges.length) : EdgeIn a (a.edges.getD i default) := (h.2.2 i hi).1
/-! ### a graph turned -/
def ways (G : GraphD) (i : Nat) : List Trip := (G.getD i []).map fun s => (s.1, i, s.2)
def allWays (G : GraphD) (i : Nat) : List Trip := (List.range i).flatMap (ways G)
def steps (G : GraphD) : Nat := (allWays G G.length).length
theorem getD_mem' {α : Type} [Inhabited α] {l : List α} {i : Nat} (h : i < l.length) : l.getD i default ∈ l := by
  rw [List.getD_eq_getElem?_getD, List.getElem?_eq_getElem h]
  exact List.getElem_mem h
def EA (a : AutoD) (p q : Nat) : Prop := ∃ e ∈ a.edges, e.src.toNat = p ∧ e.dst.toNat = q
theorem mem_at {a : AutoD} {e : EdgeD} (he : e ∈ a.edges) : ∃ i, i < a.edges.length ∧ a.edges.getD i default = e := by
  obtain ⟨i, hi, rfl⟩ := List.getElem_of_mem he
  exact ⟨i, hi, by rw [List.getD_eq_getElem?_getD, List.getElem?_eq_getElem hi]; rfl⟩
theorem ea_lt {a : AutoD} (h : AutoOk a) {p q : Nat} (ha : EA a p q) : p < a.states.toNat ∧ q < a.states.toNat := by
  obtain ⟨e, he, rfl, rfl⟩ := ha
  obtain ⟨i, hi, rfl⟩ := mem_at he
  have := edge_in h hi
  unfold EdgeIn at this
  omega
abbrev BitP (X : Nat) : Nat → Prop := fun i => X.testBit i = true
abbrev SubB (X Y : Nat) : Prop := ∀ p, BitP X p → BitP Y p
structure Rnd (a : AutoD) (S X Y i : Nat) : Prop where
  lt : Y < 2 ^ 31
  sub : SubB X Y
  rch : ∀ p, BitP Y p → Rch (EA a) (BitP S) p
  got : ∀ j, j < i → j < a.edges.length → BitP X (a.edges.getD j default).src.toNat → BitP Y (a.edges.getD j default).dst.toNat
  cls : (∀ p q, BitP X p → EA a p q → BitP X q) → Y = X
theorem Rnd.no {a : AutoD} {S X Y i : Nat} (h : Rnd a S X Y i) (hb : i < a.edges.length → Y.testBit (a.edges.getD i default).src.toNat = false) : Rnd a S X Y (i + 1) := by
  refine ⟨h.lt, h.sub, h.rch, fun j hj hjl hx => ?_, h.cls⟩
  by_cases hji : j = i
  · subst hji
    have := h.sub _ hx
    rw [show BitP Y (a.edges.getD j default).src.toNat ↔ Y.testBit (a.edges.getD j default).src.toNat = true from Iff.rfl, hb hjl] at this
    cases this
  · exact h.got j (by omega) hjl hx
theorem Rnd.yes {a : AutoD} (ha : AutoOk a) {S X Y i : Nat} (h : Rnd a S X Y i) (hi : i < a.edges.length) (hb : Y.testBit (a.edges.getD i default).src.toNat = true) : Rnd a S X (Y ||| 2 ^ (a.edges.getD i default).dst.toNat) (i + 1) := by
  have he : EA a (a.edges.getD i default).src.toNat (a.edges.getD i default).dst.toNat := ⟨_, getD_mem' hi, rfl, rfl⟩
  have hlt := ea_lt ha he
  have hs := ha.1.2.1
  refine ⟨ins_lt h.lt (by omega), fun p hp => testBit_ins.2 (.inl (h.sub p hp)), fun p hp => ?_, fun j hj hjl hx => ?_, fun hc => ?_⟩
  · rcases testBit_ins.1 hp with h1 | rfl
    · exact h.rch p h1
    · exact .step (h.rch _ hb) he
  · refine testBit_ins.2 ?_
    by_cases hji : j = i
    · subst hji; exact .inr rfl
    · exact .inl (h.got j (by omega) hjl hx)
  · have e := h.cls hc
    subst e
    refine bits_ext fun p => ⟨fun hp => ?_, fun hp => testBit_ins.2 (.inl hp)⟩
    rcases testBit_ins.1 hp with h1 | rfl
    · exact h1
    · exact hc _ _ hb he
theorem Rnd.closed {a : AutoD} {S X i : Nat} (h : Rnd a S X X i) (hi : a.edges.length ≤ i) : ∀ p q, BitP X p → EA a p q → BitP X q := by
  rintro p q hp ⟨e, he, rfl, rfl⟩
  obtain ⟨j, hj, rfl⟩ := mem_at he
  exact h.got j (by omega) hj hp
def natsI (l : List Nat) : List Int := l.map fun n : Nat => (n : Int)
@[simp] theorem length_natsI (l : List Nat) : (natsI l).length = l.length := by simp [natsI]
theorem natsI_app {l : List Nat} {p : Nat} {k : Nat} (hk : k = l.length) : List.take k (ints (natsI l)) ++ [[.int .i64 ((p : Nat) : Int)]] = ints (natsI (l ++ [p])) := by
  subst hk
  rw [List.take_of_length_le (by simp [ints])]
  simp [ints, natsI]
def c_impl_SetList : ICode := (.seq (.reg [Ol 2 .mv [.c .snil]]) (.seq (.seq (.reg [O1 5 .mv 0, O1 6 (.call 42) 5, O1 7 .not 6]) (.cond (.t 7) (.seq (.reg [Ol 2 .mv [.c .snil]]) .ret) .skip)) (.seq (.reg [Ol 3 .mv [.c .snil]]) (.seq (.seq (.reg [Ol 8 .mv [ci 0]]) (.block 0 (.loop (.seq (.reg [Ol 9 (.bin .lss) [.t 8, ci 31]]) (.seq (.cond (.t 9) .skip (.exit 0)) (.seq (.block 1 (.seq (.reg [O1 10 .mv 8, O1 4 .mv 10]) (.seq (.reg [O1 11 .mv 0, O1 12 .mv 4, O2 13 (.call 43) 11 12]) (.cond (.t 13) (.reg [O1 14 .mv 3, O1 15 .mv 4, O1 16 (.bslv 1) 15, O2 17 (.app 1 8) 14 16, O1 3 .mv 17]) .skip)))) (.reg [Ol 18 (.bin .add) [.t 8, ci 1], O1 8 .mv 18]))))))) (.seq (.reg [O1 19 .mv 3, O1 2 .mv 19]) .ret)))))
theorem b_impl_SetList : Body Tryd.prog 22 20 c_impl_SetList [(.t 2)] := body_mk Tryd.func22 (by kernel_rfl) (by decide)
/-! ### those that are so near -/
/-! ### the members of a set, as a list -/
def RSetList (xs : List AV) (r : AV) (objs : List AObj) : Prop := ∃ X : Nat, xs = [.int .i64 ((X : Nat) : Int)] ∧ X < 2 ^ 31 ∧ r = .ref 0 0 (bitL X 31).length ∧ objs = [.arr 1 (ints (natsI (bitL X 31)))]
theorem RSetList_mk {X : Nat} (h : X < 2 ^ 31) : RSetList [.int .i64 ((X : Nat) : Int)] (.ref 0 0 (bitL X 31).length) [.arr 1 (ints (natsI (bitL X 31)))] := ⟨X, rfl, h, rfl, rfl⟩
theorem bitL_yes {X i : Nat} (h : X.testBit i = true) : bitL X (i + 1) = bitL X i ++ [i] := by rw [bitL_succ, if_pos h]
theorem bitL_no {X i : Nat} (h : X.testBit i = false) : bitL X (i + 1) = bitL X i := by rw [bitL_succ, if_neg (by rw [h]; decide), List.append_nil]
theorem s_impl_SetList : PureSound Tryd.prog 22 RSetList := by
  have hR : Rely Tryd.prog (ctxOf [(43, .pure RHas), (42, .pure RSetOk)]) := rely_cons b_impl_has.has s_impl_has (rely_cons b_impl_SetOk.has s_impl_SetOk (rely_nil mixed))
  refine pure_of_aw b_impl_SetList ?_
  rintro xs r objs ⟨X, rfl, hX, rfl, rfl⟩ -
  refine ⟨by simp, vc2_sound hR _ _ _ _ _ ?_⟩
  conv => whnf
  repeat' ((first | contradiction | (refine And.intro (fun hb => ?_) (fun hb => ?_) <;> first | contradiction | ((try simp only [SB, reduceCtorEq] at hb); try (exfalso; first | contradiction | omega))) | refine G2 ?_ | rw [ints_at (by omega)] | rw [ints_at0 (by omega)] | rw [ints_at' (by omega) (by omega)] | refine G1 ?_ | refine ⟨_, _, RSetOk_mk, ?_⟩ | fail) <;> conv => whnf)
  refine Lp.intro (α := Nat) (fun i => i ≤ 31) (fun i => 31 - i) (fun i => [(0, .int .i64 X), (3, .ref 0 0 (bitL X i).length), (8, .int .i64 i)]) (fun i => [some (.arr 1 (ints (natsI (bitL X i))))]) ?_ ?_
  · refine ⟨0, by omega, [none], rfl, rfl, And.intro rfl trivial, ?_⟩
    exact ⟨.inl rfl, ⟨rfl, rfl, rfl⟩, .inl rfl, trivial⟩
  intro i hi
  have hn := bitL_len (X := X) (n := i)
  have hqi := (length_ints (natsI (bitL X i))).trans (length_natsI _)
  refine vc2_sound hR _ _ _ _ _ ?_
  by_cases hlt : i < 31
  · conv => whnf
    repeat' ((first | contradiction | (refine And.intro (fun hb => ?_) (fun hb => ?_) <;> first | contradiction | ((try simp only [SB, reduceCtorEq] at hb); try (exfalso; first | contradiction | omega))) | refine G2 ?_ | rw [ints_at (by omega)] | rw [ints_at0 (by omega)] | rw [ints_at' (by omega) (by omega)] | refine G1 ?_ | refine ⟨_, _, RHas_mk hX (by omega) (by omega), ?_⟩ | fail) <;> conv => whnf)
    · refine ⟨i + 1, by omega, by omega, [some 1], rfl, rfl, And.intro (And.intro rfl ?_) trivial, ?_⟩
      · rw [bitL_yes (by assumption)]; exact natsI_app rfl
      · exact ⟨.inl rfl, congrArg (AV.ref 1 0) (by rw [bitL_yes (by assumption)]; simp), .inl rfl, trivial⟩
    · have e := bitL_no (X := X) (i := i) (by assumption)
      refine ⟨i + 1, by omega, by omega, [some 0], rfl, rfl, And.intro (And.intro rfl ?_) trivial, ?_⟩
      · rw [e]
      · exact ⟨.inl rfl, congrArg (AV.ref 0 0) (by rw [e]), .inl rfl, trivial⟩
  · obtain rfl : i = 31 := by omega
    conv => whnf
    repeat' ((first | contradiction | (refine And.intro (fun hb => ?_) (fun hb => ?_) <;> first | contradiction | ((try simp only [SB, reduceCtorEq] at hb); try (exfalso; first | contradiction | omega))) | refine G2 ?_ | rw [ints_at (by omega)] | rw [ints_at0 (by omega)] | rw [ints_at' (by omega) (by omega)] | refine G1 ?_ | fail) <;> conv => whnf)
    refine ⟨.inl rfl, ?_⟩
    conv => whnf
    exact ⟨[some 0], ⟨rfl, And.intro (And.intro rfl rfl) trivial⟩, rfl, rfl, by simp [AObj.nov, ints_nov]⟩
/-! ### the nearest of a set -/
def c_impl_reader_leaf : ICode := (.reg [O1 6 .mv 0, O1 7 .mv 0, O1 8 .nck 7, O1 9 (.fadr 3) 8, O1 10 .ld1 9, O1 11 .mv 1, O1 12 .mv 2, O2 13 (.bld [(.int .i64 0), (.int .i64 0), (.int .i64 0)] [(0, 1), (1, 1)]) 11 12, O1 14 (.bslv 3) 13, O2 15 (.app 3 24) 10 14, O1 16 .nck 6, O1 17 (.fadr 3) 16, S2 (.st 1) 17 15])
theorem b_impl_reader_leaf : Body Tryd.prog 70 18 c_impl_reader_leaf [] := body_mk Tryd.func70 (by kernel_rfl) (by decide)
def c_impl_reader_one : ICode := (.drw [O1 4 .mv 0, O1 5 .mv 0, O1 6 .nck 5, O1 7 (.fadr 3) 6, O1 8 .ld1 7, O1 9 .mv 1, O1 10 .mv 0, O1 11 .nck 10, O1 12 (.fadr 3) 11, O1 13 .ld1 12, O1 14 .len 13, Ol 15 (.bin .sub) [.t 14, ci 1], O2 16 (.bld [(.int .i64 0), (.int .i64 0), (.int .i64 0)] [(0, 1), (1, 1)]) 9 15, O1 17 (.bslv 3) 16, O2 18 (.app 3 24) 8 17, O1 19 .nck 4, O1 20 (.fadr 3) 19, S2 (.st 1) 20 18] (unB [0, 0, 2, 6, 14, 0, 0, 64, 192, 448, 960, 1984, 4064, 8160, 16382, 32767, 65535, 131071] 0) true true)
theorem b_impl_reader_one : Body Tryd.prog 71 21 c_impl_reader_one [] := body_mk Tryd.func71 (by kernel_rfl) (by decide)
def c_impl_reader_two : ICode := (.drw [O1 6 .mv 0, O1 7 .mv 0, O1 8 .nck 7, O1 9 (.fadr 3) 8, O1 10 .ld1 9, O1 11 .mv 1, O1 12 .mv 2, O1 13 .mv 0, O1 14 .nck 13, O1 15 (.fadr 3) 14, O1 16 .ld1 15, O1 17 .len 16, Ol 18 (.bin .sub) [.t 17, ci 1], O3 19 (.bld [(.int .i64 0), (.int .i64 0), (.int .i64 0)] [(0, 1), (1, 1), (2, 1)]) 11 12 18, O1 20 (.bslv 3) 19, O2 21 (.app 3 24) 10 20, O1 22 .nck 6, O1 23 (.fadr 3) 22, S2 (.st 1) 23 21] (unB [0, 0, 2, 6, 14, 0, 0, 0, 128, 384, 896, 1920, 3968, 8160, 16352, 32766, 65535, 131071, 262143] 0) true true)
theorem b_impl_reader_two : Body Tryd.prog 59 24 c_impl_reader_two [] := body_mk Tryd.func59 (by kernel_rfl) (by decide)
def c_impl_reader_product : ICode := (.seq (.reg [O1 8 .mv 2, Ol 9 .mv [ci 0]]) (.block 0 (.loop (.seq (.reg [O2 10 (.bin .lss) 9 8]) (.seq (.cond (.t 10) .skip (.exit 0)) (.seq (.block 1 (.seq (.reg [O1 11 .mv 9, O1 6 .mv 11]) (.seq (.reg [O1 12 .mv 0, O1 13 .nck 12, O1 14 (.fadr 3) 13, O1 15 .ld1 14, O1 16 .len 15, Ol 17 (.bin .sub) [.t 16, ci 1], O1 7 .mv 17]) (.seq (.reg [O1 18 .mv 0, O1 19 .mv 6, Ol 20 (.call 70) [.t 18, ci 3, .t 19]]) (.seq (.seq (.reg [O1 21 .mv 1, O1 22 .mv 6, O2 23 (.call 43) 21 22, O1 24 .not 23]) (.cond (.t 24) (.reg [O1 25 .mv 0, Ol 26 (.call 71) [.t 25, ci 4]]) .skip)) (.seq (.reg [O1 27 .mv 6, Ol 28 (.bin .gtr) [.t 27, ci 0]]) (.cond (.t 28) (.reg [O1 29 .mv 0, O1 30 .mv 7, Ol 31 (.call 59) [.t 29, ci 5, .t 30]]) .skip))))))) (.reg [Ol 32 (.bin .add) [.t 9, ci 1], O1 9 .mv 32])))))))
theorem b_impl_reader_product : Body Tryd.prog 58 33 c_impl_reader_product [] := body_mk Tryd.func58 (by kernel_rfl) (by decide)
def c_spec_l2Product : ICode := (.seq (.reg [Ol 6 .mv [.c .snil]]) (.seq (.seq (.reg [Ol 7 .mv [ci 0]]) (.block 0 (.loop (.seq (.seq (.reg [O1 9 .mv 7, O1 10 .mv 2, O2 11 (.bin .lss) 9 10]) (.cond (.t 11) .skip (.exit 0))) (.seq (.block 1 (.seq (.reg [O1 14 .mv 0, O1 15 .len 14, Ol 16 (.bin .sub) [.t 15, ci 1], O1 8 .mv 16]) (.seq (.reg [O1 17 .mv 0, O1 18 .mv 7, Ol 19 (.bld [(.int .i64 0), (.int .i64 0), (.int .i64 0)] [(0, 1), (1, 1)]) [ci 3, .t 18], O1 20 (.bslv 3) 19, O2 21 (.app 3 24) 17 20, O1 0 .mv 21]) (.seq (.seq (.reg [O1 22 .mv 1, O1 23 .mv 7, O2 24 (.bin .shr) 22 23, Ol 25 (.bin .and) [.t 24, ci 1], Ol 26 (.bin .eql) [.t 25, ci 0]]) (.cond (.t 26) (.reg [O1 27 .mv 0, O1 28 .mv 0, O1 29 .len 28, Ol 30 (.bin .sub) [.t 29, ci 1], Ol 31 (.bld [(.int .i64 0), (.int .i64 0), (.int .i64 0)] [(0, 1), (1, 1)]) [ci 4, .t 30], O1 32 (.bslv 3) 31, O2 33 (.app 3 24) 27 32, O1 0 .mv 33]) .skip)) (.seq (.reg [O1 34 .mv 7, Ol 35 (.bin .gtr) [.t 34, ci 0]]) (.cond (.t 35) (.reg [O1 36 .mv 0, O1 37 .mv 8, O1 38 .mv 0, O1 39 .len 38, Ol 40 (.bin .sub) [.t 39, ci 1], Ol 41 (.bld [(.int .i64 0), (.int .i64 0), (.int .i64 0)] [(0, 1), (1, 1), (2, 1)]) [ci 5, .t 37, .t 40], O1 42 (.bslv 3) 41, O2 43 (.app 3 24) 36 42, O1 0 .mv 43]) .skip)))))) (.reg [O1 12 .mv 7, Ol 13 (.bin .add) [.t 12, ci 1], O1 7 .mv 13])))))) (.seq (.reg [O1 44 .mv 0, O1 6 .mv 44]) .ret)))
theorem b_spec_l2Product : Body Tryd.prog 33 45 c_spec_l2Product [(.t 6)] := body_mk Tryd.func33 (by kernel_rfl) (by decide)
abbrev rdO (s : List UInt8) (p : Nat) (c : Int) (k n : Nat) : AObj := .box [.str s, .int .i64 p, .int .i64 c, .ref k 0 n, .fnil]
theorem node_app {l : List NodeD} {k a b : Int} : List.take l.length (nodeRows l) ++ [[.int .i64 k, .int .i64 a, .int .i64 b]] = nodeRows (l ++ [⟨k, a, b⟩]) := by
  rw [List.take_of_length_le (by rw [length_nodeRows]; exact Nat.le_refl _)]
  simp [nodeRows, nodeRow]
def GNode (xs0 : List AV) (f : List NodeD → NodeD) : GFun := fun xs objs Q => ∃ (s : List UInt8) (p : Nat) (c : Int) (l : List NodeD), xs = .ptr 0 0 0 :: xs0 ∧ objs = [rdO s p c 1 l.length, .arr 3 (nodeRows l)] ∧ l.length ≤ 1000 ∧
  Q (.tup []) [some (rdO s p c 2 (l ++ [f l]).length), none, some (.arr 3 (nodeRows (l ++ [f l])))]
theorem GNode_mk {xs0 : List AV} {f : List NodeD → NodeD} {s : List UInt8} {p : Nat} {c : Int} {l : List NodeD} {Q : AV → List (Option AObj) → Prop} (h1 : l.length ≤ 1000)
    (hq : Q (.tup []) [some (rdO s p c 2 (l ++ [f l]).length), none, some (.arr 3 (nodeRows (l ++ [f l])))]) : GNode xs0 f (.ptr 0 0 0 :: xs0) [rdO s p c 1 l.length, .arr 3 (nodeRows l)] Q := ⟨s, p, c, l, rfl, rfl, h1, hq⟩
def GLeaf : GFun := fun xs objs Q => ∃ k a, GNode [.int .i64 k, .int .i64 a] (fun _ => ⟨k, a, 0⟩) xs objs Q
def GOne : GFun := fun xs objs Q => ∃ k, GNode [.int .i64 k] (fun l => ⟨k, (l.length : Int) - 1, 0⟩) xs objs Q
def GTwo : GFun := fun xs objs Q => ∃ k f, GNode [.int .i64 k, .int .i64 f] (fun l => ⟨k, f, (l.length : Int) - 1⟩) xs objs Q
set_option maxHeartbeats 1000000 in
theorem s_impl_read_leaf : GenSound Tryd.prog 70 2 GLeaf := by
  have hR : Rely Tryd.prog (ctxOf []) := rely_nil mixed
  refine gen_of_aw b_impl_reader_leaf ?_
  rintro xs objs Q - ⟨k, a, s, p, c, l, rfl, rfl, hl, hq⟩ -
  have hln := length_nodeRows l
  refine ⟨by simp, vc2_sound hR _ _ _ _ _ ?_⟩
  conv => whnf
  repeat' ((first | (refine And.intro (fun hb => ?_) (fun hb => ?_) <;> ((try simp only [SB, reduceCtorEq] at hb); try (exfalso; omega))) | refine G2 ?_ | rw [ints_at (by omega)] | rw [ints_at0 (by omega)] | rw [ints_at' (by omega) (by omega)] | refine G1 ?_ | fail) <;> conv => whnf)
  refine ⟨.inr rfl, ?_⟩
  conv => whnf
  refine ⟨[some 0, none, some 2], .tup [], [some (rdO s p c 2 (l ++ [NodeD.mk k a 0]).length), none, some (.arr 3 (nodeRows (l ++ [NodeD.mk k a 0])))], ⟨rfl, And.intro (And.intro (.inl rfl) (And.intro (.inl rfl) (And.intro (.inl rfl) (And.intro ?_ (And.intro (.inl rfl) trivial))))) (And.intro (And.intro rfl node_app) trivial)⟩, trivial, rfl, hq⟩
  exact congrArg (AV.ref 2 0) (by simp)
set_option maxHeartbeats 1000000 in
theorem s_impl_read_one : GenSound Tryd.prog 71 2 GOne := by
  have hR : Rely Tryd.prog (ctxOf []) := rely_nil mixed
  refine gen_of_aw b_impl_reader_one ?_
  rintro xs objs Q - ⟨k, s, p, c, l, rfl, rfl, hl, hq⟩ -
  have hln := length_nodeRows l
  refine ⟨by simp, vc2_sound hR _ _ _ _ _ ?_⟩
  conv => whnf
  repeat' ((first | (refine And.intro (fun hb => ?_) (fun hb => ?_) <;> ((try simp only [SB, reduceCtorEq] at hb); try (exfalso; omega))) | refine G2 ?_ | rw [ints_at (by omega)] | rw [ints_at0 (by omega)] | rw [ints_at' (by omega) (by omega)] | refine G1 ?_ | fail) <;> conv => whnf)
  refine ⟨.inr rfl, ?_⟩
  conv => whnf
  refine ⟨[some 0, none, some 2], .tup [], [some (rdO s p c 2 (l ++ [NodeD.mk k ((l.length : Int) - 1) 0]).length), none, some (.arr 3 (nodeRows (l ++ [NodeD.mk k ((l.length : Int) - 1) 0])))], ⟨rfl, And.intro (And.intro (.inl rfl) (And.intro (.inl rfl) (And.intro (.inl rfl) (And.intro ?_ (And.intro (.inl rfl) trivial))))) (And.intro (And.intro rfl node_app) trivial)⟩, trivial, rfl, hq⟩
  exact congrArg (AV.ref 2 0) (by simp)
set_option maxHeartbeats 1000000 in
theorem s_impl_read_two : GenSound Tryd.prog 59 2 GTwo := by
  have hR : Rely Tryd.prog (ctxOf []) := rely_nil mixed
  refine gen_of_aw b_impl_reader_two ?_
  rintro xs objs Q - ⟨k, f, s, p, c, l, rfl, rfl, hl, hq⟩ -
  have hln := length_nodeRows l
  refine ⟨by simp, vc2_sound hR _ _ _ _ _ ?_⟩
  conv => whnf
  repeat' ((first | (refine And.intro (fun hb => ?_) (fun hb => ?_) <;> ((try simp only [SB, reduceCtorEq] at hb); try (exfalso; omega))) | refine G2 ?_ | rw [ints_at (by omega)] | rw [ints_at0 (by omega)] | rw [ints_at' (by omega) (by omega)] | refine G1 ?_ | fail) <;> conv => whnf)
  refine ⟨.inr rfl, ?_⟩
  conv => whnf
  refine ⟨[some 0, none, some 2], .tup [], [some (rdO s p c 2 (l ++ [NodeD.mk k f ((l.length : Int) - 1)]).length), none, some (.arr 3 (nodeRows (l ++ [NodeD.mk k f ((l.length : Int) - 1)])))], ⟨rfl, And.intro (And.intro (.inl rfl) (And.intro (.inl rfl) (And.intro (.inl rfl) (And.intro ?_ (And.intro (.inl rfl) trivial))))) (And.intro (And.intro rfl node_app) trivial)⟩, trivial, rfl, hq⟩
  exact congrArg (AV.ref 2 0) (by simp)
theorem GOne_mk {s : List UInt8} {p : Nat} {c k : Int} {l : List NodeD} {Q : AV → List (Option AObj) → Prop} (h1 : l.length ≤ 1000)
    (hq : Q (.tup []) [some (rdO s p c 2 (l ++ [NodeD.mk k ((l.length : Int) - 1) 0]).length), none, some (.arr 3 (nodeRows (l ++ [NodeD.mk k ((l.length : Int) - 1) 0])))]) : GOne [.ptr 0 0 0, .int .i64 k] [rdO s p c 1 l.length, .arr 3 (nodeRows l)] Q := ⟨k, GNode_mk (f := fun l => ⟨k, (l.length : Int) - 1, 0⟩) h1 hq⟩
theorem GTwo_mk {s : List UInt8} {p : Nat} {c k f : Int} {l : List NodeD} {Q : AV → List (Option AObj) → Prop} (h1 : l.length ≤ 1000)
    (hq : Q (.tup []) [some (rdO s p c 2 (l ++ [NodeD.mk k f ((l.length : Int) - 1)]).length), none, some (.arr 3 (nodeRows (l ++ [NodeD.mk k f ((l.length : Int) - 1)])))]) : GTwo [.ptr 0 0 0, .int .i64 k, .int .i64 f] [rdO s p c 1 l.length, .arr 3 (nodeRows l)] Q := ⟨k, f, GNode_mk (f := fun l => ⟨k, f, (l.length : Int) - 1⟩) h1 hq⟩
theorem GLeaf_mk {s : List UInt8} {p : Nat} {c k a : Int} {l : List NodeD} {Q : AV → List (Option AObj) → Prop} (h1 : l.length ≤ 1000)
    (hq : Q (.tup []) [some (rdO s p c 2 (l ++ [NodeD.mk k a 0]).length), none, some (.arr 3 (nodeRows (l ++ [NodeD.mk k a 0])))]) : GLeaf [.ptr 0 0 0, .int .i64 k, .int .i64 a] [rdO s p c 1 l.length, .arr 3 (nodeRows l)] Q := ⟨k, a, GNode_mk (f := fun _ => ⟨k, a, 0⟩) h1 hq⟩
def prodS (x i : Nat) (l : List NodeD) : List NodeD :=
  let l1 := l ++ [⟨3, ((i : Nat) : Int), 0⟩]
  let l2 := if x.testBit i = true then l1 else l1 ++ [⟨4, (l1.length : Int) - 1, 0⟩]
  if i = 0 then l2 else l2 ++ [⟨5, (l.length : Int) - 1, (l2.length : Int) - 1⟩]
def prodN (x : Nat) : Nat → List NodeD
  | 0 => []
  | i + 1 => prodS x i (prodN x i)
theorem prodN_len (x : Nat) : ∀ i, (prodN x i).length ≤ 3 * i
  | 0 => by simp [prodN]
  | i + 1 => by
    have := prodN_len x i
    simp only [prodN, prodS]
    (repeat' split) <;> simp <;> omega
theorem shr_one {X : Nat} {i : Nat} (hX : X ≤ 1000) (h1 : i ≤ 62) :
    IntKind.i64.wrap (BitVec.ofInt IntKind.i64.bits (((X : Nat) : Int).fdiv (2 ^ (Nat.min ((i : Nat) : Int).toNat IntKind.i64.bits))) &&& BitVec.ofInt IntKind.i64.bits 1).toNat = if X.testBit i = true then 1 else 0 := by
  have hb := shr_bit (X := X) (i := ((i : Nat) : Int)) (by omega) (by omega) (by omega)
  have hm : Nat.min ((i : Nat) : Int).toNat IntKind.i64.bits = i := Nat.min_eq_left (show ((i : Nat) : Int).toNat ≤ 64 by omega)
  have hd : ((X : Nat) : Int).fdiv (2 ^ i) = ((X / 2 ^ i : Nat) : Int) := by
    rw [← natPow, Int.fdiv_eq_ediv_of_nonneg _ (Int.natCast_nonneg _), Int.natCast_ediv]
  have hle : X / 2 ^ i ≤ X := Nat.div_le_self _ _
  have hv : IntKind.i64.wrap (BitVec.ofInt IntKind.i64.bits (((X : Nat) : Int).fdiv (2 ^ (Nat.min ((i : Nat) : Int).toNat IntKind.i64.bits))) &&& BitVec.ofInt IntKind.i64.bits 1).toNat = ((X / 2 ^ i % 2 : Nat) : Int) := by
    rw [hm, hd, and_val (Int.natCast_nonneg _) (by omega) (by decide) (by decide), Int.toNat_natCast, show (1 : Int).toNat = 1 from rfl, Nat.and_one_is_mod]
  rw [hv] at hb ⊢
  rw [Int.toNat_natCast] at hb
  have := Nat.mod_lt (X / 2 ^ i) (show 0 < 2 by decide)
  cases hbit : X.testBit i with
  | true =>
    rw [hbit, beq_iff_eq] at hb
    rw [if_pos rfl]; omega
  | false =>
    rw [hbit, beq_eq_false_iff_ne] at hb
    rw [if_neg (by decide)]; omega
theorem RHas_v {xs : List AV} {X v : Nat} (hx : xs = [.int .i64 ((X : Nat) : Int), .int .i64 ((v : Nat) : Int)]) (h : X < 2 ^ 31) (h1 : v ≤ 30) : RHas xs (.bool (X.testBit v)) [] := ⟨X, v, hx, h, by omega, by omega, by rw [Int.toNat_natCast], rfl⟩
def prO (x : Nat) : Nat → List (Option AObj)
  | 0 => [some (rdO [] 0 0 1 0), some (.arr 3 (nodeRows []))]
  | i + 1 => [some (rdO [] 0 0 2 (prodN x (i + 1)).length), none, some (.arr 3 (nodeRows (prodN x (i + 1))))]
def GProd : GFun := fun xs objs Q => ∃ x p : Nat, xs = [.ptr 0 0 0, .int .i64 ((x : Nat) : Int), .int .i64 ((p : Nat) : Int)] ∧ objs = [rdO [] 0 0 1 0, .arr 3 (nodeRows [])] ∧ x < 8 ∧ 1 ≤ p ∧ p ≤ 3 ∧
  Q (.tup []) [some (rdO [] 0 0 2 (prodN x p).length), none, some (.arr 3 (nodeRows (prodN x p)))]
theorem GProd_mk {x p : Nat} {Q : AV → List (Option AObj) → Prop} (h : x < 8) (h1 : 1 ≤ p) (h2 : p ≤ 3) (hq : Q (.tup []) [some (rdO [] 0 0 2 (prodN x p).length), none, some (.arr 3 (nodeRows (prodN x p)))]) :
    GProd [.ptr 0 0 0, .int .i64 ((x : Nat) : Int), .int .i64 ((p : Nat) : Int)] [rdO [] 0 0 1 0, .arr 3 (nodeRows [])] Q := ⟨x, p, rfl, rfl, h, h1, h2, hq⟩
set_option maxHeartbeats 4000000 in
theorem s_impl_product : GenSound Tryd.prog 58 2 GProd := by
  have hR : Rely Tryd.prog (ctxOf [(70, .gen 2 GLeaf), (71, .gen 2 GOne), (59, .gen 2 GTwo), (43, .pure RHas)]) :=
    rely_cons b_impl_reader_leaf.has s_impl_read_leaf (rely_cons b_impl_reader_one.has s_impl_read_one (rely_cons b_impl_reader_two.has s_impl_read_two (rely_cons b_impl_has.has s_impl_has (rely_nil mixed))))
  refine gen_of_aw b_impl_reader_product ?_
  rintro xs objs Q - ⟨x, p, rfl, rfl, hx, hp1, hp3, hq⟩ -
  refine ⟨by simp, vc2_sound hR _ _ _ _ _ ?_⟩
  conv => whnf
  repeat' ((first | (refine And.intro (fun hb => ?_) (fun hb => ?_) <;> ((try simp only [SB, reduceCtorEq] at hb); try (exfalso; omega))) | refine G2 ?_ | rw [ints_at (by omega)] | rw [ints_at0 (by omega)] | rw [ints_at' (by omega) (by omega)] | refine G1 ?_ | fail) <;> conv => whnf)
  refine Lp.intro (α := Nat) (fun i => i ≤ p) (fun i => p - i) (fun i => [(0, .ptr 0 0 0), (1, .int .i64 ((x : Nat) : Int)), (8, .int .i64 ((p : Nat) : Int)), (9, .int .i64 ((i : Nat) : Int))]) (prO x) ?_ ?_
  · refine ⟨0, Nat.zero_le _, [some 0, some 1], rfl, rfl, And.intro ⟨.inl rfl, .inl rfl, .inl rfl, rfl, .inl rfl, trivial⟩ (And.intro ⟨rfl, rfl⟩ trivial), ⟨rfl, .inl rfl, .inl rfl, .inl rfl, trivial⟩⟩
  intro i hi
  refine vc2_sound hR _ _ _ _ _ ?_
  by_cases hlt : i < p
  · have hbt : ∀ xs, xs = [.int .i64 ((x : Nat) : Int), .int .i64 ((i : Nat) : Int)] → RHas xs (.bool (x.testBit i)) [] := fun xs h => RHas_v (X := x) (v := i) h (by omega) (by omega)
    have hl := prodN_len x i
    cases hb2 : x.testBit i with
    | true =>
      rw [hb2] at hbt
      cases i with
      | zero =>
        have hs : prodN x 1 = [] ++ [NodeD.mk 3 ((0 : Nat) : Int) 0] := by simp [prodN, prodS, hb2]
        rw [show prO x 0 = [some (rdO [] 0 0 1 0), some (.arr 3 (nodeRows []))] from rfl]
        conv => whnf
        repeat' ((first | (refine And.intro (fun hb => ?_) (fun hb => ?_) <;> ((try simp only [SB, reduceCtorEq] at hb); try (exfalso; omega))) | refine G2 ?_ | rw [ints_at (by omega)] | rw [ints_at0 (by omega)] | rw [ints_at' (by omega) (by omega)] | refine G1 ?_ | refine ⟨GLeaf_mk (l := []) (by decide) ?_⟩ | refine ⟨_, _, hbt _ rfl, ?_⟩ | fail) <;> conv => whnf)
        refine ⟨0 + 1, hlt, by omega, [some 0, none, some 2], ?_⟩
        change CovN _ _ _ _ [some (rdO [] 0 0 2 (prodN x (0 + 1)).length), none, some (.arr 3 (nodeRows (prodN x (0 + 1))))] 2
        exact ⟨rfl, rfl, And.intro ⟨.inl rfl, .inl rfl, .inl rfl, congrArg (fun l : List NodeD => AV.ref 2 0 l.length) hs.symm, .inl rfl, trivial⟩ (And.intro ⟨rfl, congrArg nodeRows hs.symm⟩ trivial), ⟨rfl, .inl rfl, .inl rfl, .inl rfl, trivial⟩⟩
      | succ i =>
        have hs : prodN x (i + 1 + 1) = (prodN x (i + 1) ++ [NodeD.mk 3 ((i + 1 : Nat) : Int) 0]) ++ [⟨5, ((prodN x (i + 1)).length : Int) - 1, ((prodN x (i + 1) ++ [NodeD.mk 3 ((i + 1 : Nat) : Int) 0]).length : Int) - 1⟩] := by
          rw [prodN, prodS]; simp [hb2]
        rw [show prO x (i + 1) = [some (rdO [] 0 0 2 (prodN x (i + 1)).length), none, some (.arr 3 (nodeRows (prodN x (i + 1))))] from rfl]
        generalize prodN x (i + 1) = l at hl hs ⊢
        conv => whnf
        repeat' ((first | (refine And.intro (fun hb => ?_) (fun hb => ?_) <;> ((try simp only [SB, reduceCtorEq] at hb); try (exfalso; omega))) | refine G2 ?_ | rw [ints_at (by omega)] | rw [ints_at0 (by omega)] | rw [ints_at' (by omega) (by omega)] | refine G1 ?_ | refine ⟨GLeaf_mk (l := l) (by omega) ?_⟩ | (refine ⟨GTwo_mk (l := l ++ [NodeD.mk 3 ((i + 1 : Nat) : Int) 0]) (by simp; omega) ?_⟩) | refine ⟨_, _, hbt _ rfl, ?_⟩ | fail) <;> conv => whnf)
        refine ⟨i + 1 + 1, hlt, by omega, [some 0, none, some 4], ?_⟩
        change CovN _ _ _ _ [some (rdO [] 0 0 2 (prodN x (i + 1 + 1)).length), none, some (.arr 3 (nodeRows (prodN x (i + 1 + 1))))] 2
        exact ⟨rfl, rfl, And.intro ⟨.inl rfl, .inl rfl, .inl rfl, congrArg (fun l : List NodeD => AV.ref 4 0 l.length) hs.symm, .inl rfl, trivial⟩ (And.intro ⟨rfl, congrArg nodeRows hs.symm⟩ trivial), ⟨rfl, .inl rfl, .inl rfl, .inl rfl, trivial⟩⟩
    | false =>
      rw [hb2] at hbt
      cases i with
      | zero =>
        have hs : prodN x 1 = ([] ++ [NodeD.mk 3 ((0 : Nat) : Int) 0]) ++ [NodeD.mk 4 ((([] ++ [NodeD.mk 3 ((0 : Nat) : Int) 0] : List NodeD).length : Int) - 1) 0] := by simp [prodN, prodS, hb2]
        rw [show prO x 0 = [some (rdO [] 0 0 1 0), some (.arr 3 (nodeRows []))] from rfl]
        conv => whnf
        repeat' ((first | (refine And.intro (fun hb => ?_) (fun hb => ?_) <;> ((try simp only [SB, reduceCtorEq] at hb); try (exfalso; omega))) | refine G2 ?_ | rw [ints_at (by omega)] | rw [ints_at0 (by omega)] | rw [ints_at' (by omega) (by omega)] | refine G1 ?_ | refine ⟨GLeaf_mk (l := []) (by decide) ?_⟩ | refine ⟨GOne_mk (l := [] ++ [NodeD.mk 3 ((0 : Nat) : Int) 0]) (by simp) ?_⟩ | refine ⟨_, _, hbt _ rfl, ?_⟩ | fail) <;> conv => whnf)
        refine ⟨0 + 1, hlt, by omega, [some 0, none, some 3], ?_⟩
        change CovN _ _ _ _ [some (rdO [] 0 0 2 (prodN x (0 + 1)).length), none, some (.arr 3 (nodeRows (prodN x (0 + 1))))] 2
        exact ⟨rfl, rfl, And.intro ⟨.inl rfl, .inl rfl, .inl rfl, congrArg (fun l : List NodeD => AV.ref 3 0 l.length) hs.symm, .inl rfl, trivial⟩ (And.intro ⟨rfl, congrArg nodeRows hs.symm⟩ trivial), ⟨rfl, .inl rfl, .inl rfl, .inl rfl, trivial⟩⟩
      | succ i =>
        have hs : prodN x (i + 1 + 1) = ((prodN x (i + 1) ++ [NodeD.mk 3 ((i + 1 : Nat) : Int) 0]) ++ [NodeD.mk 4 (((prodN x (i + 1) ++ [NodeD.mk 3 ((i + 1 : Nat) : Int) 0]).length : Int) - 1) 0]) ++ [⟨5, ((prodN x (i + 1)).length : Int) - 1, (((prodN x (i + 1) ++ [NodeD.mk 3 ((i + 1 : Nat) : Int) 0]) ++ [NodeD.mk 4 (((prodN x (i + 1) ++ [NodeD.mk 3 ((i + 1 : Nat) : Int) 0]).length : Int) - 1) 0]).length : Int) - 1⟩] := by
          rw [prodN, prodS]; simp [hb2]
        rw [show prO x (i + 1) = [some (rdO [] 0 0 2 (prodN x (i + 1)).length), none, some (.arr 3 (nodeRows (prodN x (i + 1))))] from rfl]
        generalize prodN x (i + 1) = l at hl hs ⊢
        conv => whnf
        repeat' ((first | (refine And.intro (fun hb => ?_) (fun hb => ?_) <;> ((try simp only [SB, reduceCtorEq] at hb); try (exfalso; omega))) | refine G2 ?_ | rw [ints_at (by omega)] | rw [ints_at0 (by omega)] | rw [ints_at' (by omega) (by omega)] | refine G1 ?_ | refine ⟨GLeaf_mk (l := l) (by omega) ?_⟩ | (refine ⟨GOne_mk (l := l ++ [NodeD.mk 3 ((i + 1 : Nat) : Int) 0]) (by simp; omega) ?_⟩) | (refine ⟨GTwo_mk (l := (l ++ [NodeD.mk 3 ((i + 1 : Nat) : Int) 0]) ++ [NodeD.mk 4 (((l ++ [NodeD.mk 3 ((i + 1 : Nat) : Int) 0]).length : Int) - 1) 0]) (by simp; omega) ?_⟩) | refine ⟨_, _, hbt _ rfl, ?_⟩ | fail) <;> conv => whnf)
        refine ⟨i + 1 + 1, hlt, by omega, [some 0, none, some 5], ?_⟩
        change CovN _ _ _ _ [some (rdO [] 0 0 2 (prodN x (i + 1 + 1)).length), none, some (.arr 3 (nodeRows (prodN x (i + 1 + 1))))] 2
        exact ⟨rfl, rfl, And.intro ⟨.inl rfl, .inl rfl, .inl rfl, congrArg (fun l : List NodeD => AV.ref 5 0 l.length) hs.symm, .inl rfl, trivial⟩ (And.intro ⟨rfl, congrArg nodeRows hs.symm⟩ trivial), ⟨rfl, .inl rfl, .inl rfl, .inl rfl, trivial⟩⟩
  · obtain rfl : i = p := by omega
    obtain ⟨j, rfl⟩ : ∃ j, i = j + 1 := ⟨i - 1, by omega⟩
    unfold prO
    conv => whnf
    repeat' ((first | (refine And.intro (fun hb => ?_) (fun hb => ?_) <;> ((try simp only [SB, reduceCtorEq] at hb); try (exfalso; omega))) | refine G2 ?_ | rw [ints_at (by omega)] | rw [ints_at0 (by omega)] | rw [ints_at' (by omega) (by omega)] | refine G1 ?_ | fail) <;> conv => whnf)
    refine ⟨.inr rfl, ?_⟩
    conv => whnf
    exact ⟨[some 0, none, some 2], .tup [], [some (rdO [] 0 0 2 (prodN x (j + 1)).length), none, some (.arr 3 (nodeRows (prodN x (j + 1))))], ⟨rfl, And.intro ⟨.inl rfl, .inl rfl, .inl rfl, rfl, .inl rfl, trivial⟩ (And.intro ⟨rfl, rfl⟩ trivial)⟩, trivial, rfl, hq⟩
theorem nodeRows_nov (l : List NodeD) : (nodeRows l).all AV.novs = true := by simp [nodeRows, nodeRow, AV.novs, AV.nov]
theorem nrow_take {l : List NodeD} {n : Nat} (h : n = l.length) : List.take n (nodeRows l) = nodeRows l := by
  rw [List.take_of_length_le (by rw [length_nodeRows]; omega)]
theorem nrow_app {l : List NodeD} {n : Nat} (h : n = l.length) {k a b : Int} : List.take n (nodeRows l) ++ [[.int .i64 k, .int .i64 a, .int .i64 b]] = nodeRows (l ++ [⟨k, a, b⟩]) := by
  rw [nrow_take h]
  simp [nodeRows, nodeRow]
theorem shr_oneT {X : Nat} {i : Nat} {b : Bool} (hX : X ≤ 1000) (h1 : i ≤ 62) (hb : X.testBit i = b) :
    IntKind.i64.wrap (BitVec.ofInt IntKind.i64.bits (((X : Nat) : Int).fdiv (2 ^ (Nat.min ((i : Nat) : Int).toNat IntKind.i64.bits))) &&& BitVec.ofInt IntKind.i64.bits 1).toNat = bif b then 1 else 0 := by
  rw [shr_one hX h1, hb]
  cases b <;> rfl
def GProdS : GFun := fun xs objs Q => ∃ x p : Nat, xs = [.snil, .int .i64 ((x : Nat) : Int), .int .i64 ((p : Nat) : Int)] ∧ objs = [] ∧ x < 8 ∧ p ≤ 3 ∧ Q (.ref 0 0 (prodN x p).length) [some (.arr 3 (nodeRows (prodN x p)))]
theorem GProdS_mk {x p : Nat} {Q : AV → List (Option AObj) → Prop} (h : x < 8) (h1 : p ≤ 3) (hq : Q (.ref 0 0 (prodN x p).length) [some (.arr 3 (nodeRows (prodN x p)))]) : GProdS [.snil, .int .i64 ((x : Nat) : Int), .int .i64 ((p : Nat) : Int)] [] Q := ⟨x, p, rfl, rfl, h, h1, hq⟩
set_option maxHeartbeats 4000000 in
theorem s_spec_l2Product : GenSound Tryd.prog 33 0 GProdS := by
  have hR : Rely Tryd.prog (ctxOf []) := rely_nil mixed
  refine gen_of_aw b_spec_l2Product ?_
  rintro xs objs Q - ⟨x, p, rfl, rfl, hx, hp3, hq⟩ -
  refine ⟨by simp, vc2_sound hR _ _ _ _ _ ?_⟩
  conv => whnf
  repeat' ((first | (refine And.intro (fun hb => ?_) (fun hb => ?_) <;> ((try simp only [SB, reduceCtorEq] at hb); try (exfalso; omega))) | refine G2 ?_ | rw [ints_at (by omega)] | rw [ints_at0 (by omega)] | rw [ints_at' (by omega) (by omega)] | refine G1 ?_ | fail) <;> conv => whnf)
  refine Lp.intro (α := Nat) (fun i => i ≤ p) (fun i => p - i) (fun i => [(0, .ref 0 0 (prodN x i).length), (1, .int .i64 ((x : Nat) : Int)), (2, .int .i64 ((p : Nat) : Int)), (7, .int .i64 ((i : Nat) : Int))]) (fun i => [some (.arr 3 (nodeRows (prodN x i)))]) ?_ ?_
  · refine ⟨0, Nat.zero_le _, [none], rfl, rfl, And.intro rfl trivial, ?_⟩
    exact ⟨⟨rfl, rfl, rfl⟩, .inl rfl, .inl rfl, .inl rfl, trivial⟩
  intro i hi
  have hl := prodN_len x i
  have hln := length_nodeRows (prodN x i)
  refine vc2_sound hR _ _ _ _ _ ?_
  by_cases hlt : i < p
  · have hb2 := shr_oneT (X := x) (i := i) (b := x.testBit i) (by omega) (by omega) rfl
    cases hb : x.testBit i with
    | true =>
      rw [hb, cond_true] at hb2
      cases i with
      | zero =>
        have hs : prodN x 1 = prodN x 0 ++ [⟨3, ((0 : Nat) : Int), 0⟩] := by simp [prodN, prodS, hb]
        conv => whnf
        repeat' ((first | contradiction | (refine And.intro (fun hb => ?_) (fun hb => ?_) <;> first | contradiction | ((try simp only [SB, reduceCtorEq] at hb); try (exfalso; first | contradiction | omega))) | rw [hb2] | refine G2 ?_ | rw [ints_at (by omega)] | rw [ints_at0 (by omega)] | rw [ints_at' (by omega) (by omega)] | refine G1 ?_ | (refine ⟨_, IntWalk.i64_in _ (by simp only [List.length_cons, List.length_nil]; omega), ?_⟩) | (refine And.intro (by simp only [List.length_append, List.length_take, length_nodeRows, List.length_cons, List.length_nil]; omega) ?_) | fail) <;> conv => whnf)
        refine ⟨0 + 1, hlt, by omega, [some 1], rfl, rfl, And.intro (And.intro rfl ?_) trivial, ?_⟩
        · rw [hs]; exact nrow_app rfl
        · exact ⟨congrArg (AV.ref 1 0) (by rw [hs]; simp), .inl rfl, .inl rfl, .inl rfl, trivial⟩
      | succ i =>
        have hs : prodN x (i + 1 + 1) = (prodN x (i + 1) ++ [NodeD.mk 3 ((i + 1 : Nat) : Int) 0]) ++ [NodeD.mk 5 (((prodN x (i + 1)).length : Int) - 1) (((prodN x (i + 1) ++ [NodeD.mk 3 ((i + 1 : Nat) : Int) 0]).length : Int) - 1)] := by
          rw [prodN, prodS]; simp [hb]
        conv => whnf
        repeat' ((first | contradiction | (refine And.intro (fun hb => ?_) (fun hb => ?_) <;> first | contradiction | ((try simp only [SB, reduceCtorEq] at hb); try (exfalso; first | contradiction | omega))) | rw [hb2] | refine G2 ?_ | rw [ints_at (by omega)] | rw [ints_at0 (by omega)] | rw [ints_at' (by omega) (by omega)] | refine G1 ?_ | (refine ⟨_, IntWalk.i64_in _ (by simp only [List.length_cons, List.length_nil]; omega), ?_⟩) | (refine And.intro (by simp only [List.length_append, List.length_take, length_nodeRows, List.length_cons, List.length_nil]; omega) ?_) | fail) <;> conv => whnf)
        refine ⟨i + 1 + 1, hlt, by omega, [some 2], rfl, rfl, And.intro (And.intro rfl ?_) trivial, ?_⟩
        · rw [hs, ← nrow_app (l := prodN x (i + 1) ++ [NodeD.mk 3 ((i + 1 : Nat) : Int) 0]) rfl, ← nrow_app (l := prodN x (i + 1)) rfl]
          simp
        · exact ⟨congrArg (AV.ref 2 0) (by rw [hs]; simp), .inl rfl, .inl rfl, .inl rfl, trivial⟩
    | false =>
      rw [hb, cond_false] at hb2
      cases i with
      | zero =>
        have hs : prodN x 1 = (prodN x 0 ++ [NodeD.mk 3 ((0 : Nat) : Int) 0]) ++ [NodeD.mk 4 (((prodN x 0 ++ [NodeD.mk 3 ((0 : Nat) : Int) 0] : List NodeD).length : Int) - 1) 0] := by simp [prodN, prodS, hb]
        conv => whnf
        repeat' ((first | contradiction | (refine And.intro (fun hb => ?_) (fun hb => ?_) <;> first | contradiction | ((try simp only [SB, reduceCtorEq] at hb); try (exfalso; first | contradiction | omega))) | rw [hb2] | refine G2 ?_ | rw [ints_at (by omega)] | rw [ints_at0 (by omega)] | rw [ints_at' (by omega) (by omega)] | refine G1 ?_ | (refine ⟨_, IntWalk.i64_in _ (by simp only [List.length_cons, List.length_nil]; omega), ?_⟩) | (refine And.intro (by simp only [List.length_append, List.length_take, length_nodeRows, List.length_cons, List.length_nil]; omega) ?_) | fail) <;> conv => whnf)
        refine ⟨0 + 1, hlt, by omega, [some 2], rfl, rfl, And.intro (And.intro rfl ?_) trivial, ?_⟩
        · rw [hs]; simp [prodN, nodeRows, nodeRow]
        · exact ⟨congrArg (AV.ref 2 0) (by rw [hs]; simp), .inl rfl, .inl rfl, .inl rfl, trivial⟩
      | succ i =>
        have hs : prodN x (i + 1 + 1) = ((prodN x (i + 1) ++ [NodeD.mk 3 ((i + 1 : Nat) : Int) 0]) ++ [NodeD.mk 4 (((prodN x (i + 1) ++ [NodeD.mk 3 ((i + 1 : Nat) : Int) 0]).length : Int) - 1) 0]) ++ [NodeD.mk 5 (((prodN x (i + 1)).length : Int) - 1) ((((prodN x (i + 1) ++ [NodeD.mk 3 ((i + 1 : Nat) : Int) 0]) ++ [NodeD.mk 4 (((prodN x (i + 1) ++ [NodeD.mk 3 ((i + 1 : Nat) : Int) 0]).length : Int) - 1) 0]).length : Int) - 1)] := by
          rw [prodN, prodS]; simp [hb]
        conv => whnf
        repeat' ((first | contradiction | (refine And.intro (fun hb => ?_) (fun hb => ?_) <;> first | contradiction | ((try simp only [SB, reduceCtorEq] at hb); try (exfalso; first | contradiction | omega))) | rw [hb2] | refine G2 ?_ | rw [ints_at (by omega)] | rw [ints_at0 (by omega)] | rw [ints_at' (by omega) (by omega)] | refine G1 ?_ | (refine ⟨_, IntWalk.i64_in _ (by simp only [List.length_cons, List.length_nil]; omega), ?_⟩) | (refine And.intro (by simp only [List.length_append, List.length_take, length_nodeRows, List.length_cons, List.length_nil]; omega) ?_) | fail) <;> conv => whnf)
        refine ⟨i + 1 + 1, hlt, by omega, [some 3], rfl, rfl, And.intro (And.intro rfl ?_) trivial, ?_⟩
        · rw [hs]; simp [nodeRows, nodeRow, List.take_of_length_le]; omega
        · exact ⟨congrArg (AV.ref 3 0) (by rw [hs]; simp), .inl rfl, .inl rfl, .inl rfl, trivial⟩
  · obtain rfl : i = p := by omega
    conv => whnf
    repeat' ((first | (refine And.intro (fun hb => ?_) (fun hb => ?_) <;> ((try simp only [SB, reduceCtorEq] at hb); try (exfalso; omega))) | refine G2 ?_ | rw [ints_at (by omega)] | rw [ints_at0 (by omega)] | rw [ints_at' (by omega) (by omega)] | refine G1 ?_ | fail) <;> conv => whnf)
    refine ⟨.inl rfl, ?_⟩
    conv => whnf
    exact ⟨[some 0], .ref 0 0 (prodN x i).length, [some (.arr 3 (nodeRows (prodN x i)))], ⟨rfl, And.intro (And.intro rfl rfl) trivial⟩, rfl, rfl, hq⟩
def c_impl_isProps : ICode := (.seq (.reg [Ol 2 .mv [cb false]]) (.seq (.reg [O1 3 .mv 0, Ol 4 (.call 39) [.t 3, ci 0, ci 3], O1 2 .mv 4]) .ret))
theorem b_impl_isProps : Body Tryd.prog 57 5 c_impl_isProps [(.t 2)] := body_mk Tryd.func57 (by kernel_rfl) (by decide)
def c_spec_ExprOf : ICode := (.seq (.reg [Ol 4 .mv [.c .snil], Ol 5 .mv [cb false]]) (.seq (.reg [O0 11 .bsle, O1 6 .mv 11]) (.seq (.seq (.reg [O1 12 .mv 1, Ol 13 (.call 27) [.t 12, ci 0, ci 3], O1 14 .not 13]) (.cond (.t 14) (.seq (.reg [O1 15 .mv 6, O1 4 .mv 15, Ol 5 .mv [cb false]]) .ret) .skip)) (.seq (.reg [O1 16 .mv 1, Ol 17 (.bin .shl) [.c (.int .u64 1), .t 16], Ol 18 (.bin .shl) [ci 1, .t 17], Ol 19 (.bin .sub) [.t 18, ci 1], O1 7 .mv 19]) (.seq (.block 0 (.seq (.reg [O1 21 .mv 0, O1 22 (.call 32) 21, O1 23 .not 22, O1 24 .mv 23, Og 25 .mv [.t 0] 24 false, Og 26 .mv [.t 7] 24 false, Og 27 (.call 28) [.t 25, .t 26] 24 false, Og 28 .not [.t 27] 24 false, Ol 29 .pick [.t 24, cb true, .t 28], O1 20 .mv 29]) (.cond (.t 20) (.seq (.reg [O1 30 .mv 6, O1 4 .mv 30, Ol 5 .mv [cb false]]) .ret) (.seq (.reg [O1 32 .mv 0, Ol 33 (.bin .eql) [.t 32, ci 0], O1 31 .mv 33]) (.cond (.t 31) (.seq (.reg [Ol 34 (.bld [(.int .i64 0), (.int .i64 0), (.int .i64 0)] [(0, 1)]) [ci 2], O1 35 (.bsl 3) 34, O1 4 .mv 35, Ol 5 .mv [cb true]]) .ret) (.seq (.reg [O1 37 .mv 0, O1 38 .mv 7, O2 39 (.bin .eql) 37 38, O1 36 .mv 39]) (.cond (.t 36) (.seq (.reg [Ol 40 (.bld [(.int .i64 0), (.int .i64 0), (.int .i64 0)] [(0, 1)]) [ci 1], O1 41 (.bsl 3) 40, O1 4 .mv 41, Ol 5 .mv [cb true]]) .ret) .skip))))))) (.seq (.reg [O0 42 .bsle, O1 8 .mv 42]) (.seq (.seq (.reg [Ol 9 .mv [ci 0]]) (.block 1 (.loop (.seq (.seq (.reg [O1 43 .mv 9, O1 44 .mv 1, Ol 45 (.bin .shl) [ci 1, .t 44], O2 46 (.bin .lss) 43 45]) (.cond (.t 46) .skip (.exit 1))) (.seq (.block 2 (.seq (.seq (.reg [O1 49 .mv 0, O1 50 .mv 9, O2 51 (.call 13) 49 50, O1 52 .not 51]) (.cond (.t 52) (.exit 2) .skip)) (.seq (.reg [O1 53 .mv 8, O1 54 .len 53, Ol 55 (.bin .sub) [.t 54, ci 1], O1 10 .mv 55]) (.seq (.reg [O1 56 .mv 8, O1 57 .mv 9, O1 58 .mv 1, O3 59 (.call 33) 56 57 58, O1 8 .mv 59]) (.seq (.reg [O1 60 .mv 10, Ol 61 (.bin .geq) [.t 60, ci 0]]) (.cond (.t 61) (.reg [O1 62 .mv 8, O1 63 .mv 10, O1 64 .mv 8, O1 65 .len 64, Ol 66 (.bin .sub) [.t 65, ci 1], Ol 67 (.bld [(.int .i64 0), (.int .i64 0), (.int .i64 0)] [(0, 1), (1, 1), (2, 1)]) [ci 6, .t 63, .t 66], O1 68 (.bslv 3) 67, O2 69 (.app 3 24) 62 68, O1 8 .mv 69]) .skip)))))) (.reg [O1 47 .mv 9, Ol 48 (.bin .add) [.t 47, ci 1], O1 9 .mv 48])))))) (.seq (.seq (.reg [O1 70 .mv 8, O1 71 .len 70, Ol 72 (.bin .gtr) [.t 71, ci 31]]) (.cond (.t 72) (.seq (.reg [O1 73 .mv 6, O1 4 .mv 73, Ol 5 .mv [cb false]]) .ret) .skip)) (.seq (.reg [O1 74 .mv 8, O1 4 .mv 74, Ol 5 .mv [cb true]]) .ret)))))))))
theorem b_spec_ExprOf : Body Tryd.prog 15 75 c_spec_ExprOf [(.t 4), (.t 5)] := body_mk Tryd.func15 (by kernel_rfl) (by decide)
def c_impl_ExprOf : ICode := (.seq (.reg [Ol 4 .mv [.c .snil], Ol 5 .mv [cb false]]) (.seq (.seq (.reg [O1 10 .mv 1, O1 11 (.call 57) 10, O1 12 .not 11, O1 13 .mv 12, Og 14 .mv [.t 0] 13 false, Og 15 (.call 42) [.t 14] 13 false, Og 16 .not [.t 15] 13 false, Ol 17 .pick [.t 13, cb true, .t 16], O1 18 .mv 17, Og 19 .mv [.t 0] 18 false, Og 20 .mv [.t 1] 18 false, Og 21 (.call 37) [.t 20] 18 false, Og 22 (.call 37) [.t 21] 18 false, Og 23 (.bin .geq) [.t 19, .t 22] 18 false, Ol 24 .pick [.t 18, cb true, .t 23]]) (.cond (.t 24) (.seq (.reg [Ol 4 .mv [.c .snil], Ol 5 .mv [cb false]]) .ret) .skip)) (.seq (.seq (.reg [O1 25 .mv 0]) (.block 0 (.seq (.reg [Ol 27 (.bin .eql) [.t 25, ci 0], O1 26 .mv 27]) (.cond (.t 26) (.seq (.reg [Ol 28 (.bld [(.int .i64 0), (.int .i64 0), (.int .i64 0)] [(0, 1)]) [ci 2], O1 29 (.bsl 3) 28, O1 4 .mv 29, Ol 5 .mv [cb true]]) .ret) (.seq (.reg [O1 31 .mv 1, O1 32 (.call 37) 31, O1 33 (.call 37) 32, Ol 34 (.bin .sub) [.t 33, ci 1], O2 35 (.bin .eql) 25 34, O1 30 .mv 35]) (.cond (.t 30) (.seq (.reg [Ol 36 (.bld [(.int .i64 0), (.int .i64 0), (.int .i64 0)] [(0, 1)]) [ci 1], O1 37 (.bsl 3) 36, O1 4 .mv 37, Ol 5 .mv [cb true]]) .ret) .skip)))))) (.seq (.reg [O0 38 (.bld [(.str []), (.int .i64 0), (.int .i64 0), .snil, .fnil] []), O1 39 (.box 5) 38, O1 6 .mv 39]) (.seq (.seq (.reg [O1 40 .mv 0, O1 41 (.call 22) 40, O1 42 .len 41, Ol 43 .mv [ci 0]]) (.block 1 (.loop (.seq (.reg [O2 44 (.bin .lss) 43 42]) (.seq (.cond (.t 44) .skip (.exit 1)) (.seq (.block 2 (.seq (.reg [O1 45 .mv 43, O2 46 (.iadr 1) 41 43, O1 47 .ld1 46, O1 7 .mv 45, O1 8 .mv 47]) (.seq (.reg [O1 48 .mv 6, O1 49 .nck 48, O1 50 (.fadr 3) 49, O1 51 .ld1 50, O1 52 .len 51, Ol 53 (.bin .sub) [.t 52, ci 1], O1 9 .mv 53]) (.seq (.reg [O1 54 .mv 6, O1 55 .mv 8, O1 56 .mv 1, O3 57 (.call 58) 54 55 56]) (.seq (.reg [O1 58 .mv 7, Ol 59 (.bin .gtr) [.t 58, ci 0]]) (.cond (.t 59) (.reg [O1 60 .mv 6, O1 61 .mv 9, Ol 62 (.call 59) [.t 60, ci 6, .t 61]]) .skip)))))) (.reg [Ol 63 (.bin .add) [.t 43, ci 1], O1 43 .mv 63]))))))) (.seq (.seq (.reg [O1 64 .mv 6, O1 65 .nck 64, O1 66 (.fadr 3) 65, O1 67 .ld1 66, O1 68 .len 67, Ol 69 (.bin .gtr) [.t 68, ci 31]]) (.cond (.t 69) (.seq (.reg [Ol 4 .mv [.c .snil], Ol 5 .mv [cb false]]) .ret) .skip)) (.seq (.reg [O1 70 .mv 6, O1 71 .nck 70, O1 72 (.fadr 3) 71, O1 73 .ld1 72, O1 4 .mv 73, Ol 5 .mv [cb true]]) .ret)))))))
theorem b_impl_ExprOf : Body Tryd.prog 44 74 c_impl_ExprOf [(.t 4), (.t 5)] := body_mk Tryd.func44 (by kernel_rfl) (by decide)
def labN (x p : Nat) : List NodeD := if p = 0 then [⟨1, 0, 0⟩] else prodN x p
def RLab (xs : List AV) (r : AV) (objs : List AObj) : Prop := ∃ x p : Nat, xs = [.int .i64 ((2 ^ x : Nat) : Int), .int .i64 ((p : Nat) : Int)] ∧ p ≤ 3 ∧ x < 2 ^ p ∧ r = .tup [.ref 0 0 (labN x p).length, .bool true] ∧ objs = [.arr 3 (nodeRows (labN x p))]
theorem RLab_is {xs : List AV} {x p : Nat} (hx : xs = [.int .i64 ((2 ^ x : Nat) : Int), .int .i64 ((p : Nat) : Int)]) (hp : p ≤ 3) (h : x < 2 ^ p) : RLab xs (.tup [.ref 0 0 (labN x p).length, .bool true]) [.arr 3 (nodeRows (labN x p))] := ⟨x, p, hx, hp, h, rfl, rfl⟩
theorem setP : ∀ p, p ≤ 3 → ∀ x, x < 2 ^ p → x < 8 ∧ 1 ≤ 2 ^ x ∧ 2 ^ x < 2 ^ (2 ^ p) ∧ (1 ≤ p → 2 ^ x ≠ 2 ^ (2 ^ p) - 1) ∧ 2 ^ p ≤ 8 ∧ 2 ^ (2 ^ p) ≤ 256 := by decide
theorem RIn_p {p : Nat} (h : p ≤ 3) : RIn [.int .i64 ((p : Nat) : Int), .int .i64 0, .int .i64 3] (.bool true) [] := ⟨_, _, _, rfl, by rw [decide_eq_true]; omega, rfl⟩
def RProps (xs : List AV) (r : AV) (objs : List AObj) : Prop := ∃ p : Nat, xs = [.int .i64 ((p : Nat) : Int)] ∧ p ≤ 3 ∧ r = .bool true ∧ objs = []
theorem s_impl_isProps : PureSound Tryd.prog 57 RProps := by
  have hR : Rely Tryd.prog (ctxOf [(39, .pure RIn)]) := rely_cons b_impl_inRange.has s_impl_inRange (rely_nil mixed)
  refine pure_of_aw b_impl_isProps ?_
  rintro xs r objs ⟨p, rfl, hp, rfl, rfl⟩ -
  refine ⟨by simp, vc2_sound hR _ _ _ _ _ ?_⟩
  conv => whnf
  repeat' ((first | (refine And.intro (fun hb => ?_) (fun hb => ?_) <;> ((try simp only [SB, reduceCtorEq] at hb); try (exfalso; omega))) | refine G2 ?_ | rw [ints_at (by omega)] | rw [ints_at0 (by omega)] | rw [ints_at' (by omega) (by omega)] | refine G1 ?_ | refine ⟨_, _, RIn_p hp, ?_⟩ | fail) <;> conv => whnf)
  refine ⟨.inl rfl, ?_⟩
  conv => whnf
  refine ⟨[], ⟨rfl, trivial⟩, ?_, rfl, rfl⟩
  conv => whnf
  left
  conv => lhs; whnf
theorem RBit_v {i v : Nat} (h : i ≤ 30) (hv : v = 2 ^ i) : RBit [.int .i64 ((i : Nat) : Int)] (.int .i64 ((v : Nat) : Int)) [] := ⟨i, rfl, by omega, by omega, by rw [hv, Int.toNat_natCast], rfl⟩
theorem RSetOk_t {s : Int} (h : 0 ≤ s ∧ s ≤ 2147483647) : RSetOk [.int .i64 s] (.bool true) [] := ⟨s, rfl, by rw [decide_eq_true h], rfl⟩
theorem bitL_pow {x : Nat} (h : x < 31) : bitL (2 ^ x) 31 = [x] := by
  have : ∀ y, y < 31 → bitL (2 ^ y) 31 = [y] := by decide
  exact this x h
theorem RSetList_v {X x : Nat} (hX : X = 2 ^ x) (h : x < 8) : RSetList [.int .i64 ((X : Nat) : Int)] (.ref 0 0 1) [.arr 1 (ints [((x : Nat) : Int)])] :=
  ⟨X, rfl, by subst hX; exact Nat.pow_lt_pow_right (by decide) (by omega), by subst hX; rw [bitL_pow (by omega)]; rfl, by subst hX; rw [bitL_pow (by omega)]; rfl⟩
set_option maxHeartbeats 4000000 in
theorem s_impl_ExprOf : PureSound Tryd.prog 44 RLab := by
  have hR : Rely Tryd.prog (ctxOf [(57, .pure RProps), (42, .pure RSetOk), (37, .pure RBit), (22, .pure RSetList), (58, .gen 2 GProd)]) :=
    rely_cons b_impl_isProps.has s_impl_isProps (rely_cons b_impl_SetOk.has s_impl_SetOk (rely_cons b_impl_only.has s_impl_onlyB (rely_cons b_impl_SetList.has s_impl_SetList (rely_cons b_impl_reader_product.has s_impl_product (rely_nil mixed)))))
  refine pure_of_aw b_impl_ExprOf ?_
  rintro xs r objs ⟨x, p, rfl, hp, hx, rfl, rfl⟩ -
  obtain ⟨hx8, h1, h2, h3, h4, h5⟩ := setP p hp x hx
  obtain ⟨P, hP⟩ : ∃ P, P = 2 ^ p := ⟨_, rfl⟩
  obtain ⟨PP, hPP⟩ : ∃ PP, PP = 2 ^ P := ⟨_, rfl⟩
  obtain ⟨X, hX⟩ : ∃ X, X = 2 ^ x := ⟨_, rfl⟩
  rw [← hX] at h1 h2 h3 ⊢
  rw [← hP, ← hPP] at h2 h3 h5
  rw [← hP] at h4
  refine ⟨by simp, vc2_sound hR _ _ _ _ _ ?_⟩
  cases p with
  | zero =>
    have e1 : P = 1 := hP
    have e2 : PP = 2 := by rw [hPP, e1]
    have e3 : X = 1 := by omega
    subst e1; subst e2; subst e3
    conv => whnf
    repeat' ((first | (refine And.intro (fun hb => ?_) (fun hb => ?_) <;> ((try simp only [SB, reduceCtorEq] at hb); try (exfalso; omega))) | refine G2 ?_ | rw [ints_at (by omega)] | rw [ints_at0 (by omega)] | rw [ints_at' (by omega) (by omega)] | refine G1 ?_ | refine ⟨_, _, (⟨0, rfl, by decide, rfl, rfl⟩ : RProps [.int .i64 0] (.bool true) []), ?_⟩ | refine ⟨_, _, RSetOk_t (s := 1) (by omega), ?_⟩ | refine ⟨_, _, RBit_v (i := 0) (v := 1) (by decide) rfl, ?_⟩ | refine ⟨_, _, RBit_v (i := 1) (v := 2) (by decide) rfl, ?_⟩ | fail) <;> conv => whnf)
    refine ⟨.inl rfl, ?_⟩
    conv => whnf
    exact ⟨[some 0], ⟨rfl, And.intro (And.intro rfl rfl) trivial⟩, And.intro rfl (And.intro (.inl rfl) trivial), rfl, by simp [AObj.nov, nodeRows_nov]⟩
  | succ p =>
    have h3' := h3 (by omega)
    have hlN : labN x (p + 1) = prodN x (p + 1) := by unfold labN; rw [if_neg (by omega)]
    rw [hlN]
    have hl := prodN_len x (p + 1)
    have hln := length_nodeRows (prodN x (p + 1))
    generalize hN : prodN x (p + 1) = l at hl hln ⊢
    conv => whnf
    repeat' ((first | contradiction | (refine And.intro (fun hb => ?_) (fun hb => ?_) <;> first | contradiction | ((try simp only [SB, reduceCtorEq] at hb); try (exfalso; first | contradiction | omega))) | refine G2 ?_ | rw [ints_at (by omega)] | rw [ints_at0 (by omega)] | rw [ints_at' (by omega) (by omega)] | refine G1 ?_ | refine ⟨_, _, (⟨p + 1, rfl, hp, rfl, rfl⟩ : RProps [.int .i64 ((p + 1 : Nat) : Int)] (.bool true) []), ?_⟩ | refine ⟨_, _, RSetOk_t (s := ((X : Nat) : Int)) (by omega), ?_⟩ | refine ⟨_, _, RBit_v (i := p + 1) (v := P) (by omega) hP, ?_⟩ | refine ⟨_, _, RBit_v (i := P) (v := PP) (by omega) hPP, ?_⟩ | refine ⟨_, _, RSetList_v (x := x) hX hx8, ?_⟩ | fail) <;> conv => whnf)
    refine Lp.intro (α := Nat) (fun i => i ≤ 1) (fun i => 1 - i) (fun i => [(1, .int .i64 ((p + 1 : Nat) : Int)), (6, .ptr 0 0 0), (41, .ref 2 0 1), (42, .int .i64 1), (43, .int .i64 ((i : Nat) : Int))])
      (fun i => match i with
        | 0 => [some (rdO [] 0 0 1 0), some (.arr 3 (nodeRows [])), some (.arr 1 (ints [((x : Nat) : Int)]))]
        | _ + 1 => [some (rdO [] 0 0 1 l.length), some (.arr 3 (nodeRows l)), some (.arr 1 (ints [((x : Nat) : Int)]))]) ?_ ?_
    · refine ⟨0, Nat.zero_le _, [some 0, none, some 1], rfl, rfl, And.intro ⟨.inl rfl, .inl rfl, .inl rfl, ⟨rfl, rfl, rfl⟩, .inl rfl, trivial⟩ (And.intro rfl (And.intro (And.intro rfl rfl) trivial)), ?_⟩
      exact ⟨.inl rfl, rfl, rfl, .inl rfl, .inl rfl, trivial⟩
    intro i hi
    refine vc2_sound hR _ _ _ _ _ ?_
    match i, hi with
    | 0, _ =>
      conv => whnf
      repeat' ((first | contradiction | (refine And.intro (fun hb => ?_) (fun hb => ?_) <;> first | contradiction | ((try simp only [SB, reduceCtorEq] at hb); try (exfalso; first | contradiction | omega))) | refine G2 ?_ | rw [ints_at (by omega)] | rw [ints_at0 (by omega)] | rw [ints_at' (by omega) (by omega)] | refine G1 ?_ | refine ⟨GProd_mk (x := x) (p := p + 1) (by omega) (by omega) (by omega) ?_⟩ | fail) <;> conv => whnf)
      refine ⟨0 + 1, Nat.le_refl _, by omega, [some 0, some 3, some 2], ?_⟩
      rw [hN]
      change CovN _ _ _ _ [some (rdO [] 0 0 1 l.length), some (.arr 3 (nodeRows l)), some (.arr 1 (ints [((x : Nat) : Int)]))] _
      exact ⟨rfl, rfl, And.intro ⟨.inl rfl, .inl rfl, .inl rfl, rfl, .inl rfl, trivial⟩ (And.intro (And.intro rfl rfl) (And.intro (And.intro rfl rfl) trivial)), ⟨.inl rfl, rfl, rfl, .inl rfl, .inl rfl, trivial⟩⟩
    | 1, _ =>
      conv => whnf
      repeat' ((first | contradiction | (refine And.intro (fun hb => ?_) (fun hb => ?_) <;> first | contradiction | ((try simp only [SB, reduceCtorEq] at hb); try (exfalso; first | contradiction | omega))) | refine G2 ?_ | rw [ints_at (by omega)] | rw [ints_at0 (by omega)] | rw [ints_at' (by omega) (by omega)] | refine G1 ?_ | fail) <;> conv => whnf)
      refine ⟨.inl rfl, ?_⟩
      conv => whnf
      exact ⟨[some 1], ⟨rfl, And.intro (And.intro rfl rfl) trivial⟩, And.intro rfl (And.intro (.inl rfl) trivial), rfl, by simp [AObj.nov, nodeRows_nov]⟩
theorem shl2 {p P PP : Nat} (hp : p ≤ 3) (hP : P = 2 ^ p) (hPP : PP = 2 ^ P) :
    IntKind.i64.wrap (IntKind.i64.wrap (1 * 2 ^ (IntKind.u64.wrap (1 * 2 ^ (((p : Nat) : Int).toNat.min IntKind.u64.bits))).toNat.min IntKind.i64.bits) - 1) = ((PP : Nat) : Int) - 1 := by
  subst hP
  subst hPP
  match p, hp with
  | 0, _ => decide
  | 1, _ => decide
  | 2, _ => decide
  | 3, _ => decide
theorem shl1 {p P : Nat} (hp : p ≤ 3) (hP : P = 2 ^ p) : IntKind.i64.wrap (1 * 2 ^ (((p : Nat) : Int).toNat.min IntKind.i64.bits)) = ((P : Nat) : Int) := by
  subst hP
  match p, hp with
  | 0, _ => decide
  | 1, _ => decide
  | 2, _ => decide
  | 3, _ => decide
theorem RSetIn_v {X P PP : Nat} (h : PP = 2 ^ P) (h1 : P ≤ 30) (h2 : X < PP) : RSetIn [.int .i64 ((X : Nat) : Int), .int .i64 (((PP : Nat) : Int) - 1)] (.bool true) [] := by
  have h3 : PP ≤ 2 ^ 30 := by rw [h]; exact Nat.pow_le_pow_right (by decide) h1
  have h4 : (2 : Int) ^ P = ((PP : Nat) : Int) := by rw [h, natPow]
  refine ⟨X, P, by rw [Int.toNat_natCast, h4], by omega, by omega, ?_, rfl⟩
  rw [Int.toNat_natCast, h4, decide_eq_true]
  omega
theorem bit_pow {X x i : Nat} (hX : X = 2 ^ x) : X.testBit i = decide (x = i) := by rw [hX, Nat.testBit_two_pow]
set_option maxHeartbeats 4000000 in
theorem s_spec_ExprOf : PureSound Tryd.prog 15 RLab := by
  have hR : Rely Tryd.prog (ctxOf [(27, .pure RIn), (32, .pure RSetOk), (28, .pure RSetIn), (13, .pure RHas), (33, .gen 0 GProdS)]) :=
    rely_cons b_spec_l1In.has s_spec_l1In (rely_cons b_spec_SetOk.has s_spec_SetOk (rely_cons b_spec_SetIn.has s_spec_SetIn (rely_cons b_spec_l1Has.has s_spec_l1Has (rely_cons b_spec_l2Product.has s_spec_l2Product (rely_nil mixed)))))
  refine pure_of_aw b_spec_ExprOf ?_
  rintro xs r objs ⟨x, p, rfl, hp, hx, rfl, rfl⟩ -
  obtain ⟨hx8, h1, h2, h3, h4, h5⟩ := setP p hp x hx
  obtain ⟨P, hP⟩ : ∃ P, P = 2 ^ p := ⟨_, rfl⟩
  obtain ⟨PP, hPP⟩ : ∃ PP, PP = 2 ^ P := ⟨_, rfl⟩
  obtain ⟨X, hX⟩ : ∃ X, X = 2 ^ x := ⟨_, rfl⟩
  rw [← hX] at h1 h2 h3 ⊢
  rw [← hP, ← hPP] at h2 h3 h5
  rw [← hP] at h4
  refine ⟨by simp, vc2_sound hR _ _ _ _ _ ?_⟩
  cases p with
  | zero =>
    have e1 : P = 1 := hP
    have e2 : PP = 2 := by rw [hPP, e1]
    have e3 : X = 1 := by omega
    have e4 := shl2 (p := 0) (by decide) hP hPP
    conv => whnf
    repeat' ((first | contradiction | (refine And.intro (fun hb => ?_) (fun hb => ?_) <;> first | contradiction | ((try simp only [SB, reduceCtorEq] at hb); try (exfalso; first | contradiction | omega))) | refine G2 ?_ | rw [ints_at (by omega)] | rw [ints_at0 (by omega)] | rw [ints_at' (by omega) (by omega)] | refine G1 ?_ | refine ⟨_, e4, ?_⟩ | refine ⟨_, _, RIn_p (p := 0) (by decide), ?_⟩ | refine ⟨_, _, RSetOk_t (s := ((X : Nat) : Int)) (by omega), ?_⟩ | refine ⟨_, _, RSetIn_v hPP (by omega) (by omega), ?_⟩ | fail) <;> conv => whnf)
    refine ⟨.inl rfl, ?_⟩
    conv => whnf
    exact ⟨[some 0], ⟨rfl, And.intro (And.intro rfl rfl) trivial⟩, And.intro rfl (And.intro (.inl rfl) trivial), rfl, by simp [AObj.nov, nodeRows_nov]⟩
  | succ p =>
    have h3' := h3 (by omega)
    have hlN : labN x (p + 1) = prodN x (p + 1) := by unfold labN; rw [if_neg (by omega)]
    rw [hlN]
    have hl := prodN_len x (p + 1)
    have hln := length_nodeRows (prodN x (p + 1))
    generalize hN : prodN x (p + 1) = l at hl hln ⊢
    have e4 := shl2 hp hP hPP
    have e5 := shl1 hp hP
    conv => whnf
    repeat' ((first | contradiction | (refine And.intro (fun hb => ?_) (fun hb => ?_) <;> first | contradiction | ((try simp only [SB, reduceCtorEq] at hb); try (exfalso; first | contradiction | omega))) | refine G2 ?_ | rw [ints_at (by omega)] | rw [ints_at0 (by omega)] | rw [ints_at' (by omega) (by omega)] | refine G1 ?_ | refine ⟨_, e4, ?_⟩ | refine ⟨_, _, RIn_p (p := p + 1) hp, ?_⟩ | refine ⟨_, _, RSetOk_t (s := ((X : Nat) : Int)) (by omega), ?_⟩ | refine ⟨_, _, RSetIn_v hPP (by omega) (by omega), ?_⟩ | fail) <;> conv => whnf)
    refine Lp.intro (α := Nat × Bool) (fun a => a.1 ≤ P ∧ a.2 = decide (x < a.1)) (fun a => P - a.1) (fun a => [(1, .int .i64 ((p + 1 : Nat) : Int)), (0, .int .i64 ((X : Nat) : Int)), (8, bif a.2 then .ref 0 0 l.length else .snil), (9, .int .i64 ((a.1 : Nat) : Int))])
      (fun a => bif a.2 then [some (.arr 3 (nodeRows l))] else []) ?_ ?_
    · refine ⟨(0, false), ⟨Nat.zero_le _, (decide_eq_false (Nat.not_lt_zero _)).symm⟩, [], rfl, rfl, trivial, ?_⟩
      exact ⟨.inl rfl, .inl rfl, .inl rfl, .inl rfl, trivial⟩
    rintro ⟨i, b⟩ ⟨hi, hb⟩
    dsimp only at hi hb ⊢
    have hbx := bit_pow (i := i) hX
    have hh : ∀ xs, xs = [.int .i64 ((X : Nat) : Int), .int .i64 ((i : Nat) : Int)] → i < 8 → RHas xs (.bool (decide (x = i))) [] := fun xs h h' => by rw [← hbx]; exact RHas_v h (by omega) (by omega)
    by_cases hlt : i < P
    · by_cases hix : x = i
      · subst hix
        have hbf : b = false := by rw [hb]; exact decide_eq_false (Nat.lt_irrefl _)
        subst hbf
        simp only [cond_false]
        refine vc2_sound hR _ _ _ _ _ ?_
        rw [decide_eq_true rfl] at hh
        conv => whnf
        repeat' ((first | contradiction | (refine And.intro (fun hb => ?_) (fun hb => ?_) <;> first | contradiction | ((try simp only [SB, reduceCtorEq] at hb); try (exfalso; first | contradiction | omega))) | rw [e5] | refine G2 ?_ | rw [ints_at (by omega)] | rw [ints_at0 (by omega)] | rw [ints_at' (by omega) (by omega)] | refine G1 ?_ | refine ⟨_, _, hh _ rfl hx8, ?_⟩ | refine ⟨GProdS_mk (x := x) (p := p + 1) hx8 hp ?_⟩ | fail) <;> conv => whnf)
        refine ⟨(x + 1, true), ⟨hlt, (decide_eq_true (Nat.lt_succ_self _)).symm⟩, by dsimp only; omega, [some 0], rfl, rfl, And.intro (And.intro rfl (congrArg nodeRows hN)) trivial, ?_⟩
        exact ⟨.inl rfl, .inl rfl, congrArg (fun l : List NodeD => AV.ref 0 0 l.length) hN, .inl rfl, trivial⟩
      · rw [decide_eq_false hix] at hh
        have hnx : b = decide (x < i + 1) := by rw [hb]; exact decide_eq_decide.2 (by omega)
        cases b with
        | true =>
          simp only [cond_true]
          refine vc2_sound hR _ _ _ _ _ ?_
          conv => whnf
          repeat' ((first | contradiction | (refine And.intro (fun hb => ?_) (fun hb => ?_) <;> first | contradiction | ((try simp only [SB, reduceCtorEq] at hb); try (exfalso; first | contradiction | omega))) | rw [e5] | refine G2 ?_ | rw [ints_at (by omega)] | rw [ints_at0 (by omega)] | rw [ints_at' (by omega) (by omega)] | refine G1 ?_ | refine ⟨_, _, hh _ rfl (by omega), ?_⟩ | fail) <;> conv => whnf)
          refine ⟨(i + 1, true), ⟨hlt, hnx⟩, by dsimp only; omega, [some 0], rfl, rfl, And.intro (And.intro rfl rfl) trivial, ?_⟩
          exact ⟨.inl rfl, .inl rfl, rfl, .inl rfl, trivial⟩
        | false =>
          simp only [cond_false]
          refine vc2_sound hR _ _ _ _ _ ?_
          conv => whnf
          repeat' ((first | contradiction | (refine And.intro (fun hb => ?_) (fun hb => ?_) <;> first | contradiction | ((try simp only [SB, reduceCtorEq] at hb); try (exfalso; first | contradiction | omega))) | rw [e5] | refine G2 ?_ | rw [ints_at (by omega)] | rw [ints_at0 (by omega)] | rw [ints_at' (by omega) (by omega)] | refine G1 ?_ | refine ⟨_, _, hh _ rfl (by omega), ?_⟩ | fail) <;> conv => whnf)
          refine ⟨(i + 1, false), ⟨hlt, hnx⟩, by dsimp only; omega, [], rfl, rfl, trivial, ?_⟩
          exact ⟨.inl rfl, .inl rfl, .inl rfl, .inl rfl, trivial⟩
    · have hbt : b = true := by rw [hb]; exact decide_eq_true (by omega)
      subst hbt
      simp only [cond_true]
      refine vc2_sound hR _ _ _ _ _ ?_
      conv => whnf
      repeat' ((first | contradiction | (refine And.intro (fun hb => ?_) (fun hb => ?_) <;> first | contradiction | ((try simp only [SB, reduceCtorEq] at hb); try (exfalso; first | contradiction | omega))) | rw [e5] | refine G2 ?_ | rw [ints_at (by omega)] | rw [ints_at0 (by omega)] | rw [ints_at' (by omega) (by omega)] | refine G1 ?_ | fail) <;> conv => whnf)
      refine ⟨.inl trivial, ?_⟩
      conv => whnf
      exact ⟨[some 0], ⟨rfl, And.intro (And.intro rfl rfl) trivial⟩, And.intro rfl (And.intro (.inl rfl) trivial), rfl, by simp [AObj.nov, nodeRows_nov]⟩
theorem lab_good : ∀ p, p ≤ 3 → ∀ x, x < 2 ^ p → goodL (labN x p) := by decide
theorem lab_tree : ∀ p, p ≤ 3 → ∀ x, x < 2 ^ p → treeE (labN x p) = true := by decide
theorem lab_ok : ∀ p, p ≤ 3 → ∀ x, x < 2 ^ p → exprOk (labN x p) = true := by decide
def labT (x p : Nat) : List UInt8 := tx (labN x p) ((labN x p).length - 1)
theorem labT_len : ∀ p, p ≤ 3 → ∀ x, x < 2 ^ p → (labT x p).length ≤ 100 := fun p hp x hx => by
  have h := lab_good p hp x hx
  exact (h.2 ((labN x p).length - 1) (by have := h.1.1; omega)).2
end Go.Proofs.YthanhknkoikbfaaDoor.Ct
namespace Go.Proofs.YthanhknkoikbfaaDoor.Ct
open Go Go.Proofs Go.Shelf Go.Proofs.YthanhknkoikbfaaDoor.Av
def lays156_ren : Go.Shelf.Ren := ⟨fun | 156 => 25 | 165 => 46 | 166 => 47 | 169 => 48 | 240 => 63 | 241 => 64 | 276 => 76 | 277 => 77 | n => n, fun | 31 => 46 | 9 => 9 | 3 => 3 | 4 => 4 | 0 => 0 | 20 => 20 | 72 => 67 | 76 => 71 | 70 => 64 | 37 => 65 | 75 => 70 | 127 => 86 | 164 => 95 | 5 => 5 | 80 => 73 | n => n, fun | n => n⟩
theorem lays156 : Lays.n156 Tryd.prog lays156_ren := {
  mixed := by kernel_rfl
  f156 := Tryd.func25.trans (congrArg some (by kernel_rfl))
  f165 := Tryd.func46.trans (congrArg some (by kernel_rfl))
  f166 := Tryd.func47.trans (congrArg some (by kernel_rfl))
  f169 := Tryd.func48.trans (congrArg some (by kernel_rfl))
  f240 := Tryd.func63.trans (congrArg some (by kernel_rfl))
  f241 := Tryd.func64.trans (congrArg some (by kernel_rfl))
  f276 := Tryd.func76.trans (congrArg some (by kernel_rfl))
  f277 := Tryd.func77.trans (congrArg some (by kernel_rfl))
  t0 := Tryd.underlying0
  a0 := Tryd.isAgg0
  z0 := Tryd.sizeOf0
  v0 := Tryd.zeroValue0
  t3 := Tryd.underlying3
  a3 := Tryd.isAgg3
  z3 := Tryd.sizeOf3
  v3 := Tryd.zeroValue3
  t4 := Tryd.underlying4
  a4 := Tryd.isAgg4
  z4 := Tryd.sizeOf4
  v4 := Tryd.zeroValue4
  t9 := Tryd.underlying9
  a9 := Tryd.isAgg9
  z9 := Tryd.sizeOf9
  v9 := Tryd.zeroValue9
  t20 := Tryd.underlying20
  a20 := Tryd.isAgg20
  z20 := Tryd.sizeOf20
  v20 := Tryd.zeroValue20
  t31 := Tryd.underlying46
  a31 := Tryd.isAgg46
  z31 := Tryd.sizeOf46
  v31 := Tryd.zeroValue46
  t37 := Tryd.underlying65
  a37 := Tryd.isAgg65
  z37 := Tryd.sizeOf65
  v37 := Tryd.zeroValue65
  t70 := Tryd.underlying64
  a70 := Tryd.isAgg64
  z70 := Tryd.sizeOf64
  v70 := Tryd.zeroValue64
  t72 := Tryd.underlying67
  a72 := Tryd.isAgg67
  z72 := Tryd.sizeOf67
  v72 := Tryd.zeroValue67
  t75 := Tryd.underlying70
  a75 := Tryd.isAgg70
  z75 := Tryd.sizeOf70
  v75 := Tryd.zeroValue70
  t76 := Tryd.underlying71
  a76 := Tryd.isAgg71
  z76 := Tryd.sizeOf71
  v76 := Tryd.zeroValue71
  t127 := Tryd.underlying86
  a127 := Tryd.isAgg86
  z127 := Tryd.sizeOf86
  v127 := Tryd.zeroValue86
  t164 := Tryd.underlying95
  a164 := Tryd.isAgg95
  z164 := Tryd.sizeOf95
  v164 := Tryd.zeroValue95 }
theorem extra156 : Builder.Extra Tryd.prog lays156_ren := {
  sizeBuilder := by kernel_rfl
  liesBuilder := by kernel_rfl
  t5 := Tryd.underlying5
  a5 := Tryd.isAgg5
  z5 := Tryd.sizeOf5
  v5 := Tryd.zeroValue5
  infoByte := by kernel_rfl
  cellsByte := by kernel_rfl
  sizeByte := by kernel_rfl
  neB5 := by decide }
def lays171_ren : Go.Shelf.Ren := ⟨fun | 171 => 21 | 243 => 41 | 246 => 56 | 283 => 66 | 284 => 67 | 285 => 68 | 286 => 69 | 129 => 79 | 317 => 78 | 318 => 80 | 319 => 81 | 320 => 82 | 337 => 84 | 338 => 85 | n => n, fun | 3 => 3 | 9 => 9 | 2 => 2 | 4 => 4 | 171 => 87 | 0 => 0 | 53 => 88 | 37 => 65 | 5 => 5 | 173 => 91 | 212 => 99 | 51 => 100 | 20 => 20 | 213 => 101 | 46 => 54 | 232 => 107 | 233 => 108 | n => n, fun | 17 => 0 | 18 => 2 | 19 => 3 | n => n⟩
theorem lays171 : Lays.n171 Tryd.prog lays171_ren := {
  mixed := by kernel_rfl
  f129 := Tryd.func79.trans (congrArg some (by kernel_rfl))
  f171 := Tryd.func21.trans (congrArg some (by kernel_rfl))
  f243 := Tryd.func41.trans (congrArg some (by kernel_rfl))
  f246 := Tryd.func56.trans (congrArg some (by kernel_rfl))
  f283 := Tryd.func66.trans (congrArg some (by kernel_rfl))
  f284 := Tryd.func67.trans (congrArg some (by kernel_rfl))
  f285 := Tryd.func68.trans (congrArg some (by kernel_rfl))
  f286 := Tryd.func69.trans (congrArg some (by kernel_rfl))
  f317 := Tryd.func78.trans (congrArg some (by kernel_rfl))
  f318 := Tryd.func80.trans (congrArg some (by kernel_rfl))
  f319 := Tryd.func81.trans (congrArg some (by kernel_rfl))
  f320 := Tryd.func82.trans (congrArg some (by kernel_rfl))
  f337 := Tryd.func84.trans (congrArg some (by kernel_rfl))
  f338 := Tryd.func85.trans (congrArg some (by kernel_rfl))
  t0 := Tryd.underlying0
  a0 := Tryd.isAgg0
  z0 := Tryd.sizeOf0
  v0 := Tryd.zeroValue0
  t2 := Tryd.underlying2
  a2 := Tryd.isAgg2
  z2 := Tryd.sizeOf2
  v2 := Tryd.zeroValue2
  t3 := Tryd.underlying3
  a3 := Tryd.isAgg3
  z3 := Tryd.sizeOf3
  v3 := Tryd.zeroValue3
  t4 := Tryd.underlying4
  a4 := Tryd.isAgg4
  z4 := Tryd.sizeOf4
  v4 := Tryd.zeroValue4
  t5 := Tryd.underlying5
  a5 := Tryd.isAgg5
  z5 := Tryd.sizeOf5
  v5 := Tryd.zeroValue5
  t9 := Tryd.underlying9
  a9 := Tryd.isAgg9
  z9 := Tryd.sizeOf9
  v9 := Tryd.zeroValue9
  t20 := Tryd.underlying20
  a20 := Tryd.isAgg20
  z20 := Tryd.sizeOf20
  v20 := Tryd.zeroValue20
  t37 := Tryd.underlying65
  a37 := Tryd.isAgg65
  z37 := Tryd.sizeOf65
  v37 := Tryd.zeroValue65
  t46 := Tryd.underlying54
  a46 := Tryd.isAgg54
  z46 := Tryd.sizeOf54
  v46 := Tryd.zeroValue54
  t51 := Tryd.underlying100
  a51 := Tryd.isAgg100
  z51 := Tryd.sizeOf100
  v51 := Tryd.zeroValue100
  t53 := Tryd.underlying88
  a53 := Tryd.isAgg88
  z53 := Tryd.sizeOf88
  v53 := Tryd.zeroValue88
  t171 := Tryd.underlying87
  a171 := Tryd.isAgg87
  z171 := Tryd.sizeOf87
  v171 := Tryd.zeroValue87
  t173 := Tryd.underlying91
  a173 := Tryd.isAgg91
  z173 := Tryd.sizeOf91
  v173 := Tryd.zeroValue91
  t212 := Tryd.underlying99
  a212 := Tryd.isAgg99
  z212 := Tryd.sizeOf99
  v212 := Tryd.zeroValue99
  t213 := Tryd.underlying101
  a213 := Tryd.isAgg101
  z213 := Tryd.sizeOf101
  t232 := Tryd.underlying107
  a232 := Tryd.isAgg107
  z232 := Tryd.sizeOf107
  v232 := Tryd.zeroValue107
  t233 := Tryd.underlying108
  a233 := Tryd.isAgg108
  z233 := Tryd.sizeOf108
  v233 := Tryd.zeroValue108
  g17 := by kernel_rfl
  g18 := by kernel_rfl
  g19 := by kernel_rfl }
theorem hasItoa : HasBody Tryd.prog 21 := ⟨_, Tryd.func21, rfl, by decide⟩
theorem hasJoin : HasBody Tryd.prog 25 := ⟨_, Tryd.func25, rfl, by decide⟩
theorem s_Itoa : PureSound Tryd.prog 21 (RNum 100) := itoa_sound (ρ := lays171_ren) lays171
theorem s_Join : PureSound Tryd.prog 25 RJoin := join_sound (ρ := lays156_ren) lays156 extra156
end Go.Proofs.YthanhknkoikbfaaDoor.Ct
