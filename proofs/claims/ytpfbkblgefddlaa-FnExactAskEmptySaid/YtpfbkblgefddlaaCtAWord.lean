/- AutoWord, the reference's and the program's. -/
import Derived.Test.YtpfbkblgefddlaaCtPath3
namespace Go.Proofs.Ytpfbkblgefddlaa.Ct
set_option linter.unusedSimpArgs false
set_option linter.unusedVariables false
open Go Go.Proofs Go.Proofs.Ytpfbkblgefddlaa.Av Go.Proofs.Ytpfbkblgefddlaa.Pl

def c_slices_Grow_int_int : ICode := (.seq (.reg [⟨(some 4), .mv, [(.c .snil)], none⟩]) (.seq (.seq (.reg [⟨(some 5), .mv, [(.t 1)], none⟩, ⟨(some 6), (.bin .lss), [(.t 5), (.c (.int .i64 0))], none⟩]) (.cond (.t 6) (.reg [⟨(some 7), .no, [], none⟩, ⟨none, .no, [], none⟩]) .skip)) (.seq (.seq (.reg [⟨(some 8), .mv, [(.t 1)], none⟩, ⟨(some 9), .mv, [(.t 0)], none⟩, ⟨(some 10), .cap, [(.t 9)], none⟩, ⟨(some 11), .mv, [(.t 0)], none⟩, ⟨(some 12), .len, [(.t 11)], none⟩, ⟨(some 13), (.bin .sub), [(.t 10), (.t 12)], none⟩, ⟨(some 14), (.bin .sub), [(.t 8), (.t 13)], none⟩, ⟨(some 1), .mv, [(.t 14)], none⟩]) (.seq (.reg [⟨(some 15), .mv, [(.t 1)], none⟩, ⟨(some 16), (.bin .gtr), [(.t 15), (.c (.int .i64 0))], none⟩]) (.cond (.t 16) (.reg [⟨(some 17), .mv, [(.t 0)], none⟩, ⟨(some 18), .mv, [(.t 0)], none⟩, ⟨(some 19), .cap, [(.t 18)], none⟩, ⟨(some 20), (.slc 1 false true), [(.t 17), (.t 19)], none⟩, ⟨(some 21), .mv, [(.t 1)], none⟩, ⟨(some 22), (.apz 1 8 [(.int .i64 0)]), [(.t 20), (.t 21)], none⟩, ⟨(some 23), .mv, [(.t 0)], none⟩, ⟨(some 24), .len, [(.t 23)], none⟩, ⟨(some 25), (.slc 1 false true), [(.t 22), (.t 24)], none⟩, ⟨(some 0), .mv, [(.t 25)], none⟩]) .skip))) (.seq (.reg [⟨(some 26), .mv, [(.t 0)], none⟩, ⟨(some 4), .mv, [(.t 26)], none⟩]) .ret))))
theorem b_slices_Grow_int_int : Body Try.prog 167 27 c_slices_Grow_int_int [(.t 4)] := body_mk Try.func167 (by kernel_rfl) (by decide)

def c_slices_Concat_int_int : ICode := (.seq (.reg [⟨(some 2), .mv, [(.c .snil)], none⟩]) (.seq (.reg [⟨(some 3), .mv, [(.c (.int .i64 0))], none⟩]) (.seq (.seq (.reg [⟨(some 9), .mv, [(.t 0)], none⟩, ⟨(some 10), .len, [(.t 9)], none⟩, ⟨(some 11), .mv, [(.c (.int .i64 0))], none⟩]) (.block 0 (.loop (.seq (.reg [⟨(some 12), (.bin .lss), [(.t 11), (.t 10)], none⟩]) (.seq (.cond (.t 12) .skip (.exit 0)) (.seq (.block 1 (.seq (.reg [⟨(some 13), (.iadr 1), [(.t 9), (.t 11)], none⟩, ⟨(some 14), .ld1, [(.t 13)], none⟩, ⟨(some 5), .mv, [(.t 14)], none⟩]) (.seq (.reg [⟨(some 15), .mv, [(.t 3)], none⟩, ⟨(some 16), .mv, [(.t 5)], none⟩, ⟨(some 17), .len, [(.t 16)], none⟩, ⟨(some 18), (.bin .add), [(.t 15), (.t 17)], none⟩, ⟨(some 3), .mv, [(.t 18)], none⟩]) (.seq (.reg [⟨(some 19), .mv, [(.t 3)], none⟩, ⟨(some 20), (.bin .lss), [(.t 19), (.c (.int .i64 0))], none⟩]) (.cond (.t 20) (.reg [⟨(some 21), .no, [], none⟩, ⟨none, .no, [], none⟩]) .skip))))) (.reg [⟨(some 22), (.bin .add), [(.t 11), (.c (.int .i64 1))], none⟩, ⟨(some 11), .mv, [(.t 22)], none⟩]))))))) (.seq (.reg [⟨(some 23), .mv, [(.t 3)], none⟩, ⟨(some 24), (.call 167), [(.c .snil), (.t 23)], none⟩, ⟨(some 6), .mv, [(.t 24)], none⟩]) (.seq (.seq (.reg [⟨(some 25), .mv, [(.t 0)], none⟩, ⟨(some 26), .len, [(.t 25)], none⟩, ⟨(some 27), .mv, [(.c (.int .i64 0))], none⟩]) (.block 2 (.loop (.seq (.reg [⟨(some 28), (.bin .lss), [(.t 27), (.t 26)], none⟩]) (.seq (.cond (.t 28) .skip (.exit 2)) (.seq (.block 3 (.seq (.reg [⟨(some 29), (.iadr 1), [(.t 25), (.t 27)], none⟩, ⟨(some 30), .ld1, [(.t 29)], none⟩, ⟨(some 8), .mv, [(.t 30)], none⟩]) (.reg [⟨(some 31), .mv, [(.t 6)], none⟩, ⟨(some 32), .mv, [(.t 8)], none⟩, ⟨(some 33), (.app 1 8), [(.t 31), (.t 32)], none⟩, ⟨(some 6), .mv, [(.t 33)], none⟩]))) (.reg [⟨(some 34), (.bin .add), [(.t 27), (.c (.int .i64 1))], none⟩, ⟨(some 27), .mv, [(.t 34)], none⟩]))))))) (.seq (.reg [⟨(some 35), .mv, [(.t 6)], none⟩, ⟨(some 2), .mv, [(.t 35)], none⟩]) .ret))))))
theorem b_slices_Concat_int_int : Body Try.prog 120 36 c_slices_Concat_int_int [(.t 2)] := body_mk Try.func120 (by kernel_rfl) (by decide)

def c_spec_AutoWord : ICode := (.seq (.reg [⟨(some 1), (.box 4), [(.t 0)], none⟩, ⟨(some 2), (.alc [.snil, .snil]), [], none⟩, ⟨(some 3), .mv, [(.c (.bool false))], none⟩]) (.seq (.seq (.reg [⟨(some 11), (.ldn 4), [(.t 1)], none⟩, ⟨(some 12), (.call 70), [(.t 11)], none⟩, ⟨(some 13), .not, [(.t 12)], none⟩]) (.cond (.t 13) (.seq (.reg [⟨(some 14), (.bld [.snil, .snil] []), [], none⟩, ⟨none, (.st 2), [(.t 2), (.t 14)], none⟩, ⟨(some 3), .mv, [(.c (.bool false))], none⟩]) .ret) .skip)) (.seq (.reg [⟨(some 15), (.ldn 4), [(.t 1)], none⟩, ⟨(some 16), (.fadr 2), [(.t 1)], none⟩, ⟨(some 17), .ld1, [(.t 16)], none⟩, ⟨(some 18), (.call 109), [(.t 15), (.t 17)], none⟩, ⟨(some 4), .mv, [(.t 18)], none⟩]) (.seq (.seq (.reg [⟨(some 5), .mv, [(.c (.int .i64 0))], none⟩]) (.block 0 (.loop (.seq (.seq (.reg [⟨(some 19), .mv, [(.t 5)], none⟩, ⟨(some 20), (.fadr 3), [(.t 1)], none⟩, ⟨(some 21), .ld1, [(.t 20)], none⟩, ⟨(some 22), .len, [(.t 21)], none⟩, ⟨(some 23), (.bin .lss), [(.t 19), (.t 22)], none⟩]) (.cond (.t 23) .skip (.exit 0))) (.seq (.block 1 (.seq (.reg [⟨(some 26), (.fadr 3), [(.t 1)], none⟩, ⟨(some 27), .ld1, [(.t 26)], none⟩, ⟨(some 28), .mv, [(.t 5)], none⟩, ⟨(some 29), (.iadr 4), [(.t 27), (.t 28)], none⟩, ⟨(some 30), (.ldn 4), [(.t 29)], none⟩, ⟨(some 6), (.alc [(.int .i64 0), (.int .i64 0), (.int .i64 0), (.bool false)]), [], none⟩, ⟨none, (.st 4), [(.t 6), (.t 30)], none⟩]) (.seq (.seq (.reg [⟨(some 31), (.fadr 3), [(.t 6)], none⟩, ⟨(some 32), .ld1, [(.t 31)], none⟩, ⟨(some 33), .not, [(.t 32)], none⟩, ⟨(some 34), .mv, [(.t 33)], none⟩, ⟨(some 35), .mv, [(.t 4)], (some (34, false))⟩, ⟨(some 36), (.fadr 0), [(.t 6)], (some (34, false))⟩, ⟨(some 37), .ld1, [(.t 36)], (some (34, false))⟩, ⟨(some 38), (.call 110), [(.t 35), (.t 37)], (some (34, false))⟩, ⟨(some 39), .not, [(.t 38)], (some (34, false))⟩, ⟨(some 40), .pick, [(.t 34), (.c (.bool true)), (.t 39)], none⟩]) (.cond (.t 40) (.exit 1) .skip)) (.seq (.drw [⟨(some 42), (.ldn 4), [(.t 1)], none⟩, ⟨(some 43), (.fadr 2), [(.t 6)], none⟩, ⟨(some 44), .ld1, [(.t 43)], none⟩, ⟨(some 45), (.call 112), [(.t 44)], none⟩, ⟨(some 46), (.fadr 0), [(.t 6)], none⟩, ⟨(some 47), .ld1, [(.t 46)], none⟩, ⟨(some 48), (.call 111), [(.t 42), (.t 45), (.t 47)], none⟩, ⟨(some 41), .mv, [(.t 48)], none⟩, ⟨(some 49), (.ext 0), [(.t 41)], none⟩, ⟨(some 50), (.ext 1), [(.t 41)], none⟩, ⟨(some 7), .mv, [(.t 49)], none⟩, ⟨(some 8), .mv, [(.t 50)], none⟩] [[], [], [1], [1, 2], [], [4], [0, 1, 2, 3, 4, 5], [0, 1, 2, 3, 4, 5, 6], [0, 1, 2, 3, 4, 5, 6, 7], [0, 1, 2, 3, 4, 5, 6, 7], [0, 1, 2, 3, 4, 5, 6, 7, 8], [0, 1, 2, 3, 4, 5, 6, 7, 8, 9, 10]] true true) (.seq (.reg [⟨(some 51), .mv, [(.t 8)], none⟩]) (.cond (.t 51) (.seq (.reg [⟨(some 53), (.ldn 4), [(.t 1)], none⟩, ⟨(some 54), (.fadr 2), [(.t 1)], none⟩, ⟨(some 55), .ld1, [(.t 54)], none⟩, ⟨(some 56), (.fadr 0), [(.t 6)], none⟩, ⟨(some 57), .ld1, [(.t 56)], none⟩, ⟨(some 58), (.call 111), [(.t 53), (.t 55), (.t 57)], none⟩, ⟨(some 52), .mv, [(.t 58)], none⟩, ⟨(some 59), (.ext 0), [(.t 52)], none⟩, ⟨(some 60), (.ext 1), [(.t 52)], none⟩, ⟨(some 9), .mv, [(.t 59)], none⟩, ⟨(some 10), .mv, [(.t 60)], none⟩]) (.seq (.reg [⟨(some 61), .mv, [(.t 9)], none⟩, ⟨(some 62), (.fadr 1), [(.t 6)], none⟩, ⟨(some 63), .ld1, [(.t 62)], none⟩, ⟨(some 64), (.bsl 1), [(.t 63)], none⟩, ⟨(some 65), .mv, [(.t 7)], none⟩, ⟨(some 66), (.app 1 8), [(.t 64), (.t 65)], none⟩, ⟨(some 67), (.bld [.snil, .snil] [(0, 1), (1, 1)]), [(.t 61), (.t 66)], none⟩, ⟨none, (.st 2), [(.t 2), (.t 67)], none⟩, ⟨(some 3), .mv, [(.c (.bool true))], none⟩]) .ret)) .skip)))))) (.reg [⟨(some 24), .mv, [(.t 5)], none⟩, ⟨(some 25), (.bin .add), [(.t 24), (.c (.int .i64 1))], none⟩, ⟨(some 5), .mv, [(.t 25)], none⟩])))))) (.seq (.reg [⟨(some 68), (.bld [.snil, .snil] []), [], none⟩, ⟨none, (.st 2), [(.t 2), (.t 68)], none⟩, ⟨(some 3), .mv, [(.c (.bool false))], none⟩]) .ret)))))
theorem b_spec_AutoWord : Body Try.prog 47 69 c_spec_AutoWord [(.cn 2 2), (.t 3)] := body_mk Try.func47 (by kernel_rfl) (by decide)


def GGrow : GFun := fun xs objs Q => ∃ n : Nat, xs = [.snil, .int .i64 ((n : Nat) : Int)] ∧ objs = [] ∧ n ≤ 1000000 ∧ Q (.ref 0 0 0) [some (.arr 1 (List.replicate n [.int .i64 0]))]
theorem GGrow_mk {n : Nat} {Q : AV → List (Option AObj) → Prop} (h : n ≤ 1000000) (hq : Q (.ref 0 0 0) [some (.arr 1 (List.replicate n [.int .i64 0]))]) : GGrow [.snil, .int .i64 ((n : Nat) : Int)] [] Q := ⟨n, rfl, rfl, h, hq⟩

theorem s_slices_Grow : GenSound Try.prog 167 0 GGrow := by
  have hR : Rely Try.prog (ctxOf []) := rely_nil mixed
  refine gen_of_aw b_slices_Grow_int_int ?_
  rintro xs objs Q - ⟨n, rfl, rfl, hn, hq⟩ -
  refine ⟨by simp, vc2_sound hR _ _ _ _ _ ?_⟩
  conv => whnf
  repeat' ((first
    | contradiction
    | (refine And.intro (fun hb => ?_) (fun hb => ?_) <;> first | contradiction | ((try simp only [SB, reduceCtorEq] at hb); try (exfalso; first | contradiction | omega)))
    | refine And.intro rfl ?_
    | refine ⟨_, IntWalk.i64_in _ (by omega), ?_⟩
    | rw [ints_at (by omega)]
    | rw [ints_at0 (by omega)]
    | rw [ints_at' (by omega) (by omega)]
    | refine And.intro (lens_all rfl) ?_
    | refine And.intro (show _ ≤ _ ∧ (_ + 1) * _ ≤ _ ∧ _ + 1 ≤ _ by first | omega | (simp; omega)) ?_
    | refine And.intro (show 1 * _ ≤ _ ∧ 1 ≤ _ by omega) ?_
    | refine And.intro (by first | omega | (simp; omega) | (show _ ∧ _; simp; done)) ?_
    | fail) <;> conv => whnf)
  · refine ⟨.inl rfl, ?_⟩
    conv => whnf
    refine ⟨[some 0], .ref 0 0 0, [some (.arr 1 (List.replicate n [.int .i64 0]))], ⟨rfl, And.intro (And.intro rfl ?_) trivial⟩, rfl, rfl, hq⟩
    exact congrArg (fun k => List.replicate k [AV.int .i64 0]) (by omega)
  · obtain rfl : n = 0 := by omega
    refine ⟨.inl rfl, ?_⟩
    conv => whnf
    exact ⟨[none], .ref 0 0 0, [some (.arr 1 [])], ⟨rfl, And.intro rfl trivial⟩, ⟨rfl, rfl, rfl⟩, rfl, hq⟩

/-- slices, as Concat is handed them -/
def rowsL (Ls : List (List Int)) : List (List AV) := Ls.map fun l => [.val (ints l)]
@[simp] theorem length_rowsL (Ls : List (List Int)) : (rowsL Ls).length = Ls.length := by simp [rowsL]
theorem rowsL_at {Ls : List (List Int)} {i : Nat} (h : i < Ls.length) : (rowsL Ls)[((i : Nat) : Int).toNat]? = some [.val (ints (Ls.getD i []))] := by
  simp [rowsL, List.getElem?_map, List.getElem?_eq_getElem h, List.getD_eq_getElem?_getD]
def flat (Ls : List (List Int)) (i : Nat) : List Int := (Ls.take i).flatten
theorem flat_succ {Ls : List (List Int)} {i : Nat} (h : i < Ls.length) : flat Ls (i + 1) = flat Ls i ++ Ls.getD i [] := by
  unfold flat
  rw [List.take_add_one, List.getElem?_eq_getElem h, Option.toList_some, List.flatten_append]
  simp [List.getD_eq_getElem?_getD, h]
theorem flat_le {Ls : List (List Int)} {i j : Nat} (h : i ≤ j) : (flat Ls i).length ≤ (flat Ls j).length := by
  induction j with
  | zero => rw [show i = 0 by omega]; exact Nat.le_refl _
  | succ j ih =>
    by_cases hij : i = j + 1
    · rw [hij]; exact Nat.le_refl _
    · refine Nat.le_trans (ih (by omega)) ?_
      rcases Nat.lt_or_ge j Ls.length with hj | hj
      · rw [flat_succ hj, List.length_append]; omega
      · unfold flat
        rw [List.take_of_length_le hj, List.take_of_length_le (by omega)]
        exact Nat.le_refl _
theorem flat_all {Ls : List (List Int)} {i : Nat} (h : Ls.length ≤ i) : flat Ls i = Ls.flatten := by unfold flat; rw [List.take_of_length_le h]

theorem ints_ones {l : List Int} : ∀ r ∈ ints l, r.length = 1 := by
  intro r hr
  obtain ⟨x, _, rfl⟩ := List.mem_map.1 hr
  rfl

def RConcat (xs : List AV) (r : AV) (objs : List AObj) : Prop := ∃ Ls, xs = [.val (rowsL Ls)] ∧ 0 < Ls.length ∧ Ls.length ≤ 1000 ∧ Ls.flatten.length ≤ 1000000 ∧ r = .ref 0 0 Ls.flatten.length ∧ objs = [.arr 1 (ints Ls.flatten)]
theorem RConcat_eq {xs : List AV} {Ls : List (List Int)} (hx : xs = [.val (rowsL Ls)]) (h0 : 0 < Ls.length) (h1 : Ls.length ≤ 1000) (h2 : Ls.flatten.length ≤ 1000000) : RConcat xs (.ref 0 0 Ls.flatten.length) [.arr 1 (ints Ls.flatten)] := ⟨Ls, hx, h0, h1, h2, rfl, rfl⟩

set_option maxHeartbeats 1000000 in
theorem s_slices_Concat : PureSound Try.prog 120 RConcat := by
  have hR : Rely Try.prog (ctxOf [(167, .gen 0 GGrow)]) := rely_cons b_slices_Grow_int_int.has s_slices_Grow (rely_nil mixed)
  refine pure_of_aw b_slices_Concat_int_int ?_
  rintro xs r objs ⟨Ls, rfl, h0, h1, h2, rfl, rfl⟩ -
  have hrl := length_rowsL Ls
  have hfl := flat_all (Nat.le_refl Ls.length)
  refine ⟨by simp, vc2_sound hR _ _ _ _ _ ?_⟩
  conv => whnf
  repeat' ((first
    | contradiction
    | (refine And.intro (fun hb => ?_) (fun hb => ?_) <;> first | contradiction | ((try simp only [SB, reduceCtorEq] at hb); try (exfalso; first | contradiction | omega)))
    | refine And.intro rfl ?_
    | refine ⟨_, IntWalk.i64_in _ (by omega), ?_⟩
    | rw [ints_at (by omega)]
    | rw [ints_at0 (by omega)]
    | rw [ints_at' (by omega) (by omega)]
    | refine And.intro (lens_all rfl) ?_
    | refine And.intro (show _ ≤ _ ∧ (_ + 1) * _ ≤ _ ∧ _ + 1 ≤ _ by first | omega | (simp; omega)) ?_
    | refine And.intro (show 1 * _ ≤ _ ∧ 1 ≤ _ by omega) ?_
    | refine And.intro (by first | omega | (simp; omega) | (show _ ∧ _; simp; done)) ?_
    | fail) <;> conv => whnf)
  refine Lp.intro (α := Nat) (fun i => i ≤ Ls.length) (fun i => Ls.length - i) (fun i => [(0, .val (rowsL Ls)), (3, .int .i64 ((flat Ls i).length : Nat)), (9, .val (rowsL Ls)), (10, .int .i64 Ls.length), (11, .int .i64 i)]) (fun _ => []) ?_ ?_
  · refine ⟨0, by omega, [], rfl, rfl, trivial, ?_⟩
    exact ⟨.inl rfl, .inl rfl, .inl rfl, .inl (congrArg (fun x : Nat => AV.int .i64 x) hrl), .inl rfl, trivial⟩
  intro i hi
  have hlf := flat_le (Ls := Ls) hi
  rw [hfl] at hlf
  refine vc2_sound hR _ _ _ _ _ ?_
  by_cases hlt : i < Ls.length
  · have hs := congrArg List.length (flat_succ hlt)
    have hlf2 := flat_le (Ls := Ls) (show i + 1 ≤ Ls.length by omega)
    rw [hfl, hs, List.length_append] at hlf2
    rw [List.length_append] at hs
    have hil := length_ints (Ls.getD i [])
    conv => whnf
    repeat' ((first
      | contradiction
      | (refine And.intro (fun hb => ?_) (fun hb => ?_) <;> first | contradiction | ((try simp only [SB, reduceCtorEq] at hb); try (exfalso; first | contradiction | omega)))
      | refine And.intro rfl ?_
      | refine ⟨_, IntWalk.i64_in _ (by omega), ?_⟩
      | rw [ints_at (by omega)]
      | rw [ints_at0 (by omega)]
      | rw [ints_at' (by omega) (by omega)]
      | refine And.intro (lens_all rfl) ?_
      | refine And.intro (show _ ≤ _ ∧ (_ + 1) * _ ≤ _ ∧ _ + 1 ≤ _ by first | omega | (simp; omega)) ?_
      | refine And.intro (show 1 * _ ≤ _ ∧ 1 ≤ _ by omega) ?_
      | refine And.intro (by first | omega | (simp; omega) | (show _ ∧ _; simp; done)) ?_
      | rw [rowsL_at hlt]
      | fail) <;> conv => whnf)
    refine ⟨i + 1, by omega, by omega, [], rfl, rfl, trivial, ?_⟩
    exact ⟨.inl rfl, .inl (congrArg (AV.int .i64) (by (try dsimp only); omega)), .inl rfl, .inl rfl, .inl rfl, trivial⟩
  obtain rfl : i = Ls.length := by omega
  rw [hfl]
  conv => whnf
  repeat' ((first
    | contradiction
    | (refine And.intro (fun hb => ?_) (fun hb => ?_) <;> first | contradiction | ((try simp only [SB, reduceCtorEq] at hb); try (exfalso; first | contradiction | omega)))
    | refine And.intro rfl ?_
    | refine ⟨_, IntWalk.i64_in _ (by omega), ?_⟩
    | rw [ints_at (by omega)]
    | rw [ints_at0 (by omega)]
    | rw [ints_at' (by omega) (by omega)]
    | refine And.intro (lens_all rfl) ?_
    | refine And.intro (show _ ≤ _ ∧ (_ + 1) * _ ≤ _ ∧ _ + 1 ≤ _ by first | omega | (simp; omega)) ?_
    | refine And.intro (show 1 * _ ≤ _ ∧ 1 ≤ _ by omega) ?_
    | refine And.intro (by first | omega | (simp; omega) | (show _ ∧ _; simp; done)) ?_
    | refine ⟨GGrow_mk (n := Ls.flatten.length) (by omega) ?_⟩
    | fail) <;> conv => whnf)
  refine Lp.intro (α := Nat × List (List AV)) (fun c => c.1 ≤ Ls.length ∧ c.2.take (flat Ls c.1).length = ints (flat Ls c.1) ∧ (flat Ls c.1).length ≤ c.2.length ∧ (0 < c.1 → c.2 = ints (flat Ls c.1))) (fun c => Ls.length - c.1) (fun c => [(6, .ref 0 0 (flat Ls c.1).length), (25, .val (rowsL Ls)), (26, .int .i64 Ls.length), (27, .int .i64 c.1)]) (fun c => [some (.arr 1 c.2)]) ?_ ?_
  · refine ⟨(0, List.replicate Ls.flatten.length [.int .i64 0]), ⟨Nat.zero_le _, rfl, Nat.zero_le _, fun h => by simp at h⟩, [some 0], rfl, rfl, And.intro (And.intro rfl rfl) trivial, ?_⟩
    exact ⟨rfl, .inl rfl, .inl (congrArg (fun x : Nat => AV.int .i64 x) hrl), .inl rfl, trivial⟩
  rintro ⟨i, X⟩ ⟨hi, hX, hXl, hX1⟩
  dsimp only at hi hX hXl hX1 ⊢
  have hlf := flat_le (Ls := Ls) hi
  rw [hfl] at hlf
  refine vc2_sound hR _ _ _ _ _ ?_
  by_cases hlt : i < Ls.length
  · have hs := congrArg List.length (flat_succ hlt)
    have hlf2 := flat_le (Ls := Ls) (show i + 1 ≤ Ls.length by omega)
    rw [hfl, hs, List.length_append] at hlf2
    rw [List.length_append] at hs
    have hil := length_ints (Ls.getD i [])
    conv => whnf
    repeat' ((first
      | contradiction
      | (refine And.intro (fun hb => ?_) (fun hb => ?_) <;> first | contradiction | ((try simp only [SB, reduceCtorEq] at hb); try (exfalso; first | contradiction | omega)))
      | refine And.intro rfl ?_
      | refine ⟨_, IntWalk.i64_in _ (by omega), ?_⟩
      | rw [ints_at (by omega)]
      | rw [ints_at0 (by omega)]
      | rw [ints_at' (by omega) (by omega)]
      | refine And.intro (lens_all rfl) ?_
      | refine And.intro (show _ ≤ _ ∧ (_ + 1) * _ ≤ _ ∧ _ + 1 ≤ _ by first | omega | (simp; omega)) ?_
      | refine And.intro (show 1 * _ ≤ _ ∧ 1 ≤ _ by omega) ?_
      | refine And.intro (by first | omega | (simp; omega) | (show _ ∧ _; simp; done)) ?_
      | rw [rowsL_at hlt]
      | refine And.intro ints_ones ?_
      | fail) <;> conv => whnf)
    have hnew : List.take (flat Ls i).length X ++ ints (Ls.getD i []) = ints (flat Ls (i + 1)) := by rw [hX, flat_succ hlt]; simp [ints]
    refine ⟨(i + 1, ints (flat Ls (i + 1))), ⟨hlt, List.take_of_length_le (by simp [ints]), by simp [ints], fun _ => rfl⟩, by dsimp only; omega, [some 1], rfl, rfl, And.intro (And.intro rfl hnew) trivial, ?_⟩
    exact ⟨congrArg (AV.ref 1 0) (by (try dsimp only); omega), .inl rfl, .inl rfl, .inl rfl, trivial⟩
  · obtain rfl : i = Ls.length := by omega
    conv => whnf
    repeat' ((first
      | contradiction
      | (refine And.intro (fun hb => ?_) (fun hb => ?_) <;> first | contradiction | ((try simp only [SB, reduceCtorEq] at hb); try (exfalso; first | contradiction | omega)))
      | refine And.intro rfl ?_
      | refine ⟨_, IntWalk.i64_in _ (by omega), ?_⟩
      | rw [ints_at (by omega)]
      | rw [ints_at0 (by omega)]
      | rw [ints_at' (by omega) (by omega)]
      | refine And.intro (lens_all rfl) ?_
      | refine And.intro (show _ ≤ _ ∧ (_ + 1) * _ ≤ _ ∧ _ + 1 ≤ _ by first | omega | (simp; omega)) ?_
      | refine And.intro (show 1 * _ ≤ _ ∧ 1 ≤ _ by omega) ?_
      | refine And.intro (by first | omega | (simp; omega) | (show _ ∧ _; simp; done)) ?_
      | fail) <;> conv => whnf)
    refine ⟨.inl rfl, ?_⟩
    conv => whnf
    have e := hX1 h0
    subst e
    rw [hfl]
    exact ⟨[some 0], ⟨rfl, And.intro (And.intro rfl rfl) trivial⟩, rfl, rfl, by simp [AObj.nov, ints_nov]⟩

/-! ### the word -/

theorem autoR_lt {a : AutoD} {X : Nat} : autoR a X < 2 ^ 31 := bitsOf_lt
/-- an edge from which a word's loop is made -/
noncomputable def goodE (a : AutoD) (i : Nat) : Prop :=
  (a.edges.getD i default).mark = true ∧ (autoR a a.start.toNat).testBit (a.edges.getD i default).src.toNat = true ∧ (pathW a (2 ^ (a.edges.getD i default).dst.toNat) (a.edges.getD i default).src.toNat).2 = true
/-- the word that an edge makes -/
noncomputable def wordE (a : AutoD) (i : Nat) : List Int × List Int :=
  (natsI (pathW a a.start.toNat (a.edges.getD i default).src.toNat).1, (a.edges.getD i default).letter :: natsI (pathW a (2 ^ (a.edges.getD i default).dst.toNat) (a.edges.getD i default).src.toNat).1)
open Classical in
noncomputable def autoW (a : AutoD) : (List Int × List Int) × Bool :=
  if h : ∃ i, i < a.edges.length ∧ goodE a i then (wordE a (Classical.choose (least _ h)), true) else (([], []), false)
theorem autoW_at {a : AutoD} {i : Nat} (hi : i < a.edges.length) (h : goodE a i) (hn : ∀ j, j < i → ¬ goodE a j) : autoW a = (wordE a i, true) := by
  have hex : ∃ i, i < a.edges.length ∧ goodE a i := ⟨i, hi, h⟩
  unfold autoW
  rw [dif_pos hex]
  obtain ⟨g1, g2⟩ := Classical.choose_spec (least _ hex)
  have := g2 i ⟨hi, h⟩
  rcases Nat.lt_or_ge (Classical.choose (least _ hex)) i with g | g
  · exact absurd g1.2 (hn _ g)
  · rw [show Classical.choose (least _ hex) = i by omega]
theorem autoW_none {a : AutoD} (hn : ∀ j, j < a.edges.length → ¬ goodE a j) : autoW a = (([], []), false) := by
  unfold autoW
  rw [dif_neg (fun ⟨i, h1, h2⟩ => hn i h1 h2)]

theorem hno_word {a : AutoD} {i : Nat} {w : (List Int × List Int) × Bool} (hn : ∀ j, j < i → ¬ goodE a j) (hi : i < a.edges.length) (hw : autoW a = w) : goodE a i → w = (wordE a i, true) := fun h => by rw [← hw, autoW_at hi h hn]
theorem no_next {a : AutoD} {i : Nat} (hn : ∀ j, j < i → ¬ goodE a j) (h : ¬ goodE a i) : ∀ j, j < i + 1 → ¬ goodE a j := fun j hj => by
  by_cases hji : j = i
  · subst hji; exact h
  · exact hn j (by omega)
theorem edge_key {a : AutoD} {i : Nat} {w : (List Int × List Int) × Bool} {e : EdgeD} (he : a.edges.getD i default = e) (hn : ∀ j, j < i → ¬ goodE a j) (hi : i < a.edges.length) (hw : autoW a = w) :
    (e.mark = true → (autoR a a.start.toNat).testBit e.src.toNat = true → (pathW a (2 ^ e.dst.toNat) e.src.toNat).2 = true →
      w = ((natsI (pathW a a.start.toNat e.src.toNat).1, e.letter :: natsI (pathW a (2 ^ e.dst.toNat) e.src.toNat).1), true)) ∧
    (e.mark = false ∨ (autoR a a.start.toNat).testBit e.src.toNat = false ∨ (pathW a (2 ^ e.dst.toNat) e.src.toNat).2 = false → ∀ j, j < i + 1 → ¬ goodE a j) := by
  subst he
  refine ⟨fun h1 h2 h3 => hno_word hn hi hw ⟨h1, h2, h3⟩, fun h => no_next hn ?_⟩
  rintro ⟨h1, h2, h3⟩
  rcases h with h | h | h
  · rw [h1] at h; cases h
  · rw [h2] at h; cases h
  · rw [h3] at h; cases h

/-- there is a way, or none -/
theorem path_ok {a : AutoD} (ha : AutoOk a) {s t : Nat} (hs : s < a.states.toNat) (ht : t < a.states.toNat) : (pathW a (2 ^ s) t).2 = true ↔ Rel1 (EA a) s t := by
  have hb : ∀ p, p ∈ bitL (2 ^ s) (farT a t).length ↔ p = s := fun p => by
    rw [mem_bitL, farT_len, Nat.testBit_two_pow, decide_eq_true_eq]
    exact ⟨fun h => h.2.symm, fun h => ⟨by omega, h.symm⟩⟩
  have h1 : (pathW a (2 ^ s) t).2 = true ↔ 0 ≤ best (farT a t) (bitL (2 ^ s) (farT a t).length) := by
    unfold pathW
    by_cases h : best (farT a t) (bitL (2 ^ s) (farT a t).length) < 0
    · rw [if_pos h]
      exact ⟨fun h2 => by simp at h2, fun h2 => by omega⟩
    · rw [if_neg h]
      exact ⟨fun _ => by omega, fun _ => rfl⟩
  have h2 : 0 ≤ best (farT a t) (bitL (2 ^ s) (farT a t).length) ↔ 0 ≤ (farT a t).getD s 0 := by
    constructor
    · intro h
      obtain ⟨p, g1, g2⟩ := best_mem h
      obtain rfl := (hb p).1 g1
      omega
    · intro h
      exact (best_le ((hb s).2 rfl) h).1
  rw [h1, h2, farT_at hs]
  constructor
  · intro h
    rcases dist_cases (AE a) (· ∈ [t]) s with c | c
    · omega
    · have hr := walk_rch c.2.1
      have hr2 : Rel1 (AE a) t s := hr.mono fun x hx => .base (by simpa using hx)
      exact hr2.turn
  · intro h
    have hr : Rel1 (AE a) t s := h.turn
    obtain ⟨k, hk⟩ := rch_walk hr
    rcases dist_cases (AE a) (· ∈ [t]) s with c | c
    · refine absurd (c.2 k) (fun hc => hc ?_)
      have : (fun x => x ∈ [t]) = (fun x : Nat => x = t) := by funext x; simp
      rw [this]
      exact hk
    · exact c.1

def wordR (w : (List Int × List Int) × Bool) : AV := .tup [.agg [.ref 0 0 w.1.1.length, .ref 1 0 w.1.2.length], .bool w.2]
def wordO (w : (List Int × List Int) × Bool) : List AObj := [.arr 1 (ints w.1.1), .arr 1 (ints w.1.2)]
def RAWord (xs : List AV) (r : AV) (objs : List AObj) : Prop := ∃ a, xs = [.agg (autoRow a)] ∧ r = (if AutoOk a then wordR (autoW a) else wordR (([], []), false)) ∧ objs = (if AutoOk a then wordO (autoW a) else wordO (([], []), false))

theorem snap_res {l : List Int} {n : Nat} (hn : n = l.length) : (AV.ref 0 0 n).snap (objsH [.arr 1 (ints l)]) = .val (ints l) := snap_all rfl (by rw [length_ints, hn])

theorem arg3 {x : AV} {y z y' z' : Int} (h1 : y = y') (h2 : z = z') : [x, .int .i64 y, .int .i64 z] = [x, .int .i64 y', .int .i64 z'] := by rw [h1, h2]
theorem pwOf_len {a : AutoD} {F : List Int} {b X : Nat} : (pwOf a F b X).length ≤ b := by
  unfold pwOf
  split
  · rename_i h
    obtain ⟨_, g⟩ := Classical.choose_spec h
    have := g.len
    omega
  · exact Nat.zero_le _
theorem path_len {a : AutoD} (ha : AutoOk a) {X t : Nat} (ht : t < a.states.toNat) : (pathW a X t).1.length ≤ 31 := by
  have := best_lt ha (X := X) ht
  unfold pathW
  split
  · exact Nat.zero_le _
  · exact Nat.le_trans pwOf_len (by omega)
theorem path_rows {a : AutoD} (ha : AutoOk a) {X t : Nat} (ht : t < a.states.toNat) : (ints (natsI (pathW a X t).1)).length ≤ 31 := by
  rw [length_ints, length_natsI]; exact path_len ha ht
theorem start_lt {a : AutoD} (ha : AutoOk a) : a.start.toNat < 2 ^ a.states.toNat := by
  have h := ha.1.2.2
  have h2 := natPow a.states.toNat
  omega

set_option maxHeartbeats 8000000 in
theorem s_spec_AutoWord : PureSound Try.prog 47 RAWord := by
  have hR : Rely Try.prog (ctxOf [(70, .pure RAutoOk), (109, .pure RReachS), (110, .pure RHas), (112, .pure RBit), (111, .pure RPathS)]) :=
    rely_cons b_spec_AutoOk.has s_spec_AutoOk (rely_cons b_spec_l4Reach.has s_spec_l4Reach (rely_cons b_spec_l1Has.has s_spec_l1Has (rely_cons b_spec_l1Bit.has s_spec_l1Bit (rely_cons b_spec_PathWord.has s_spec_PathWord (rely_nil mixed)))))
  refine pure_of_aw b_spec_AutoWord ?_
  rintro xs r objs ⟨a, rfl, rfl, rfl⟩ -
  refine ⟨by simp, vc2_sound hR _ _ _ _ _ ?_⟩
  by_cases ha : AutoOk a
  · have hs := ha.1.2.1
    have hlet := ha.1.1
    have hst := ha.1.2.2
    have hsl := start_lt ha
    have es : a.start = ((a.start.toNat : Nat) : Int) := by omega
    rw [if_pos ha, if_pos ha]
    generalize hw : autoW a = w
    have hle := length_edgeRows a.edges
    have hl := ha.2.1
    conv => whnf
    repeat' ((first
      | contradiction
      | (refine And.intro (fun hb => ?_) (fun hb => ?_) <;> first | contradiction | ((try simp only [SB, reduceCtorEq] at hb); try (exfalso; first | contradiction | omega)))
      | refine And.intro rfl ?_
      | refine ⟨_, IntWalk.i64_in _ (by omega), ?_⟩
      | rw [ints_at (by omega)]
      | rw [ints_at0 (by omega)]
      | rw [ints_at' (by omega) (by omega)]
      | refine And.intro (lens_all rfl) ?_
      | refine And.intro (show _ ≤ _ ∧ (_ + 1) * _ ≤ _ ∧ _ + 1 ≤ _ by first | omega | (simp; omega)) ?_
      | refine And.intro (show 1 * _ ≤ _ ∧ 1 ≤ _ by omega) ?_
      | refine And.intro (by first | omega | (simp; omega) | (show _ ∧ _; simp; done)) ?_
      | refine ⟨_, _, RAutoOk_mk, ?_⟩
      | refine ⟨_, _, RReachS_eq (congrArg (fun z => [AV.agg (autoRow a), AV.int .i64 z]) es) ha hsl, ?_⟩
      | fail) <;> conv => whnf)
    refine Lp.intro (α := Nat) (fun i => i ≤ a.edges.length ∧ ∀ j, j < i → ¬ goodE a j) (fun i => a.edges.length - i) (fun i => [(1, .rptr (autoRow a) 0), (2, .ptr 0 0 0), (4, .int .i64 ((autoR a a.start.toNat : Nat) : Int)), (5, .int .i64 i)]) (fun _ => [some (.box [.snil, .snil])]) ?_ ?_
    · refine ⟨0, ⟨Nat.zero_le _, fun j hj => by omega⟩, [some 1], rfl, rfl, And.intro ⟨.inl rfl, .inl rfl, trivial⟩ trivial, ?_⟩
      exact ⟨.inr rfl, rfl, .inl rfl, .inl rfl, trivial⟩
    rintro i ⟨hi, hno⟩
    refine vc2_sound hR _ _ _ _ _ ?_
    by_cases hlt : i < a.edges.length
    · have he := edge_in ha hlt
      have hat := edge_at hlt
      unfold EdgeIn at he
      generalize hee : a.edges.getD i default = e at *
      obtain ⟨k1, k2⟩ := edge_key hee hno hlt hw
      have es1 : e.src = ((e.src.toNat : Nat) : Int) := by omega
      have hb2 : 2 ^ e.dst.toNat < 2 ^ a.states.toNat := Nat.pow_lt_pow_right (by decide) (by omega)
      have hp1 := path_rows ha (X := 2 ^ e.dst.toNat) (t := e.src.toNat) (by omega)
      have hp2 := path_len ha (X := 2 ^ e.dst.toNat) (t := e.src.toNat) (by omega)
      conv => whnf
      repeat' ((first
        | contradiction
        | (refine And.intro (fun hb => ?_) (fun hb => ?_) <;> first | contradiction | ((try simp only [SB, reduceCtorEq] at hb); try (exfalso; first | contradiction | omega)))
        | refine And.intro rfl ?_
        | refine ⟨_, IntWalk.i64_in _ (by omega), ?_⟩
        | rw [ints_at (by omega)]
        | rw [ints_at0 (by omega)]
        | rw [ints_at' (by omega) (by omega)]
        | refine And.intro (lens_all rfl) ?_
        | refine And.intro (show _ ≤ _ ∧ (_ + 1) * _ ≤ _ ∧ _ + 1 ≤ _ by first | omega | (simp; omega)) ?_
        | refine And.intro (show 1 * _ ≤ _ ∧ 1 ≤ _ by omega) ?_
        | refine And.intro (by first | omega | (simp; omega) | (show _ ∧ _; simp; done)) ?_
        | refine And.intro ints_ones ?_
        | rw [hat]
        | refine ⟨_, _, RHas_mk autoR_lt (by omega) (by omega), ?_⟩
        | refine ⟨_, _, RBit_mk (by omega) (by omega), ?_⟩
        | refine ⟨_, _, RPathS_eq (congrArg (fun z => [AV.agg (autoRow a), AV.int .i64 ((2 ^ e.dst.toNat : Nat) : Int), AV.int .i64 z]) es1) ha hb2 (by omega), ?_⟩
        | refine ⟨_, _, RPathS_eq (arg3 es es1) ha hsl (by omega), ?_⟩
        | rw [snap_res (length_natsI _).symm]
        | fail) <;> conv => whnf)
      · obtain rfl := k1 (by assumption) (by assumption) (by assumption)
        refine ⟨.inl rfl, ?_⟩
        conv => whnf
        refine ⟨by simp, [some 2, some 4], ⟨rfl, And.intro (And.intro rfl rfl) (And.intro (And.intro rfl rfl) trivial)⟩, ⟨⟨congrArg (AV.ref 2 0) (length_natsI _).symm, congrArg (AV.ref 4 0) ?_, trivial⟩, .inl rfl, trivial⟩, rfl, ?_⟩
        · rw [length_ints, List.length_cons]; omega
        · simp [wordO, AObj.nov, ints_nov]
      · obtain rfl := k1 (by assumption) (by assumption) (by assumption)
        refine ⟨.inl rfl, ?_⟩
        conv => whnf
        refine ⟨by simp, [some 2, some 4], ⟨rfl, And.intro (And.intro rfl rfl) (And.intro (And.intro rfl rfl) trivial)⟩, ⟨⟨congrArg (AV.ref 2 0) (length_natsI _).symm, congrArg (AV.ref 4 0) ?_, trivial⟩, .inl rfl, trivial⟩, rfl, ?_⟩
        · rw [length_ints, List.length_cons]; omega
        · simp [wordO, AObj.nov, ints_nov]
      all_goals
        refine ⟨i + 1, ⟨hlt, k2 ?_⟩, by omega, [some 0], rfl, rfl, And.intro ⟨.inl rfl, .inl rfl, trivial⟩ trivial, ?_⟩
        · first | exact .inl (by assumption) | exact .inr (.inl (by assumption)) | exact .inr (.inr (by assumption))
        · exact ⟨.inl rfl, rfl, .inl rfl, .inl rfl, trivial⟩
    · conv => whnf
      repeat' ((first
        | contradiction
        | (refine And.intro (fun hb => ?_) (fun hb => ?_) <;> first | contradiction | ((try simp only [SB, reduceCtorEq] at hb); try (exfalso; first | contradiction | omega)))
        | refine And.intro rfl ?_
        | refine ⟨_, IntWalk.i64_in _ (by omega), ?_⟩
        | rw [ints_at (by omega)]
        | rw [ints_at0 (by omega)]
        | rw [ints_at' (by omega) (by omega)]
        | refine And.intro (lens_all rfl) ?_
        | refine And.intro (show _ ≤ _ ∧ (_ + 1) * _ ≤ _ ∧ _ + 1 ≤ _ by first | omega | (simp; omega)) ?_
        | refine And.intro (show 1 * _ ≤ _ ∧ 1 ≤ _ by omega) ?_
        | refine And.intro (by first | omega | (simp; omega) | (show _ ∧ _; simp; done)) ?_
        | fail) <;> conv => whnf)
      rw [autoW_none (fun j hj => hno j (by omega))] at hw
      subst hw
      refine ⟨.inl rfl, ?_⟩
      conv => whnf
      exact ⟨Nat.le_refl 2, [none, none], ⟨rfl, And.intro rfl (And.intro rfl trivial)⟩, ⟨⟨⟨rfl, rfl, rfl⟩, ⟨rfl, rfl, rfl⟩, trivial⟩, .inl rfl, trivial⟩, rfl, rfl⟩
  · rw [if_neg ha, if_neg ha]
    conv => whnf
    repeat' ((first
      | contradiction
      | (refine And.intro (fun hb => ?_) (fun hb => ?_) <;> first | contradiction | ((try simp only [SB, reduceCtorEq] at hb); try (exfalso; first | contradiction | omega)))
      | refine And.intro rfl ?_
      | refine ⟨_, IntWalk.i64_in _ (by omega), ?_⟩
      | rw [ints_at (by omega)]
      | rw [ints_at0 (by omega)]
      | rw [ints_at' (by omega) (by omega)]
      | refine And.intro (lens_all rfl) ?_
      | refine And.intro (show _ ≤ _ ∧ (_ + 1) * _ ≤ _ ∧ _ + 1 ≤ _ by first | omega | (simp; omega)) ?_
      | refine And.intro (show 1 * _ ≤ _ ∧ 1 ≤ _ by omega) ?_
      | refine And.intro (by first | omega | (simp; omega) | (show _ ∧ _; simp; done)) ?_
      | refine ⟨_, _, RAutoOk_mk, ?_⟩
      | fail) <;> conv => whnf)
    refine ⟨.inl rfl, ?_⟩
    conv => whnf
    exact ⟨Nat.le_refl 2, [none, none], ⟨rfl, And.intro rfl (And.intro rfl trivial)⟩, ⟨⟨⟨rfl, rfl, rfl⟩, ⟨rfl, rfl, rfl⟩, trivial⟩, .inl rfl, trivial⟩, rfl, rfl⟩

end Go.Proofs.Ytpfbkblgefddlaa.Ct
