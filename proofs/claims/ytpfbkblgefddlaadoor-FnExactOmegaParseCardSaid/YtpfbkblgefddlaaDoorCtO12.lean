/- OmegaParse, the program's. -/
import Derived.Test.YtpfbkblgefddlaaDoorCtO11
namespace Go.Proofs.YtpfbkblgefddlaaDoor.Ct
set_option linter.unusedSimpArgs false
set_option linter.unusedVariables false
open Go Go.Proofs Go.Proofs.YtpfbkblgefddlaaDoor.Av

def c_impl_OmegaParse : ICode := (.seq (.reg [⟨(some 2), .mv, [(.c .snil)], none⟩, ⟨(some 3), .mv, [(.c (.bool false))], none⟩]) (.seq (.seq (.reg [⟨(some 17), .mv, [(.t 0)], none⟩, ⟨(some 18), .lens, [(.t 17)], none⟩, ⟨(some 19), (.bin .gtr), [(.t 18), (.c (.int .i64 2000))], none⟩]) (.cond (.t 19) (.seq (.reg [⟨(some 2), .mv, [(.c .snil)], none⟩, ⟨(some 3), .mv, [(.c (.bool false))], none⟩]) .ret) .skip)) (.seq (.seq (.reg [⟨(some 20), .mv, [(.t 0)], none⟩, ⟨(some 21), (.bin .eql), [(.t 20), (.c (.str []))], none⟩]) (.cond (.t 21) (.seq (.reg [⟨(some 2), .mv, [(.c .snil)], none⟩, ⟨(some 3), .mv, [(.c (.bool true))], none⟩]) .ret) .skip)) (.seq (.reg [⟨(some 22), .mv, [(.t 0)], none⟩, ⟨(some 23), (.call 11), [(.t 22), (.c (.str [43]))], none⟩, ⟨(some 4), .mv, [(.t 23)], none⟩]) (.seq (.seq (.reg [⟨(some 24), .mv, [(.t 4)], none⟩, ⟨(some 25), .len, [(.t 24)], none⟩, ⟨(some 26), (.bin .gtr), [(.t 25), (.c (.int .i64 4))], none⟩]) (.cond (.t 26) (.seq (.reg [⟨(some 2), .mv, [(.c .snil)], none⟩, ⟨(some 3), .mv, [(.c (.bool false))], none⟩]) .ret) .skip)) (.seq (.reg [⟨(some 5), .mv, [(.c .snil)], none⟩]) (.seq (.seq (.reg [⟨(some 27), .mv, [(.t 4)], none⟩, ⟨(some 28), .len, [(.t 27)], none⟩, ⟨(some 29), .mv, [(.c (.int .i64 0))], none⟩]) (.block 0 (.loop (.seq (.reg [⟨(some 30), (.bin .lss), [(.t 29), (.t 28)], none⟩]) (.seq (.cond (.t 30) .skip (.exit 0)) (.seq (.block 1 (.seq (.reg [⟨(some 31), (.iadr 1), [(.t 27), (.t 29)], none⟩, ⟨(some 32), .ld1, [(.t 31)], none⟩, ⟨(some 7), .mv, [(.t 32)], none⟩]) (.seq (.reg [⟨(some 34), .mv, [(.t 7)], none⟩, ⟨(some 35), (.call 12), [(.t 34), (.c (.str [59]))], none⟩, ⟨(some 33), .mv, [(.t 35)], none⟩, ⟨(some 36), (.ext 0), [(.t 33)], none⟩, ⟨(some 37), (.ext 1), [(.t 33)], none⟩, ⟨(some 38), (.ext 2), [(.t 33)], none⟩, ⟨(some 8), .mv, [(.t 36)], none⟩, ⟨(some 9), .mv, [(.t 37)], none⟩, ⟨(some 10), .mv, [(.t 38)], none⟩]) (.seq (.reg [⟨(some 40), .mv, [(.t 8)], none⟩, ⟨(some 41), (.call 13), [(.t 40)], none⟩, ⟨(some 39), .mv, [(.t 41)], none⟩, ⟨(some 42), (.ext 0), [(.t 39)], none⟩, ⟨(some 43), (.ext 1), [(.t 39)], none⟩, ⟨(some 44), (.ext 2), [(.t 39)], none⟩, ⟨(some 11), .mv, [(.t 42)], none⟩, ⟨(some 12), .mv, [(.t 43)], none⟩, ⟨(some 13), .mv, [(.t 44)], none⟩]) (.seq (.reg [⟨(some 46), .mv, [(.t 9)], none⟩, ⟨(some 47), (.call 13), [(.t 46)], none⟩, ⟨(some 45), .mv, [(.t 47)], none⟩, ⟨(some 48), (.ext 0), [(.t 45)], none⟩, ⟨(some 49), (.ext 1), [(.t 45)], none⟩, ⟨(some 50), (.ext 2), [(.t 45)], none⟩, ⟨(some 14), .mv, [(.t 48)], none⟩, ⟨(some 15), .mv, [(.t 49)], none⟩, ⟨(some 16), .mv, [(.t 50)], none⟩]) (.seq (.seq (.reg [⟨(some 51), .mv, [(.t 10)], none⟩, ⟨(some 52), .not, [(.t 51)], none⟩, ⟨(some 53), .mv, [(.t 52)], none⟩, ⟨(some 54), .mv, [(.t 13)], (some (53, false))⟩, ⟨(some 55), (.bin .neq), [(.t 54), (.c (.int .i64 0))], (some (53, false))⟩, ⟨(some 56), .pick, [(.t 53), (.c (.bool true)), (.t 55)], none⟩, ⟨(some 57), .mv, [(.t 56)], none⟩, ⟨(some 58), .mv, [(.t 16)], (some (57, false))⟩, ⟨(some 59), (.bin .neq), [(.t 58), (.c (.int .i64 0))], (some (57, false))⟩, ⟨(some 60), .pick, [(.t 57), (.c (.bool true)), (.t 59)], none⟩]) (.cond (.t 60) (.seq (.reg [⟨(some 2), .mv, [(.c .snil)], none⟩, ⟨(some 3), .mv, [(.c (.bool false))], none⟩]) .ret) .skip)) (.reg [⟨(some 61), .mv, [(.t 5)], none⟩, ⟨(some 62), .mv, [(.t 11)], none⟩, ⟨(some 63), .mv, [(.t 14)], none⟩, ⟨(some 64), (.bld [.snil, .snil] [(0, 1), (1, 1)]), [(.t 62), (.t 63)], none⟩, ⟨(some 65), (.bslv 2), [(.t 64)], none⟩, ⟨(some 66), (.app 2 48), [(.t 61), (.t 65)], none⟩, ⟨(some 5), .mv, [(.t 66)], none⟩]))))))) (.reg [⟨(some 67), (.bin .add), [(.t 29), (.c (.int .i64 1))], none⟩, ⟨(some 29), .mv, [(.t 67)], none⟩]))))))) (.seq (.reg [⟨(some 68), .mv, [(.t 5)], none⟩, ⟨(some 2), .mv, [(.t 68)], none⟩, ⟨(some 3), .mv, [(.c (.bool true))], none⟩]) .ret))))))))
theorem b_impl_OmegaParse : Body Tryd.prog 5 69 c_impl_OmegaParse [(.t 2), (.t 3)] := body_mk Tryd.func5 (by kernel_rfl) (by decide)

def c_spec_OmegaParse : ICode := (.seq (.reg [⟨(some 2), .mv, [(.c .snil)], none⟩, ⟨(some 3), .mv, [(.c (.bool false))], none⟩]) (.seq (.reg [⟨(some 14), .bsle, [], none⟩, ⟨(some 4), .mv, [(.t 14)], none⟩]) (.seq (.seq (.reg [⟨(some 15), .mv, [(.t 0)], none⟩, ⟨(some 16), (.bin .eql), [(.t 15), (.c (.str []))], none⟩]) (.cond (.t 16) (.seq (.reg [⟨(some 17), .mv, [(.t 4)], none⟩, ⟨(some 2), .mv, [(.t 17)], none⟩, ⟨(some 3), .mv, [(.c (.bool true))], none⟩]) .ret) .skip)) (.seq (.seq (.reg [⟨(some 18), .mv, [(.t 0)], none⟩, ⟨(some 19), .lens, [(.t 18)], none⟩, ⟨(some 20), (.bin .gtr), [(.t 19), (.c (.int .i64 2000))], none⟩]) (.cond (.t 20) (.seq (.reg [⟨(some 21), .mv, [(.t 4)], none⟩, ⟨(some 2), .mv, [(.t 21)], none⟩, ⟨(some 3), .mv, [(.c (.bool false))], none⟩]) .ret) .skip)) (.seq (.reg [⟨(some 22), .mv, [(.t 0)], none⟩, ⟨(some 23), (.call 9), [(.t 22), (.c (.int .u8 43))], none⟩, ⟨(some 5), .mv, [(.t 23)], none⟩]) (.seq (.seq (.reg [⟨(some 6), .mv, [(.c (.int .i64 0))], none⟩]) (.block 0 (.loop (.seq (.seq (.reg [⟨(some 24), .mv, [(.t 6)], none⟩, ⟨(some 25), .mv, [(.t 5)], none⟩, ⟨(some 26), .len, [(.t 25)], none⟩, ⟨(some 27), (.bin .lss), [(.t 24), (.t 26)], none⟩]) (.cond (.t 27) .skip (.exit 0))) (.seq (.block 1 (.seq (.reg [⟨(some 30), .mv, [(.t 5)], none⟩, ⟨(some 31), .mv, [(.t 6)], none⟩, ⟨(some 32), (.iadr 1), [(.t 30), (.t 31)], none⟩, ⟨(some 33), .ld1, [(.t 32)], none⟩, ⟨(some 34), (.call 9), [(.t 33), (.c (.int .u8 59))], none⟩, ⟨(some 7), .mv, [(.t 34)], none⟩]) (.seq (.seq (.reg [⟨(some 35), .mv, [(.t 7)], none⟩, ⟨(some 36), .len, [(.t 35)], none⟩, ⟨(some 37), (.bin .neq), [(.t 36), (.c (.int .i64 2))], none⟩, ⟨(some 38), .mv, [(.t 37)], none⟩, ⟨(some 39), .mv, [(.t 5)], (some (38, false))⟩, ⟨(some 40), .len, [(.t 39)], (some (38, false))⟩, ⟨(some 41), (.bin .gtr), [(.t 40), (.c (.int .i64 4))], (some (38, false))⟩, ⟨(some 42), .pick, [(.t 38), (.c (.bool true)), (.t 41)], none⟩]) (.cond (.t 42) (.seq (.reg [⟨(some 43), .bsle, [], none⟩, ⟨(some 2), .mv, [(.t 43)], none⟩, ⟨(some 3), .mv, [(.c (.bool false))], none⟩]) .ret) .skip)) (.seq (.reg [⟨(some 45), .mv, [(.t 7)], none⟩, ⟨(some 46), (.iadr 1), [(.t 45), (.c (.int .i64 0))], none⟩, ⟨(some 47), .ld1, [(.t 46)], none⟩, ⟨(some 48), (.call 10), [(.t 47)], none⟩, ⟨(some 44), .mv, [(.t 48)], none⟩, ⟨(some 49), (.ext 0), [(.t 44)], none⟩, ⟨(some 50), (.ext 1), [(.t 44)], none⟩, ⟨(some 51), (.ext 2), [(.t 44)], none⟩, ⟨(some 8), .mv, [(.t 49)], none⟩, ⟨(some 9), .mv, [(.t 50)], none⟩, ⟨(some 10), .mv, [(.t 51)], none⟩]) (.seq (.reg [⟨(some 53), .mv, [(.t 7)], none⟩, ⟨(some 54), (.iadr 1), [(.t 53), (.c (.int .i64 1))], none⟩, ⟨(some 55), .ld1, [(.t 54)], none⟩, ⟨(some 56), (.call 10), [(.t 55)], none⟩, ⟨(some 52), .mv, [(.t 56)], none⟩, ⟨(some 57), (.ext 0), [(.t 52)], none⟩, ⟨(some 58), (.ext 1), [(.t 52)], none⟩, ⟨(some 59), (.ext 2), [(.t 52)], none⟩, ⟨(some 11), .mv, [(.t 57)], none⟩, ⟨(some 12), .mv, [(.t 58)], none⟩, ⟨(some 13), .mv, [(.t 59)], none⟩]) (.seq (.seq (.reg [⟨(some 60), .mv, [(.t 10)], none⟩, ⟨(some 61), (.bin .neq), [(.t 60), (.c (.int .i64 0))], none⟩, ⟨(some 62), .mv, [(.t 61)], none⟩, ⟨(some 63), .mv, [(.t 13)], (some (62, false))⟩, ⟨(some 64), (.bin .neq), [(.t 63), (.c (.int .i64 0))], (some (62, false))⟩, ⟨(some 65), .pick, [(.t 62), (.c (.bool true)), (.t 64)], none⟩]) (.cond (.t 65) (.seq (.reg [⟨(some 66), .bsle, [], none⟩, ⟨(some 2), .mv, [(.t 66)], none⟩, ⟨(some 3), .mv, [(.c (.bool false))], none⟩]) .ret) .skip)) (.reg [⟨(some 67), .mv, [(.t 4)], none⟩, ⟨(some 68), .mv, [(.t 8)], none⟩, ⟨(some 69), .mv, [(.t 11)], none⟩, ⟨(some 70), (.bld [.snil, .snil] [(0, 1), (1, 1)]), [(.t 68), (.t 69)], none⟩, ⟨(some 71), (.bslv 2), [(.t 70)], none⟩, ⟨(some 72), (.app 2 48), [(.t 67), (.t 71)], none⟩, ⟨(some 4), .mv, [(.t 72)], none⟩]))))))) (.reg [⟨(some 28), .mv, [(.t 6)], none⟩, ⟨(some 29), (.bin .add), [(.t 28), (.c (.int .i64 1))], none⟩, ⟨(some 6), .mv, [(.t 29)], none⟩])))))) (.seq (.reg [⟨(some 73), .mv, [(.t 4)], none⟩, ⟨(some 2), .mv, [(.t 73)], none⟩, ⟨(some 3), .mv, [(.c (.bool true))], none⟩]) .ret)))))))
theorem b_spec_OmegaParse : Body Tryd.prog 4 74 c_spec_OmegaParse [(.t 2), (.t 3)] := body_mk Tryd.func4 (by kernel_rfl) (by decide)


def ROmega (xs : List AV) (r : AV) (objs : List AObj) : Prop := ∃ s, xs = [.str s] ∧ r = .tup [.ref 0 0 (omParse s).1.length, .bool (omParse s).2] ∧ objs = [.nst 2 (omOwns (omParse s).1)]
theorem ROmega_mk {s : List UInt8} : ROmega [.str s] (.tup [.ref 0 0 (omParse s).1.length, .bool (omParse s).2]) [.nst 2 (omOwns (omParse s).1)] := ⟨s, rfl, rfl, rfl⟩

/-- an empty list, told -/
theorem om_nil {h : Heap} {b : Bool} {x : List OmegaD × Bool} (hx : x = ([], b)) : ∃ σ, CovS σ h ([AObj.nst 2 (omOwns x.1)].map some) ∧ covV σ h (.tup [.snil, .bool b]) (.tup [.ref 0 0 x.1.length, .bool x.2]) ∧ (AV.tup [.ref 0 0 x.1.length, .bool x.2]).nov = true ∧ [AObj.nst 2 (omOwns x.1)].all AObj.nov = true := by
  subst hx
  exact ⟨[none], ⟨rfl, And.intro rfl trivial⟩, And.intro ⟨rfl, rfl, rfl⟩ (And.intro (.inl rfl) trivial), rfl, rfl⟩
/-- .. a list -/
theorem om_list {h : Heap} {k n : Nat} {l : List OmegaD} {b : Bool} {x : List OmegaD × Bool} (hx : x = (l, b)) (hk : h k = some (.nst 2 (omOwns l))) (hn : n = l.length) : ∃ σ, CovS σ h ([AObj.nst 2 (omOwns x.1)].map some) ∧ covV σ h (.tup [.ref k 0 n, .bool b]) (.tup [.ref 0 0 x.1.length, .bool x.2]) ∧ (AV.tup [.ref 0 0 x.1.length, .bool x.2]).nov = true ∧ [AObj.nst 2 (omOwns x.1)].all AObj.nov = true := by
  subst hx hn
  refine ⟨[some k], ⟨by simp [nodupB], And.intro ?_ trivial⟩, And.intro rfl (And.intro (.inl rfl) trivial), rfl, omOwns_nov l⟩
  rw [hk]; exact ⟨rfl, rfl⟩

theorem str_at {l : List (List UInt8)} {i : Nat} (h : i < l.length) : (strRows l)[0 + ((i : Nat) : Int).toNat]? = some (strRow (l.getD i default)) := map_at0 h

theorem om_app {p : List OmegaD} {n : Nat} {row : List AV} (hn : n = p.length) : List.take n (omOwns p) ++ [row] = omOwns p ++ [row] := by
  rw [List.take_of_length_le (by rw [length_omOwns]; omega)]

theorem om_last {p : List OmegaD} {row : List AV} {n : Nat} (hn : n = p.length) : (List.take n (omOwns p) ++ [row])[p.length]? = some row := by
  rw [om_app hn, List.getElem?_append_right (by rw [length_omOwns]; exact Nat.le_refl _), length_omOwns, Nat.sub_self]
  rfl
theorem om_done {p : List OmegaD} {n : Nat} {o : OmegaD} {r1 r2 : List AV} (hn : n = p.length) : ((List.take n (omOwns p) ++ [r1]).set p.length r2).set p.length (omOwn o) = omOwns (p ++ [o]) := by
  rw [List.set_set, om_app hn, List.set_append_right _ _ (by rw [length_omOwns]; exact Nat.le_refl _), length_omOwns, Nat.sub_self]
  simp [omOwns]

set_option maxHeartbeats 8000000 in
set_option maxRecDepth 4000 in
theorem s_impl_OmegaParse : PureSound Tryd.prog 5 ROmega := by
  have hR : Rely Tryd.prog (ctxOf [(11, .pure RSplit), (12, .pure RCut), (13, .pure RReParse)]) :=
    rely_cons b_strings_Split.has s_Split (rely_cons b_strings_Cut.has s_Cut (rely_cons b_impl_ReParse.has s_impl_ReParse (rely_nil mixed)))
  refine pure_of_aw b_impl_OmegaParse ?_
  rintro xs r objs ⟨s, rfl, rfl, rfl⟩ -
  refine ⟨by simp, vc2_sound hR _ _ _ _ _ ?_⟩
  have hpl := pieces_len 43 s
  have hlr := length_strRows (pieces s 43)
  conv => whnf
  repeat' ((first
    | contradiction
    | (refine And.intro (fun hb => ?_) (fun hb => ?_) <;> first | contradiction | ((try simp only [SB, reduceCtorEq] at hb); try (exfalso; first | contradiction | omega)))
    | refine And.intro rfl ?_
    | refine ⟨_, IntWalk.i64_in _ (by omega), ?_⟩
    | rw [ints_at (by omega)]
    | rw [ints_at0 (by omega)]
    | rw [ints_at' (by omega) (by omega)]
    | refine And.intro (lens_all rfl) ?_
    | refine And.intro (show _ ≤ _ ∧ (_ + 1) * _ ≤ _ ∧ _ + 1 ≤ _ by first | omega | (simp; omega)) ?_
    | refine And.intro (show 1 * _ ≤ _ ∧ 1 ≤ _ by omega) ?_
    | refine And.intro (by first | omega | (simp; omega) | (show _ ∧ _; simp; done)) ?_
    | refine ⟨_, _, RSplit_mk (c := 43) (by omega), ?_⟩
    | fail) <;> conv => whnf)
  · refine ⟨.inl rfl, ?_⟩
    conv => whnf
    exact om_nil (by unfold omParse; rw [if_pos (by omega)])
  · refine ⟨.inl rfl, ?_⟩
    conv => whnf
    exact om_nil (by unfold omParse; rw [if_neg (by omega), if_pos hb])
  · refine ⟨.inl rfl, ?_⟩
    conv => whnf
    exact om_nil (by unfold omParse; rw [if_neg (by omega), if_neg (by assumption), if_pos (by omega)])
  rename_i hs0 hs1
  have hnone : omAll (pieces s 43) = none → omParse s = ([], false) := fun h => by
    unfold omParse
    rw [if_neg (by omega), if_neg hs1, if_neg (by omega), h]
  have hsome : ∀ l, omAll (pieces s 43) = some l → omParse s = (l, true) := fun l h => by
    unfold omParse
    rw [if_neg (by omega), if_neg hs1, if_neg (by omega), h]
  have hpc : ∀ i, i < (pieces s 43).length → ((pieces s 43).getD i default).length ≤ 2000 := fun i hi => by
    have : (pieces s 43).getD i default ∈ pieces s 43 := by
      rw [List.getD_eq_getElem?_getD, List.getElem?_eq_getElem hi]
      exact List.getElem_mem hi
    have := pieces_le this
    omega
  generalize pieces s 43 = ps at *
  refine Lp.introT (α := List OmegaD) (fun p => p.length ≤ ps.length ∧ omAll (ps.take p.length) = some p) (fun p => ps.length - p.length) (fun p => [(5, .ref 1 0 p.length), (27, .ref 0 0 ps.length), (28, .int .i64 ps.length), (29, .int .i64 p.length)])
    (fun p => [some (.arr 1 (strRows ps)), some (.nst 2 (omOwns p))]) ?_ ?_
  · refine ⟨[], ⟨Nat.zero_le _, rfl⟩, [some 0, none], rfl, rfl, And.intro (And.intro rfl rfl) (And.intro rfl trivial), ?_⟩
    exact ⟨⟨rfl, rfl, rfl⟩, rfl, .inl rfl, .inl rfl, trivial⟩
  · rintro p ⟨hp, hall⟩
    have hol := length_omOwns p
    by_cases hlt : p.length < ps.length
    · refine Aw.turn (.lax 1 2 _ (.inr rfl) (.refl _ _)) (vc2_sound hR _ _ _ _ _ ?_)
      have hcl := hpc _ hlt
      have hbad : ¬ ((cutAt (ps.getD p.length default) 59).2.2 = true ∧ (parseE (cutAt (ps.getD p.length default) 59).1).c = 0 ∧ (parseE (cutAt (ps.getD p.length default) 59).2.1).c = 0) → omParse s = ([], false) := fun hh =>
        hnone (omAll_none hlt (by unfold omOne; rw [if_neg hh]))
      by_cases h1 : (parseE (cutAt (ps.getD p.length default) 59).1).c = 0
      · by_cases h2 : (parseE (cutAt (ps.getD p.length default) 59).2.1).c = 0
        · conv => whnf
          repeat' ((first
            | contradiction
            | (refine And.intro (fun hb => ?_) (fun hb => ?_) <;> first | contradiction | ((try simp only [SB, reduceCtorEq] at hb); try (exfalso; first | contradiction | omega)))
            | refine And.intro rfl ?_
            | refine ⟨_, IntWalk.i64_in _ (by omega), ?_⟩
            | rw [ints_at (by omega)]
            | rw [ints_at0 (by omega)]
            | rw [ints_at' (by omega) (by omega)]
            | refine And.intro (lens_all rfl) ?_
            | refine And.intro (show _ ≤ _ ∧ (_ + 1) * _ ≤ _ ∧ _ + 1 ≤ _ by first | omega | (simp; omega)) ?_
            | refine And.intro (show 1 * _ ≤ _ ∧ 1 ≤ _ by omega) ?_
            | refine And.intro (by first | omega | (simp; omega) | (show _ ∧ _; simp; done)) ?_
            | rw [str_at (by omega)]
            | refine ⟨_, _, RCut_mk (s := ps.getD p.length default) (c := 59) (by omega), ?_⟩
            | refine ⟨_, _, RReParse_ok h1, ?_⟩
            | refine ⟨_, _, RReParse_ok h2, ?_⟩
            | fail) <;> conv => whnf)
          · refine ⟨_, _, .fold 4 2 p.length 0 2 3 (List.take p.length (omOwns p) ++ [[.ref 2 0 (parseE (cutAt (ps.getD p.length default) 59).1).l.length, .ref 3 0 (parseE (cutAt (ps.getD p.length default) 59).2.1).l.length]]) [.ref 2 0 (parseE (cutAt (ps.getD p.length default) 59).1).l.length, .ref 3 0 (parseE (cutAt (ps.getD p.length default) 59).2.1).l.length] (nodeRows (parseE (cutAt (ps.getD p.length default) 59).1).l) rfl rfl (by decide) (om_last rfl) _ (length_nodeRows _) rfl
              (.fold 4 3 p.length 1 2 3 _ [.own 3 (nodeRows (parseE (cutAt (ps.getD p.length default) 59).1).l), .ref 3 0 (parseE (cutAt (ps.getD p.length default) 59).2.1).l.length] (nodeRows (parseE (cutAt (ps.getD p.length default) 59).2.1).l) rfl rfl (by decide) (List.getElem?_set_self (by simp)) _ (length_nodeRows _) rfl
              (.clos 4 2 (omOwns (p ++ [⟨(parseE (cutAt (ps.getD p.length default) 59).1).l, (parseE (cutAt (ps.getD p.length default) 59).2.1).l⟩])) (congrArg (fun r => some (AObj.arx 2 r)) (om_done (p := p) (o := ⟨_, _⟩) rfl)) (omOwns_sealed _) (.refl _ _))),
              p ++ [⟨(parseE (cutAt (ps.getD p.length default) 59).1).l, (parseE (cutAt (ps.getD p.length default) 59).2.1).l⟩], ⟨by simp; omega, by simp only [List.length_append, List.length_singleton]; exact omAll_take hlt hall (by unfold omOne; rw [if_pos ⟨by assumption, h1, h2⟩])⟩, by simp; omega, [some 0, some 4], rfl, rfl, And.intro (And.intro rfl rfl) (And.intro (And.intro rfl rfl) trivial), ?_⟩
            exact ⟨congrArg (AV.ref 4 0) (by simp), rfl, .inl rfl, .inl (congrArg (AV.int .i64) (by simp)), trivial⟩
          all_goals
            refine ⟨.inl rfl, ?_⟩
            conv => whnf
            exact om_nil (hbad (by rintro ⟨g1, g2, g3⟩; simp_all))
        · conv => whnf
          repeat' ((first
            | contradiction
            | (refine And.intro (fun hb => ?_) (fun hb => ?_) <;> first | contradiction | ((try simp only [SB, reduceCtorEq] at hb); try (exfalso; first | contradiction | omega)))
            | refine And.intro rfl ?_
            | refine ⟨_, IntWalk.i64_in _ (by omega), ?_⟩
            | rw [ints_at (by omega)]
            | rw [ints_at0 (by omega)]
            | rw [ints_at' (by omega) (by omega)]
            | refine And.intro (lens_all rfl) ?_
            | refine And.intro (show _ ≤ _ ∧ (_ + 1) * _ ≤ _ ∧ _ + 1 ≤ _ by first | omega | (simp; omega)) ?_
            | refine And.intro (show 1 * _ ≤ _ ∧ 1 ≤ _ by omega) ?_
            | refine And.intro (by first | omega | (simp; omega) | (show _ ∧ _; simp; done)) ?_
            | rw [str_at (by omega)]
            | refine ⟨_, _, RCut_mk (s := ps.getD p.length default) (c := 59) (by omega), ?_⟩
            | refine ⟨_, _, RReParse_ok h1, ?_⟩
            | refine ⟨_, _, RReParse_bad h2, ?_⟩
            | fail) <;> conv => whnf)
          all_goals
            refine ⟨.inl rfl, ?_⟩
            conv => whnf
            exact om_nil (hbad (by rintro ⟨g1, g2, g3⟩; simp_all))
      · by_cases h2 : (parseE (cutAt (ps.getD p.length default) 59).2.1).c = 0
        · conv => whnf
          repeat' ((first
            | contradiction
            | (refine And.intro (fun hb => ?_) (fun hb => ?_) <;> first | contradiction | ((try simp only [SB, reduceCtorEq] at hb); try (exfalso; first | contradiction | omega)))
            | refine And.intro rfl ?_
            | refine ⟨_, IntWalk.i64_in _ (by omega), ?_⟩
            | rw [ints_at (by omega)]
            | rw [ints_at0 (by omega)]
            | rw [ints_at' (by omega) (by omega)]
            | refine And.intro (lens_all rfl) ?_
            | refine And.intro (show _ ≤ _ ∧ (_ + 1) * _ ≤ _ ∧ _ + 1 ≤ _ by first | omega | (simp; omega)) ?_
            | refine And.intro (show 1 * _ ≤ _ ∧ 1 ≤ _ by omega) ?_
            | refine And.intro (by first | omega | (simp; omega) | (show _ ∧ _; simp; done)) ?_
            | rw [str_at (by omega)]
            | refine ⟨_, _, RCut_mk (s := ps.getD p.length default) (c := 59) (by omega), ?_⟩
            | refine ⟨_, _, RReParse_bad h1, ?_⟩
            | refine ⟨_, _, RReParse_ok h2, ?_⟩
            | fail) <;> conv => whnf)
          all_goals
            refine ⟨.inl rfl, ?_⟩
            conv => whnf
            exact om_nil (hbad (by rintro ⟨g1, g2, g3⟩; simp_all))
        · conv => whnf
          repeat' ((first
            | contradiction
            | (refine And.intro (fun hb => ?_) (fun hb => ?_) <;> first | contradiction | ((try simp only [SB, reduceCtorEq] at hb); try (exfalso; first | contradiction | omega)))
            | refine And.intro rfl ?_
            | refine ⟨_, IntWalk.i64_in _ (by omega), ?_⟩
            | rw [ints_at (by omega)]
            | rw [ints_at0 (by omega)]
            | rw [ints_at' (by omega) (by omega)]
            | refine And.intro (lens_all rfl) ?_
            | refine And.intro (show _ ≤ _ ∧ (_ + 1) * _ ≤ _ ∧ _ + 1 ≤ _ by first | omega | (simp; omega)) ?_
            | refine And.intro (show 1 * _ ≤ _ ∧ 1 ≤ _ by omega) ?_
            | refine And.intro (by first | omega | (simp; omega) | (show _ ∧ _; simp; done)) ?_
            | rw [str_at (by omega)]
            | refine ⟨_, _, RCut_mk (s := ps.getD p.length default) (c := 59) (by omega), ?_⟩
            | refine ⟨_, _, RReParse_bad h1, ?_⟩
            | refine ⟨_, _, RReParse_bad h2, ?_⟩
            | fail) <;> conv => whnf)
          all_goals
            refine ⟨.inl rfl, ?_⟩
            conv => whnf
            exact om_nil (hbad (by rintro ⟨g1, g2, g3⟩; simp_all))
    · refine vc2_sound hR _ _ _ _ _ ?_
      conv => whnf
      repeat' ((first
        | contradiction
        | (refine And.intro (fun hb => ?_) (fun hb => ?_) <;> first | contradiction | ((try simp only [SB, reduceCtorEq] at hb); try (exfalso; first | contradiction | omega)))
        | refine And.intro rfl ?_
        | refine ⟨_, IntWalk.i64_in _ (by omega), ?_⟩
        | rw [ints_at (by omega)]
        | rw [ints_at0 (by omega)]
        | rw [ints_at' (by omega) (by omega)]
        | refine And.intro (lens_all rfl) ?_
        | refine And.intro (show _ ≤ _ ∧ (_ + 1) * _ ≤ _ ∧ _ + 1 ≤ _ by first | omega | (simp; omega)) ?_
        | refine And.intro (show 1 * _ ≤ _ ∧ 1 ≤ _ by omega) ?_
        | refine And.intro (by first | omega | (simp; omega) | (show _ ∧ _; simp; done)) ?_
        | fail) <;> conv => whnf)
      refine ⟨.inl rfl, ?_⟩
      conv => whnf
      exact om_list (hsome p (by rw [← hall, List.take_of_length_le (by omega)])) rfl rfl

end Go.Proofs.YtpfbkblgefddlaaDoor.Ct
