/- OmegaParse, the reference's; the law. -/
import Derived.Test.YtpfbkblgefddlaaDoorCtO12
namespace Go.Proofs.YtpfbkblgefddlaaDoor.Ct
set_option linter.unusedSimpArgs false
set_option linter.unusedVariables false
open Go Go.Proofs Go.Proofs.YtpfbkblgefddlaaDoor.Av

def c_laws_FnExactOmegaParse : ICode := (.seq (.reg [⟨(some 2), .mv, [(.c (.bool false))], none⟩]) (.seq (.seq (.reg [⟨(some 11), .mv, [(.t 0)], none⟩, ⟨(some 12), .lens, [(.t 11)], none⟩, ⟨(some 13), (.bin .gtr), [(.t 12), (.c (.int .i64 1048576))], none⟩]) (.cond (.t 13) (.seq (.reg [⟨(some 2), .mv, [(.c (.bool true))], none⟩]) .ret) .skip)) (.seq (.reg [⟨(some 15), .mv, [(.t 0)], none⟩, ⟨(some 16), (.call 4), [(.t 15)], none⟩, ⟨(some 14), .mv, [(.t 16)], none⟩, ⟨(some 17), (.ext 0), [(.t 14)], none⟩, ⟨(some 18), (.ext 1), [(.t 14)], none⟩, ⟨(some 3), .mv, [(.t 17)], none⟩, ⟨(some 4), .mv, [(.t 18)], none⟩]) (.seq (.reg [⟨(some 20), .mv, [(.t 0)], none⟩, ⟨(some 21), (.call 5), [(.t 20)], none⟩, ⟨(some 19), .mv, [(.t 21)], none⟩, ⟨(some 22), (.ext 0), [(.t 19)], none⟩, ⟨(some 23), (.ext 1), [(.t 19)], none⟩, ⟨(some 5), .mv, [(.t 22)], none⟩, ⟨(some 6), .mv, [(.t 23)], none⟩]) (.seq (.seq (.reg [⟨(some 24), .mv, [(.t 5)], none⟩, ⟨(some 25), .mv, [(.t 3)], none⟩, ⟨(some 26), (.call 6), [(.t 24), (.t 25)], none⟩, ⟨(some 27), .not, [(.t 26)], none⟩, ⟨(some 28), .mv, [(.t 27)], none⟩, ⟨(some 29), .mv, [(.t 6)], (some (28, false))⟩, ⟨(some 30), .mv, [(.t 4)], (some (28, false))⟩, ⟨(some 31), (.beq true), [(.t 29), (.t 30)], (some (28, false))⟩, ⟨(some 32), .pick, [(.t 28), (.c (.bool true)), (.t 31)], none⟩]) (.cond (.t 32) (.seq (.reg [⟨(some 2), .mv, [(.c (.bool false))], none⟩]) .ret) .skip)) (.seq (.reg [⟨(some 7), .mv, [(.c (.int .i64 1))], none⟩]) (.seq (.reg [⟨(some 33), .mv, [(.t 5)], none⟩, ⟨(some 34), .mv, [(.t 7)], none⟩, ⟨(some 35), (.call 7), [(.t 33), (.t 34)], none⟩, ⟨(some 7), .mv, [(.t 35)], none⟩]) (.seq (.reg [⟨(some 8), .mv, [(.c (.int .i64 1))], none⟩]) (.seq (.reg [⟨(some 36), .mv, [(.t 5)], none⟩, ⟨(some 37), .mv, [(.t 8)], none⟩, ⟨(some 38), (.call 8), [(.t 36), (.t 37)], none⟩, ⟨(some 8), .mv, [(.t 38)], none⟩]) (.seq (.seq (.reg [⟨(some 39), .mv, [(.t 8)], none⟩, ⟨(some 40), (.bin .lss), [(.t 39), (.c (.int .i64 0))], none⟩]) (.cond (.t 40) (.seq (.reg [⟨(some 2), .mv, [(.c (.bool false))], none⟩]) .ret) .skip)) (.seq (.seq (.reg [⟨(some 41), .mv, [(.t 8)], none⟩, ⟨(some 42), .mv, [(.t 7)], none⟩, ⟨(some 43), (.bin .neq), [(.t 41), (.t 42)], none⟩]) (.cond (.t 43) (.seq (.reg [⟨(some 2), .mv, [(.c (.bool false))], none⟩]) .ret) .skip)) (.seq (.reg [⟨(some 45), .mv, [(.t 0)], none⟩, ⟨(some 46), (.call 5), [(.t 45)], none⟩, ⟨(some 44), .mv, [(.t 46)], none⟩, ⟨(some 47), (.ext 0), [(.t 44)], none⟩, ⟨(some 48), (.ext 1), [(.t 44)], none⟩, ⟨(some 9), .mv, [(.t 47)], none⟩, ⟨(some 10), .mv, [(.t 48)], none⟩]) (.seq (.seq (.reg [⟨(some 49), .mv, [(.t 9)], none⟩, ⟨(some 50), .mv, [(.t 3)], none⟩, ⟨(some 51), (.call 6), [(.t 49), (.t 50)], none⟩, ⟨(some 52), .not, [(.t 51)], none⟩, ⟨(some 53), .mv, [(.t 52)], none⟩, ⟨(some 54), .mv, [(.t 10)], (some (53, false))⟩, ⟨(some 55), .mv, [(.t 4)], (some (53, false))⟩, ⟨(some 56), (.beq true), [(.t 54), (.t 55)], (some (53, false))⟩, ⟨(some 57), .pick, [(.t 53), (.c (.bool true)), (.t 56)], none⟩]) (.cond (.t 57) (.seq (.reg [⟨(some 2), .mv, [(.c (.bool false))], none⟩]) .ret) .skip)) (.seq (.reg [⟨(some 8), .mv, [(.c (.int .i64 1))], none⟩]) (.seq (.reg [⟨(some 58), .mv, [(.t 5)], none⟩, ⟨(some 59), .mv, [(.t 8)], none⟩, ⟨(some 60), (.call 8), [(.t 58), (.t 59)], none⟩, ⟨(some 8), .mv, [(.t 60)], none⟩]) (.seq (.seq (.reg [⟨(some 61), .mv, [(.t 8)], none⟩, ⟨(some 62), (.bin .lss), [(.t 61), (.c (.int .i64 0))], none⟩]) (.cond (.t 62) (.seq (.reg [⟨(some 2), .mv, [(.c (.bool false))], none⟩]) .ret) .skip)) (.seq (.seq (.reg [⟨(some 63), .mv, [(.t 8)], none⟩, ⟨(some 64), .mv, [(.t 7)], none⟩, ⟨(some 65), (.bin .neq), [(.t 63), (.t 64)], none⟩]) (.cond (.t 65) (.seq (.reg [⟨(some 2), .mv, [(.c (.bool false))], none⟩]) .ret) .skip)) (.seq (.reg [⟨(some 2), .mv, [(.c (.bool true))], none⟩]) .ret))))))))))))))))))
theorem b_laws_FnExactOmegaParse : Body Tryd.prog 3 66 c_laws_FnExactOmegaParse [(.t 2)] := body_mk Tryd.func3 (by kernel_rfl) (by decide)


theorem two_at0 {a b : List UInt8} : (strRows [a, b])[((0 : Nat) : Int).toNat]? = some (strRow a) := rfl

set_option maxHeartbeats 8000000 in
set_option maxRecDepth 4000 in
theorem s_spec_OmegaParse : PureSound Tryd.prog 4 ROmega := by
  have hR : Rely Tryd.prog (ctxOf [(9, .pure RCutS), (10, .pure RReParse)]) :=
    rely_cons b_spec_l12Cut.has s_l12Cut (rely_cons b_spec_ReParse.has s_spec_ReParse (rely_nil mixed))
  refine pure_of_aw b_spec_OmegaParse ?_
  rintro xs r objs ⟨s, rfl, rfl, rfl⟩ -
  refine ⟨by simp, vc2_sound hR _ _ _ _ _ ?_⟩
  have hpl := pieces_len 43 s
  conv => whnf
  repeat' ((first
    | contradiction
    | (refine And.intro (fun hb => ?_) (fun hb => ?_) <;> first | contradiction | ((try simp only [SB, reduceCtorEq] at hb); try (exfalso; first | contradiction | omega)))
    | refine And.intro rfl ?_
    | refine ⟨_, IntWalk.i64_in _ (by omega), ?_⟩
    | rw [ints_at (by omega)]
    | rw [ints_at0 (by omega)]
    | rw [ints_at' (by omega) (by omega)]
    | refine And.intro (lens_all rfl) ?_
    | refine And.intro (show _ ≤ _ ∧ (_ + 1) * _ ≤ _ ∧ _ + 1 ≤ _ by first | omega | (simp; omega)) ?_
    | refine And.intro (show 1 * _ ≤ _ ∧ 1 ≤ _ by omega) ?_
    | refine And.intro (by first | omega | (simp; omega) | (show _ ∧ _; simp; done)) ?_
    | refine ⟨_, _, RCutS_mk 43 (by omega), ?_⟩
    | fail) <;> conv => whnf)
  · refine ⟨.inl rfl, ?_⟩
    conv => whnf
    exact om_nil (by subst hb; rfl)
  · refine ⟨.inl rfl, ?_⟩
    conv => whnf
    exact om_nil (by unfold omParse; rw [if_pos (by omega)])
  rename_i hs1
  have hs0 : ¬ 2000 < s.length := by omega
  have hlr := length_strRows (pieces s 43)
  have hmany : 4 < (pieces s 43).length → omParse s = ([], false) := fun h => by
    unfold omParse
    rw [if_neg hs0, if_neg hs1, if_pos h]
  have hnone : (pieces s 43).length ≤ 4 → omAll (pieces s 43) = none → omParse s = ([], false) := fun h4 h => by
    unfold omParse
    rw [if_neg hs0, if_neg hs1, if_neg (by omega), h]
  have hsome : (pieces s 43).length ≤ 4 → ∀ l, omAll (pieces s 43) = some l → omParse s = (l, true) := fun h4 l h => by
    unfold omParse
    rw [if_neg hs0, if_neg hs1, if_neg (by omega), h]
  have hpc : ∀ i, i < (pieces s 43).length → ((pieces s 43).getD i default).length ≤ 2000 := fun i hi => by
    have : (pieces s 43).getD i default ∈ pieces s 43 := by
      rw [List.getD_eq_getElem?_getD, List.getElem?_eq_getElem hi]
      exact List.getElem_mem hi
    have := pieces_le this
    omega
  have hcl : s.count 43 ≤ s.length := List.count_le_length
  generalize pieces s 43 = ps at *
  refine Lp.introT (α := List OmegaD) (fun p => p.length ≤ ps.length ∧ (p = [] ∨ ps.length ≤ 4) ∧ omAll (ps.take p.length) = some p) (fun p => ps.length - p.length) (fun p => [(0, .str s), (4, .ref 1 0 p.length), (5, .ref 0 0 ps.length), (6, .int .i64 p.length)])
    (fun p => [some (.arr 1 (strRows ps)), some (.nst 2 (omOwns p))]) ?_ ?_
  · refine ⟨[], ⟨Nat.zero_le _, .inl rfl, rfl⟩, [some 0, none], rfl, rfl, And.intro (And.intro rfl rfl) (And.intro rfl trivial), ?_⟩
    exact ⟨.inl rfl, ⟨rfl, rfl, rfl⟩, rfl, .inl rfl, trivial⟩
  · rintro p ⟨hp, hp4, hall⟩
    have hol := length_omOwns p
    by_cases hlt : p.length < ps.length
    · refine Aw.turn (.lax 1 2 _ (.inr rfl) (.refl _ _)) (vc2_sound hR _ _ _ _ _ ?_)
      have hcl := hpc _ hlt
      have hbad : ¬ ((cutAt (ps.getD p.length default) 59).2.2 = true ∧ (parseE (cutAt (ps.getD p.length default) 59).1).c = 0 ∧ (parseE (cutAt (ps.getD p.length default) 59).2.1).c = 0) → omParse s = ([], false) := fun hh => by
        rcases Nat.lt_or_ge 4 ps.length with h4 | h4
        · exact hmany h4
        · exact hnone h4 (omAll_none hlt (by unfold omOne; rw [if_neg hh]))
      by_cases h2 : (pieces (ps.getD p.length default) 59).length = 2
      · obtain ⟨a, b, hpt⟩ : ∃ a b, pieces (ps.getD p.length default) 59 = [a, b] := by
          match h : pieces (ps.getD p.length default) 59, h2 with
          | [a, b], _ => exact ⟨a, b, rfl⟩
        have hcut := pieces_two hpt
        rw [hcut] at hbad
        dsimp only at hbad
        rcases Nat.lt_or_ge 4 ps.length with h4 | h4
        · conv => whnf
          repeat' ((first
            | contradiction
            | (refine And.intro (fun hb => ?_) (fun hb => ?_) <;> first | contradiction | ((try simp only [SB, reduceCtorEq] at hb); try (exfalso; first | contradiction | omega)))
            | refine And.intro rfl ?_
            | refine ⟨_, IntWalk.i64_in _ (by omega), ?_⟩
            | rw [ints_at (by omega)]
            | rw [ints_at0 (by omega)]
            | rw [ints_at' (by omega) (by omega)]
            | refine And.intro (lens_all rfl) ?_
            | refine And.intro (show _ ≤ _ ∧ (_ + 1) * _ ≤ _ ∧ _ + 1 ≤ _ by first | omega | (simp; omega)) ?_
            | refine And.intro (show 1 * _ ≤ _ ∧ 1 ≤ _ by omega) ?_
            | refine And.intro (by first | omega | (simp; omega) | (show _ ∧ _; simp; done)) ?_
            | rw [str_at (by omega)]
            | refine ⟨_, _, RCutS_mk 59 (by omega), ?_⟩
            | rw [hpt]
            | fail) <;> conv => whnf)
          refine ⟨.inl rfl, ?_⟩
          conv => whnf
          exact om_nil (hmany h4)
        by_cases h1 : (parseE a).c = 0
        · by_cases h3 : (parseE b).c = 0
          · conv => whnf
            repeat' ((first
              | contradiction
              | (refine And.intro (fun hb => ?_) (fun hb => ?_) <;> first | contradiction | ((try simp only [SB, reduceCtorEq] at hb); try (exfalso; first | contradiction | omega)))
              | refine And.intro rfl ?_
              | refine ⟨_, IntWalk.i64_in _ (by omega), ?_⟩
              | rw [ints_at (by omega)]
              | rw [ints_at0 (by omega)]
              | rw [ints_at' (by omega) (by omega)]
              | refine And.intro (lens_all rfl) ?_
              | refine And.intro (show _ ≤ _ ∧ (_ + 1) * _ ≤ _ ∧ _ + 1 ≤ _ by first | omega | (simp; omega)) ?_
              | refine And.intro (show 1 * _ ≤ _ ∧ 1 ≤ _ by omega) ?_
              | refine And.intro (by first | omega | (simp; omega) | (show _ ∧ _; simp; done)) ?_
              | rw [str_at (by omega)]
              | refine ⟨_, _, RCutS_mk 59 (by omega), ?_⟩
              | rw [hpt]
              | refine ⟨_, _, RReParse_ok h1, ?_⟩
              | refine ⟨_, _, RReParse_ok h3, ?_⟩
              | fail) <;> conv => whnf)
            refine ⟨_, _, .fold 5 3 p.length 0 2 3 (List.take p.length (omOwns p) ++ [[.ref 3 0 (parseE a).l.length, .ref 4 0 (parseE b).l.length]]) [.ref 3 0 (parseE a).l.length, .ref 4 0 (parseE b).l.length] (nodeRows (parseE a).l) rfl rfl (by decide) (om_last rfl) _ (length_nodeRows _) rfl
              (.fold 5 4 p.length 1 2 3 _ [.own 3 (nodeRows (parseE a).l), .ref 4 0 (parseE b).l.length] (nodeRows (parseE b).l) rfl rfl (by decide) (List.getElem?_set_self (by simp)) _ (length_nodeRows _) rfl
              (.clos 5 2 (omOwns (p ++ [⟨(parseE a).l, (parseE b).l⟩])) (congrArg (fun r => some (AObj.arx 2 r)) (om_done (p := p) (o := ⟨_, _⟩) rfl)) (omOwns_sealed _) (.refl _ _))),
              p ++ [⟨(parseE a).l, (parseE b).l⟩], ⟨by simp; omega, .inr h4, by simp only [List.length_append, List.length_singleton]; exact omAll_take hlt hall (by unfold omOne; rw [hcut, if_pos ⟨rfl, h1, h3⟩])⟩, by simp; omega, [some 0, some 5], rfl, rfl, And.intro (And.intro rfl rfl) (And.intro (And.intro rfl rfl) trivial), ?_⟩
            exact ⟨.inl rfl, congrArg (AV.ref 5 0) (by simp), rfl, .inl (congrArg (AV.int .i64) (by simp)), trivial⟩
          · conv => whnf
            repeat' ((first
              | contradiction
              | (refine And.intro (fun hb => ?_) (fun hb => ?_) <;> first | contradiction | ((try simp only [SB, reduceCtorEq] at hb); try (exfalso; first | contradiction | omega)))
              | refine And.intro rfl ?_
              | refine ⟨_, IntWalk.i64_in _ (by omega), ?_⟩
              | rw [ints_at (by omega)]
              | rw [ints_at0 (by omega)]
              | rw [ints_at' (by omega) (by omega)]
              | refine And.intro (lens_all rfl) ?_
              | refine And.intro (show _ ≤ _ ∧ (_ + 1) * _ ≤ _ ∧ _ + 1 ≤ _ by first | omega | (simp; omega)) ?_
              | refine And.intro (show 1 * _ ≤ _ ∧ 1 ≤ _ by omega) ?_
              | refine And.intro (by first | omega | (simp; omega) | (show _ ∧ _; simp; done)) ?_
              | rw [str_at (by omega)]
              | refine ⟨_, _, RCutS_mk 59 (by omega), ?_⟩
              | rw [hpt]
              | refine ⟨_, _, RReParse_ok h1, ?_⟩
              | refine ⟨_, _, RReParse_bad h3, ?_⟩
              | fail) <;> conv => whnf)
            refine ⟨.inl rfl, ?_⟩
            conv => whnf
            exact om_nil (hbad (fun g => h3 g.2.2))
        · by_cases h3 : (parseE b).c = 0
          · conv => whnf
            repeat' ((first
              | contradiction
              | (refine And.intro (fun hb => ?_) (fun hb => ?_) <;> first | contradiction | ((try simp only [SB, reduceCtorEq] at hb); try (exfalso; first | contradiction | omega)))
              | refine And.intro rfl ?_
              | refine ⟨_, IntWalk.i64_in _ (by omega), ?_⟩
              | rw [ints_at (by omega)]
              | rw [ints_at0 (by omega)]
              | rw [ints_at' (by omega) (by omega)]
              | refine And.intro (lens_all rfl) ?_
              | refine And.intro (show _ ≤ _ ∧ (_ + 1) * _ ≤ _ ∧ _ + 1 ≤ _ by first | omega | (simp; omega)) ?_
              | refine And.intro (show 1 * _ ≤ _ ∧ 1 ≤ _ by omega) ?_
              | refine And.intro (by first | omega | (simp; omega) | (show _ ∧ _; simp; done)) ?_
              | rw [str_at (by omega)]
              | refine ⟨_, _, RCutS_mk 59 (by omega), ?_⟩
              | rw [hpt]
              | refine ⟨_, _, RReParse_bad h1, ?_⟩
              | refine ⟨_, _, RReParse_ok h3, ?_⟩
              | fail) <;> conv => whnf)
            refine ⟨.inl rfl, ?_⟩
            conv => whnf
            exact om_nil (hbad (fun g => h1 g.2.1))
          · conv => whnf
            repeat' ((first
              | contradiction
              | (refine And.intro (fun hb => ?_) (fun hb => ?_) <;> first | contradiction | ((try simp only [SB, reduceCtorEq] at hb); try (exfalso; first | contradiction | omega)))
              | refine And.intro rfl ?_
              | refine ⟨_, IntWalk.i64_in _ (by omega), ?_⟩
              | rw [ints_at (by omega)]
              | rw [ints_at0 (by omega)]
              | rw [ints_at' (by omega) (by omega)]
              | refine And.intro (lens_all rfl) ?_
              | refine And.intro (show _ ≤ _ ∧ (_ + 1) * _ ≤ _ ∧ _ + 1 ≤ _ by first | omega | (simp; omega)) ?_
              | refine And.intro (show 1 * _ ≤ _ ∧ 1 ≤ _ by omega) ?_
              | refine And.intro (by first | omega | (simp; omega) | (show _ ∧ _; simp; done)) ?_
              | rw [str_at (by omega)]
              | refine ⟨_, _, RCutS_mk 59 (by omega), ?_⟩
              | rw [hpt]
              | refine ⟨_, _, RReParse_bad h1, ?_⟩
              | refine ⟨_, _, RReParse_bad h3, ?_⟩
              | fail) <;> conv => whnf)
            refine ⟨.inl rfl, ?_⟩
            conv => whnf
            exact om_nil (hbad (fun g => h1 g.2.1))
      · conv => whnf
        repeat' ((first
          | contradiction
          | (refine And.intro (fun hb => ?_) (fun hb => ?_) <;> first | contradiction | ((try simp only [SB, reduceCtorEq] at hb); try (exfalso; first | contradiction | omega)))
          | refine And.intro rfl ?_
          | refine ⟨_, IntWalk.i64_in _ (by omega), ?_⟩
          | rw [ints_at (by omega)]
          | rw [ints_at0 (by omega)]
          | rw [ints_at' (by omega) (by omega)]
          | refine And.intro (lens_all rfl) ?_
          | refine And.intro (show _ ≤ _ ∧ (_ + 1) * _ ≤ _ ∧ _ + 1 ≤ _ by first | omega | (simp; omega)) ?_
          | refine And.intro (show 1 * _ ≤ _ ∧ 1 ≤ _ by omega) ?_
          | refine And.intro (by first | omega | (simp; omega) | (show _ ∧ _; simp; done)) ?_
          | rw [str_at (by omega)]
          | refine ⟨_, _, RCutS_mk 59 (by omega), ?_⟩
          | fail) <;> conv => whnf)
        refine ⟨.inl rfl, ?_⟩
        conv => whnf
        refine om_nil ?_
        rcases Nat.lt_or_ge 4 ps.length with h4 | h4
        · exact hmany h4
        · refine hnone h4 (omAll_none hlt ?_)
          cases ho : omOne (ps.getD p.length default) with
          | none => rfl
          | some o => exact absurd (omOne_two ho) h2
    · refine vc2_sound hR _ _ _ _ _ ?_
      conv => whnf
      repeat' ((first
        | contradiction
        | (refine And.intro (fun hb => ?_) (fun hb => ?_) <;> first | contradiction | ((try simp only [SB, reduceCtorEq] at hb); try (exfalso; first | contradiction | omega)))
        | refine And.intro rfl ?_
        | refine ⟨_, IntWalk.i64_in _ (by omega), ?_⟩
        | rw [ints_at (by omega)]
        | rw [ints_at0 (by omega)]
        | rw [ints_at' (by omega) (by omega)]
        | refine And.intro (lens_all rfl) ?_
        | refine And.intro (show _ ≤ _ ∧ (_ + 1) * _ ≤ _ ∧ _ + 1 ≤ _ by first | omega | (simp; omega)) ?_
        | refine And.intro (show 1 * _ ≤ _ ∧ 1 ≤ _ by omega) ?_
        | refine And.intro (by first | omega | (simp; omega) | (show _ ∧ _; simp; done)) ?_
        | fail) <;> conv => whnf)
      refine ⟨.inl rfl, ?_⟩
      conv => whnf
      have h4 : ps.length ≤ 4 := by
        rcases hp4 with rfl | h4
        · have h0 : ([] : List OmegaD).length = 0 := rfl
          omega
        · exact h4
      exact om_list (hsome h4 p (by rw [← hall, List.take_of_length_le (by omega)])) rfl rfl

end Go.Proofs.YtpfbkblgefddlaaDoor.Ct
