/- The law that the program's OmegaParse says what the reference's says. -/
import Derived.Test.YtpfbkblgefddlaaDoorCtO13
namespace Go.Proofs.YtpfbkblgefddlaaDoor.Ct
set_option linter.unusedSimpArgs false
set_option linter.unusedVariables false
open Go Go.Proofs Go.Proofs.YtpfbkblgefddlaaDoor.Av

theorem snap_om {h : Heap} {id : Nat} {l : List OmegaD} (ho : h id = some (.nst 2 (omOwns l))) : (AV.ref id 0 l.length).snap h = .val (omRows l) := by
  have e : sub (omOwns l) 0 l.length = omOwns l := by
    unfold sub
    rw [List.drop_zero, List.take_of_length_le (by simp)]
  simp only [AV.snap, AV.snap1, ho, Nat.zero_add, length_omOwns, Nat.le_refl, if_true, e, thaw_om]

def RTrueOm (xs : List AV) (r : AV) (objs : List AObj) : Prop := ∃ s, xs = [.str s] ∧ r = .bool true ∧ objs = []

set_option maxRecDepth 4000 in
set_option maxHeartbeats 8000000 in
theorem s_laws_FnExactOmegaParse : PureSound Tryd.prog 3 RTrueOm := by
  have hR : Rely Tryd.prog (ctxOf [(4, .pure ROmega), (5, .pure ROmega), (6, .pure REqOmegaS), (7, .gen 1 GMarkOmegaS), (8, .pure RHeldOmegaS)]) :=
    rely_cons b_spec_OmegaParse.has s_spec_OmegaParse (rely_cons b_impl_OmegaParse.has s_impl_OmegaParse (rely_cons b_laws_eqOmegaS.has s_eqOmegaS (rely_cons b_laws_markOmegaS.has s_markOmegaS (rely_cons b_laws_heldOmegaS.has s_heldOmegaS (rely_nil mixed)))))
  refine pure_of_aw b_laws_FnExactOmegaParse ?_
  rintro xs r objs ⟨s, rfl, rfl, rfl⟩ -
  refine ⟨by simp, vc2_sound hR _ _ _ _ _ ?_⟩
  have hm := @ROmega_mk s
  obtain ⟨g1, g2⟩ := omParse_small s
  generalize omParse s = g at hm g1 g2
  obtain ⟨l, ok⟩ := g
  dsimp only at hm g1 g2
  have g3 := szO_nonneg l
  cases ok
  all_goals
    conv => whnf
    repeat' ((first
      | contradiction
      | (refine And.intro (fun hb => ?_) (fun hb => ?_) <;> first | contradiction | ((try simp only [SB, reduceCtorEq] at hb); try (exfalso; first | contradiction | omega)))
      | refine And.intro rfl ?_
      | refine ⟨_, IntWalk.i64_in _ (by omega), ?_⟩
      | rw [ints_at (by omega)]
      | rw [ints_at0 (by omega)]
      | rw [ints_at' (by omega) (by omega)]
      | refine And.intro (lens_all rfl) ?_
      | refine And.intro (show _ ≤ _ ∧ (_ + 1) * _ ≤ _ ∧ _ + 1 ≤ _ by first | omega | (simp; omega)) ?_
      | refine And.intro (show 1 * _ ≤ _ ∧ 1 ≤ _ by omega) ?_
      | refine And.intro (by first | omega | (simp; omega) | (show _ ∧ _; simp; done)) ?_
      | refine ⟨_, _, hm, ?_⟩
      | refine ⟨_, _, REqOmegaS_eq (l := l) (args_cons (snap_om rfl) (args_cons (snap_om rfl) rfl)), ?_⟩
      | refine ⟨GMarkOmegaS_mk (l := l) (by omega) (by omega) (by omega) (by omega) ?_⟩
      | refine ⟨_, _, RHeldOmegaS_eq (l := l) (k := 1) (args_cons ((congrArg (AV.snap _) (congrArg (AV.ref _ _) (length_markO 1 l).symm)).trans (snap_om rfl)) rfl) (by omega) (by omega) (by omega) (by omega), ?_⟩
      | fail) <;> conv => whnf)
  all_goals
    refine ⟨.inl rfl, ?_⟩
    conv => whnf
    refine ⟨[], ⟨rfl, trivial⟩, ?_, rfl, rfl⟩
    conv => whnf
    left
    conv => lhs; whnf

end Go.Proofs.YtpfbkblgefddlaaDoor.Ct
