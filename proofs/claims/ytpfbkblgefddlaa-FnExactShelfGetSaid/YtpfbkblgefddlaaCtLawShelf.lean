/- The law that the program's test of a shelf says what the reference's says. -/
import Derived.Test.YtpfbkblgefddlaaCtShelf2
namespace Go.Proofs.Ytpfbkblgefddlaa.Ct
set_option linter.unusedSimpArgs false
set_option linter.unusedVariables false
open Go Go.Proofs Go.Proofs.Ytpfbkblgefddlaa.Av

def c_laws_FnExactShelfOk : ICode := (.seq (.reg [⟨(some 2), .mv, [(.c (.bool false))], none⟩]) (.seq (.reg [⟨(some 3), .mv, [(.c (.int .i64 1048576))], none⟩]) (.seq (.reg [⟨(some 7), .mv, [(.t 0)], none⟩, ⟨(some 8), .mv, [(.t 3)], none⟩, ⟨(some 9), (.call 18), [(.t 7), (.t 8)], none⟩, ⟨(some 3), .mv, [(.t 9)], none⟩]) (.seq (.seq (.reg [⟨(some 10), .mv, [(.t 3)], none⟩, ⟨(some 11), (.bin .lss), [(.t 10), (.c (.int .i64 0))], none⟩]) (.cond (.t 11) (.seq (.reg [⟨(some 2), .mv, [(.c (.bool true))], none⟩]) .ret) .skip)) (.seq (.reg [⟨(some 12), .mv, [(.t 0)], none⟩, ⟨(some 13), (.call 20), [(.t 12)], none⟩, ⟨(some 14), (.call 19), [(.t 13)], none⟩, ⟨(some 4), .mv, [(.t 14)], none⟩]) (.seq (.reg [⟨(some 15), .mv, [(.t 0)], none⟩, ⟨(some 16), (.call 20), [(.t 15)], none⟩, ⟨(some 5), .mv, [(.t 16)], none⟩]) (.seq (.reg [⟨(some 17), .mv, [(.t 5)], none⟩, ⟨(some 18), (.call 21), [(.t 17)], none⟩, ⟨(some 6), .mv, [(.t 18)], none⟩]) (.seq (.seq (.reg [⟨(some 19), .mv, [(.t 6)], none⟩, ⟨(some 20), .mv, [(.t 4)], none⟩, ⟨(some 21), (.beq true), [(.t 19), (.t 20)], none⟩]) (.cond (.t 21) (.seq (.reg [⟨(some 2), .mv, [(.c (.bool false))], none⟩]) .ret) .skip)) (.seq (.seq (.reg [⟨(some 22), .mv, [(.t 5)], none⟩, ⟨(some 23), .mv, [(.t 0)], none⟩, ⟨(some 24), (.call 20), [(.t 23)], none⟩, ⟨(some 25), (.call 22), [(.t 22), (.t 24)], none⟩, ⟨(some 26), .not, [(.t 25)], none⟩]) (.cond (.t 26) (.seq (.reg [⟨(some 2), .mv, [(.c (.bool false))], none⟩]) .ret) .skip)) (.seq (.reg [⟨(some 2), .mv, [(.c (.bool true))], none⟩]) .ret))))))))))
theorem b_laws_FnExactShelfOk : Body Try.prog 4 27 c_laws_FnExactShelfOk [(.t 2)] := by
  have h1 : comp Try.prog 27 (Try.f4.body.getD .skip) = some c_laws_FnExactShelfOk := by kernel_rfl
  have h2 : Try.f4.body = some (Try.f4.body.getD .skip) := by kernel_rfl
  have h3 : Try.f4.results.toList.map (cRes Try.prog) = [(some (.t 2))] := by kernel_rfl
  exact ⟨_, _, Try.func4, h2, Try.ntmps4, h1, h3, by decide⟩


theorem edgeSum_mem {l : List NamedD} {x : NamedD} (h : x ∈ l) : (x.auto.edges.length : Int) ≤ edgeSum l := by
  induction l with
  | nil => cases h
  | cons y r ih =>
    simp only [edgeSum]
    have := edgeSum_nonneg r
    cases h with
    | head => omega
    | tail _ h => have := ih h; omega

theorem left_small {l : List NamedD} (h : 0 ≤ leftNamed l 1048576) : l.length ≤ 1048576 ∧ ∀ x ∈ l, x.auto.edges.length ≤ 1048576 := by
  have hn := edgeSum_nonneg l
  unfold leftNamed at h
  split at h
  · omega
  · exact ⟨by omega, fun x hx => by have := edgeSum_mem hx; omega⟩

def RTrueShelf (xs : List AV) (r : AV) (objs : List AObj) : Prop := ∃ l, xs = [.val (namedRows l)] ∧ r = .bool true ∧ objs = []

theorem s_laws_FnExactShelfOk : PureSound Try.prog 4 RTrueShelf := by
  have hR : Rely Try.prog (ctxOf [(18, .pure RSzNamedS), (20, .loose RToNamedS), (19, .pure RShelfOk), (21, .pure RShelfOk), (22, .pure REqNamedS)]) :=
    rely_cons b_laws_szNamedS.has s_laws_szNamedS (rely_cons b_laws_toNamedS.has s_laws_toNamedS (rely_cons b_spec_ShelfOk.has s_spec_ShelfOk
      (rely_cons b_impl_ShelfOk.has s_impl_ShelfOk (rely_cons b_laws_eqNamedS.has s_laws_eqNamedS (rely_nil mixed)))))
  refine pure_of_aw b_laws_FnExactShelfOk ?_
  rintro xs r objs ⟨l, rfl, rfl, rfl⟩ -
  refine ⟨by simp, vc2_sound hR _ _ _ _ _ ?_⟩
  conv => whnf
  repeat' (first
    | contradiction
    | (refine And.intro (fun hb => ?_) (fun hb => ?_) <;> first | contradiction | skip
       all_goals (try simp only [decide_eq_true_eq, decide_eq_false_iff_not, Bool.not_eq_true', Bool.not_eq_false', Bool.not_not, ne_eq, length_ints, List.length_map, beq_iff_eq, bne_iff_ne, beq_eq_false_iff_ne, bne_eq_false_iff_eq, Int.not_le, Int.not_lt, ge_iff_le, gt_iff_lt, reduceCtorEq, not_false_eq_true, not_true_eq_false, Bool.false_eq_true, Bool.true_eq_false] at hb)
       all_goals (try (exfalso; first | contradiction | omega))
       all_goals conv => whnf)
    | (refine And.intro (live_all rfl) ?_; conv => whnf)
    | (refine And.intro rfl ?_; conv => whnf)
    | (refine ⟨_, IntWalk.i64_in _ (by omega), ?_⟩; conv => whnf)
    | (refine And.intro (okcs_all rfl) ?_; conv => whnf)
    | (refine And.intro (okvs_all rfl) ?_; conv => whnf)
    | (refine And.intro (frees_all rfl) ?_; conv => whnf)
    | (refine And.intro (bsl_all rfl) ?_; conv => whnf)
    | (refine And.intro (clen_all rfl) ?_; conv => whnf)
    | (refine And.intro (lens_all rfl) ?_; conv => whnf)
    | (refine And.intro (Nat.le_of_ble_eq_true rfl) ?_; conv => whnf)
    | (rw [ints_at (by omega)]; conv => whnf)
    | (rw [ints_at0 (by omega)]; conv => whnf)
    | (rw [ints_at' (by omega) (by omega)]; conv => whnf)
    | (refine And.intro (show (_ + 1) * _ ≤ _ by omega) ?_; conv => whnf)
    | (refine And.intro (show _ + 1 ≤ _ by omega) ?_; conv => whnf)
    | (refine And.intro (by first | omega | (simp only [length_ints]; omega)) ?_; conv => whnf)
    | (refine ⟨_, _, RSzNamedS_mk (by omega) (by omega), ?_⟩; conv => whnf)
    | fail)
  · refine ⟨.inl rfl, ?_⟩
    conv => whnf
    refine ⟨[], ⟨rfl, trivial⟩, ?_, rfl, rfl⟩
    conv => whnf
    left
    conv => lhs; whnf
  · have hs := left_small hb
    conv => whnf
    repeat' (first
      | contradiction
      | (refine And.intro (fun hb => ?_) (fun hb => ?_) <;> first | contradiction | skip
         all_goals (try simp only [decide_eq_true_eq, decide_eq_false_iff_not, Bool.not_eq_true', Bool.not_eq_false', Bool.not_not, ne_eq, length_ints, List.length_map, beq_iff_eq, bne_iff_ne, beq_eq_false_iff_ne, bne_eq_false_iff_eq, Int.not_le, Int.not_lt, ge_iff_le, gt_iff_lt, reduceCtorEq, not_false_eq_true, not_true_eq_false, Bool.false_eq_true, Bool.true_eq_false] at hb)
         all_goals (try (exfalso; first | contradiction | omega))
         all_goals conv => whnf)
      | (refine And.intro (live_all rfl) ?_; conv => whnf)
      | (refine And.intro rfl ?_; conv => whnf)
      | (refine ⟨_, IntWalk.i64_in _ (by omega), ?_⟩; conv => whnf)
      | (refine And.intro (okcs_all rfl) ?_; conv => whnf)
      | (refine And.intro (okvs_all rfl) ?_; conv => whnf)
      | (refine And.intro (frees_all rfl) ?_; conv => whnf)
      | (refine And.intro (bsl_all rfl) ?_; conv => whnf)
      | (refine And.intro (clen_all rfl) ?_; conv => whnf)
      | (refine And.intro (lens_all rfl) ?_; conv => whnf)
      | (refine And.intro (Nat.le_of_ble_eq_true rfl) ?_; conv => whnf)
      | (rw [ints_at (by omega)]; conv => whnf)
      | (rw [ints_at0 (by omega)]; conv => whnf)
      | (rw [ints_at' (by omega) (by omega)]; conv => whnf)
      | (refine And.intro (show (_ + 1) * _ ≤ _ by omega) ?_; conv => whnf)
      | (refine And.intro (show _ + 1 ≤ _ by omega) ?_; conv => whnf)
      | (refine And.intro (by first | omega | (simp only [length_ints]; omega)) ?_; conv => whnf)
      | (refine ⟨_, _, RToNamedS_mk hs.1 hs.2, ?_⟩; conv => whnf)
      | (refine ⟨_, _, RShelfOk_mk, ?_⟩; conv => whnf)
      | (refine ⟨_, _, REqNamedS_mk (a := l) (b := l), ?_⟩; conv => whnf)
      | fail)
    all_goals
      refine ⟨.inl rfl, ?_⟩
      conv => whnf
      refine ⟨[], ⟨rfl, trivial⟩, ?_, rfl, rfl⟩
      conv => whnf
      left
      conv => lhs; whnf

end Go.Proofs.Ytpfbkblgefddlaa.Ct
