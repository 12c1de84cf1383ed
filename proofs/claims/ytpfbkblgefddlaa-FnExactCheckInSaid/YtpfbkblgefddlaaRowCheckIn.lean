/- FnExactCheckInSaid is proved. Conditions: none. -/
import Derived.Test.YtpfbkblgefddlaaT7
import Derived.Test.YtpfbkblgefddlaaRows
namespace Go.Proofs.Ytpfbkblgefddlaa.RowCheckIn
set_option linter.unusedSimpArgs false
set_option linter.unusedVariables false
open Go Go.Proofs Go.Proofs.Ytpfbkblgefddlaa.Av Go.Proofs.Ytpfbkblgefddlaa.Ct Go.ChangeShapes Go.WideShapes Go.ChangeAt Go.RowKit
open Go.Proofs.Ytpfbkblgefddlaa
theorem own : ownKnob Try.prog.godebug = none := by kernel_rfl
theorem laidOut : laidOutB Try.prog = true := by kernel_rfl
set_option maxRecDepth 100000 in
theorem contract (H : Type) (enc : TypeId × Value → H) (W : World) (base : Nat) (args : Array Value) (ds gs : List (DataW H)) (before : List MemPlace)
    (hval : ∀ (j : Nat) t v, Try.f11.params[j]? = some t → args[j]? = some v → Value.okWide Try.prog W .any base t v)
    (hW : DataW.Whole enc Try.prog Try.f11.params.toList Rows.fnExactCheckInSpec.vars false W args.toList ds gs before) :
    Calls Try.prog 11 args W fun e W' => ∃ v, e = .returned v ∧ Rows.fnExactCheckInSpec.post enc Try.prog Try.f11 false true false false W args v W' := by
  have hW' := hW
  obtain ⟨p, q, hA0, hV, rfl, hfz, hnd⟩ := hW
  have hA : DataW.TrodAll enc Try.prog W 0 (fun _ => true) true Try.f11.params.toList args.toList ds p := hA0
  rw [Try.params11] at hA hval
  obtain ⟨v0, vs0, d0, ds0, p0, q0, hargs, rfl, rfl, h0, r0'⟩ := trodAll_cons hA
  obtain ⟨v1, vs1, d1, ds1, p1, q1, rfl, rfl, rfl, h1, r1'⟩ := trodAll_cons r0'
  obtain ⟨v2, vs2, d2, ds2, p2, q2, rfl, rfl, rfl, h2, r2'⟩ := trodAll_cons r1'
  obtain ⟨rfl, rfl, rfl⟩ := trodAll_nil r2'
  obtain rfl : args = #[v0, v1, v2] := by cases args; simp_all
  obtain ⟨rfl, rfl⟩ := trodVars_none hV
  obtain ⟨av0, t0, r0⟩ := open_struct (m := 12) (sh := autoSh) Try.underlying66 (hval 0 66 v0 rfl rfl) h0 (by kernel_rfl)
  obtain ⟨a0, rfl⟩ := ty_auto t0
  obtain ⟨av1, t1, r1⟩ := open_struct (m := 12) (sh := autoSh) Try.underlying66 (hval 1 66 v1 rfl rfl) h1 (by kernel_rfl)
  obtain ⟨a1, rfl⟩ := ty_auto t1
  obtain ⟨av2, t2, r2⟩ := open_struct (m := 12) (sh := resSh) Try.underlying74 (hval 2 74 v2 rfl rfl) h2 (by kernel_rfl)
  obtain ⟨c2, s2, l2, rfl⟩ := ty_result t2
  refine (s_laws_FnExactCheckIn W none0 [.agg (autoRow a0), .agg (autoRow a1), .agg [.int .i64 c2, .val (ints s2), .val (ints l2)]] #[v0, v1, v2] (.bool true) [] ⟨rfl, fun i x v h1 h2 => ?_⟩ ⟨a0, a1, c2, s2, l2, rfl, rfl, rfl⟩).mono ?_
  · rcases i with _ | _ | _ | i
    · simp at h1 h2; subst h1; subst h2; exact r0
    · simp at h1 h2; subst h1; subst h2; exact r1
    · simp at h1 h2; subst h1; subst h2; exact r2
    · simp at h1
  · rintro e W' ⟨v, π, rfl, E, _, hr⟩
    cases hr
    refine ⟨_, rfl, post_of_read hW' rfl E laidOut ?_ (fun b sp hd => trodAll_cons_mk (shut_bool Try.underlying4 true) trodAll_mk0) rfl rfl (ok_one (by kernel_rfl) rfl (okWide_bool_mk Try.underlying4 true))⟩
    rw [Try.params11]
    intro t ht
    simp at ht
    (first | subst ht | (rcases ht with rfl | rfl) | (rcases ht with rfl | rfl | rfl) | (rcases ht with rfl | rfl | rfl | rfl)) <;> exact ⟨by kernel_rfl, of_decide_eq_true (by kernel_rfl)⟩
set_option maxRecDepth 100000 in
theorem lifted (os : Os) (started : os.Started) (H : Type) (enc : TypeId × Value → H) :
    ReturnsInHanded {} Try.checked os 11 .any (Rows.fnExactCheckInSpec.pre6 enc Try.prog Try.f11 Rows.fnExactCheckInRow.domain false) (Rows.fnExactCheckInSpec.post enc Try.prog Try.f11 false true false false) := by
  refine returnsInHanded_of_change (C := Try.checked) own started (by kernel_rfl) Try.func11
    (ChangeSpec.witness6 (enc := enc) (C := Try.checked) false ⟨#[], #[.agg #[.int .i64 0, .int .i64 0, .int .i64 0, .slice none 0 0], .agg #[.int .i64 0, .int .i64 0, .int .i64 0, .slice none 0 0], .agg #[.int .i64 0, .slice none 0 0, .slice none 0 0]], []⟩ 8 (by kernel_rfl) (by kernel_rfl) (by kernel_rfl) (by kernel_rfl)) ?_
  intro W base args ds gs before hval hW _ _
  exact contract H enc W base args ds gs before hval hW
theorem proved : Rows.FnExactCheckInSaid :=
  OpenClaim.holds_of_wide 11 Try.f11 rfl rfl rfl rfl rfl rfl rfl ⟨rfl, rfl, rfl, rfl, rfl⟩ rfl rfl rfl rfl rfl (by kernel_rfl) Try.func11 (by kernel_rfl)
    (of_decide_eq_true (by kernel_rfl)) (by unfold Func.isWrapper; first | (rw [if_pos (by decide +kernel)]; kernel_rfl) | (rw [if_neg (by decide +kernel)]; exact ⟨rfl, rfl⟩))
    (fun os started H enc _ => lifted os started H enc)
end Go.Proofs.Ytpfbkblgefddlaa.RowCheckIn
