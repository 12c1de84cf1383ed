/- FnExactRunOfSaid is proved. Conditions: none. -/
import Derived.Test.YthanhknkoikbfaaT7
import Derived.Test.YthanhknkoikbfaaT8
import Derived.Test.YthanhknkoikbfaaRows
set_option linter.unusedSimpArgs false
set_option linter.unusedVariables false
namespace Go.Proofs.Ythanhknkoikbfaa.RowRunOf
open Go Go.Proofs Go.Proofs.Ythanhknkoikbfaa.Av Go.Proofs.Ythanhknkoikbfaa.Ct Go.ChangeShapes Go.WideShapes Go.ChangeAt Go.RowKit
open Go.Proofs.Ythanhknkoikbfaa
theorem own : ownKnob Try.prog.godebug = none := by kernel_rfl
theorem laidOut : laidOutB Try.prog = true := by kernel_rfl
set_option maxRecDepth 100000 in
theorem contract (H : Type) (enc : TypeId × Value → H) (W : World) (base : Nat) (args : Array Value) (ds gs : List (DataW H)) (before : List MemPlace)
    (hval : ∀ (j : Nat) t v, Try.f6.params[j]? = some t → args[j]? = some v → Value.okWide Try.prog W .any base t v)
    (hW : DataW.Whole enc Try.prog Try.f6.params.toList Rows.fnExactRunOfSpec.vars false W args.toList ds gs before) :
    Calls Try.prog 6 args W fun e W' => ∃ v, e = .returned v ∧ Rows.fnExactRunOfSpec.post enc Try.prog Try.f6 false true false false W args v W' := by
  have hW' := hW
  obtain ⟨p, q, hA0, hV, rfl, hfz, hnd⟩ := hW
  have hA : DataW.TrodAll enc Try.prog W 0 (fun _ => true) true Try.f6.params.toList args.toList ds p := hA0
  rw [Try.params6] at hA hval
  obtain ⟨v0, vs0, d0, ds0, p0, q0, hargs, rfl, rfl, h0, r0'⟩ := trodAll_cons hA
  obtain ⟨v1, vs1, d1, ds1, p1, q1, rfl, rfl, rfl, h1, r1'⟩ := trodAll_cons r0'
  obtain ⟨rfl, rfl, rfl⟩ := trodAll_nil r1'
  obtain rfl : args = #[v0, v1] := by cases args; simp_all
  obtain ⟨rfl, rfl⟩ := trodVars_none hV
  obtain ⟨av0, t0, r0⟩ := open_struct (m := 12) (sh := autoSh) Try.underlying24 (hval 0 24 v0 rfl rfl) h0 (by kernel_rfl)
  obtain ⟨a0, rfl⟩ := ty_auto t0
  obtain ⟨av1, t1, r1⟩ := open_struct (m := 8) (sh := wordSh) Try.underlying35 (hval 1 35 v1 rfl rfl) h1 (by kernel_rfl)
  obtain ⟨s1, l1, rfl⟩ := ty_word t1
  refine (s_laws_FnExactRunOf W none0 [.agg (autoRow a0), .agg [.val (ints s1), .val (ints l1)]] #[v0, v1] (.bool true) [] ⟨rfl, fun i x v h1 h2 => ?_⟩ ⟨a0, s1, l1, rfl, rfl, rfl⟩).mono ?_
  · rcases i with _ | _ | i
    · simp at h1 h2; subst h1; subst h2; exact r0
    · simp at h1 h2; subst h1; subst h2; exact r1
    · simp at h1
  · rintro e W' ⟨v, π, rfl, E, _, hr⟩
    cases hr
    refine ⟨_, rfl, post_of_read hW' rfl E laidOut ?_ (fun b sp hd => trodAll_cons_mk (shut_bool Try.underlying4 true) trodAll_mk0) rfl rfl (ok_one (by kernel_rfl) rfl (okWide_bool_mk Try.underlying4 true))⟩
    rw [Try.params6]
    intro t ht
    simp at ht
    (first | subst ht | (rcases ht with rfl | rfl) | (rcases ht with rfl | rfl | rfl) | (rcases ht with rfl | rfl | rfl | rfl)) <;> exact ⟨by kernel_rfl, of_decide_eq_true (by kernel_rfl)⟩
set_option maxRecDepth 100000 in
theorem lifted (os : Os) (started : os.Started) (H : Type) (enc : TypeId × Value → H) :
    ReturnsInHanded {} Try.checked os 6 .any (Rows.fnExactRunOfSpec.pre6 enc Try.prog Try.f6 Rows.fnExactRunOfRow.domain false) (Rows.fnExactRunOfSpec.post enc Try.prog Try.f6 false true false false) := by
  refine returnsInHanded_of_change (C := Try.checked) own started (by kernel_rfl) Try.func6
    (ChangeSpec.witness6 (enc := enc) (C := Try.checked) false ⟨#[], #[.agg #[.int .i64 0, .int .i64 0, .int .i64 0, .slice none 0 0], .agg #[.slice none 0 0, .slice none 0 0]], []⟩ 8 (by kernel_rfl) (by kernel_rfl) (by kernel_rfl) (by kernel_rfl)) ?_
  intro W base args ds gs before hval hW _ _
  exact contract H enc W base args ds gs before hval hW
theorem proved : Rows.FnExactRunOfSaid :=
  OpenClaim.holds_of_wide 6 Try.f6 rfl rfl rfl rfl rfl rfl rfl ⟨rfl, rfl, rfl, rfl, rfl⟩ rfl rfl rfl rfl rfl (by kernel_rfl) Try.func6 (by kernel_rfl)
    (of_decide_eq_true (by kernel_rfl)) (by unfold Func.isWrapper; first | (rw [if_pos (by decide +kernel)]; kernel_rfl) | (rw [if_neg (by decide +kernel)]; exact ⟨rfl, rfl⟩))
    (fun os started H enc _ => lifted os started H enc)
end Go.Proofs.Ythanhknkoikbfaa.RowRunOf
