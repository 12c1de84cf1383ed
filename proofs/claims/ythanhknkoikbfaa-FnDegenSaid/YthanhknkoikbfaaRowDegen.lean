/- FnDegenSaid is proved. Conditions: none. -/
import Derived.Test.YthanhknkoikbfaaT8
import Derived.Test.YthanhknkoikbfaaT9
import Derived.Test.YthanhknkoikbfaaRows
set_option linter.unusedSimpArgs false
set_option linter.unusedVariables false
namespace Go.Proofs.Ythanhknkoikbfaa.RowDegen
open Go Go.Proofs Go.Proofs.Ythanhknkoikbfaa.Av Go.Proofs.Ythanhknkoikbfaa.Ct Go.ChangeShapes Go.WideShapes Go.ChangeAt Go.RowKit
open Go.Proofs.Ythanhknkoikbfaa
theorem own : ownKnob Try.prog.godebug = none := by kernel_rfl
theorem laidOut : laidOutB Try.prog = true := by kernel_rfl
set_option maxRecDepth 100000 in
theorem contract (H : Type) (enc : TypeId × Value → H) (W : World) (base : Nat) (args : Array Value) (ds gs : List (DataW H)) (before : List MemPlace)
    (hval : ∀ (j : Nat) t v, Try.f12.params[j]? = some t → args[j]? = some v → Value.okWide Try.prog W .any base t v)
    (hW : DataW.Whole enc Try.prog Try.f12.params.toList Rows.fnDegenSpec.vars false W args.toList ds gs before) :
    Calls Try.prog 12 args W fun e W' => ∃ v, e = .returned v ∧ Rows.fnDegenSpec.post enc Try.prog Try.f12 false true false false W args v W' := by
  have hW' := hW
  obtain ⟨p, q, hA0, hV, rfl, hfz, hnd⟩ := hW
  have hA : DataW.TrodAll enc Try.prog W 0 (fun _ => true) true Try.f12.params.toList args.toList ds p := hA0
  rw [Try.params12] at hA hval
  obtain ⟨v0, vs0, d0, ds0, p0, q0, hargs, rfl, rfl, h0, r0'⟩ := trodAll_cons hA
  obtain ⟨rfl, rfl, rfl⟩ := trodAll_nil r0'
  obtain rfl : args = #[v0] := by cases args; simp_all
  obtain ⟨rfl, rfl⟩ := trodVars_none hV
  obtain ⟨av0, t0, r0⟩ := open_cell (m := 4) (sh := .sl (.int .u8)) (.inl ⟨_, Try.underlying55⟩) (hval 0 55 v0 rfl rfl) h0 (by kernel_rfl)
  obtain ⟨b0, rfl⟩ := ty_bytes t0
  refine (s_laws_FnDegen W none0 [.val (b0.map byteRow)] #[v0] (.bool true) [] ⟨rfl, fun i x v h1 h2 => ?_⟩ ⟨b0, rfl, rfl, rfl⟩).mono ?_
  · cases i with
    | zero => simp at h1 h2; subst h1; subst h2; exact r0
    | succ i => simp at h1
  · rintro e W' ⟨v, π, rfl, E, _, hr⟩
    cases hr
    refine ⟨_, rfl, post_of_read hW' rfl E laidOut ?_ (fun b sp hd => trodAll_cons_mk (shut_bool Try.underlying4 true) trodAll_mk0) rfl rfl (ok_one (by kernel_rfl) rfl (okWide_bool_mk Try.underlying4 true))⟩
    rw [Try.params12]
    intro t ht
    simp at ht
    (first | subst ht | (rcases ht with rfl | rfl) | (rcases ht with rfl | rfl | rfl) | (rcases ht with rfl | rfl | rfl | rfl)) <;> exact ⟨by kernel_rfl, of_decide_eq_true (by kernel_rfl)⟩
set_option maxRecDepth 100000 in
theorem lifted (os : Os) (started : os.Started) (H : Type) (enc : TypeId × Value → H) :
    ReturnsInHanded {} Try.checked os 12 .any (Rows.fnDegenSpec.pre6 enc Try.prog Try.f12 Rows.fnDegenRow.domain false) (Rows.fnDegenSpec.post enc Try.prog Try.f12 false true false false) := by
  refine returnsInHanded_of_change (C := Try.checked) own started (by kernel_rfl) Try.func12
    (ChangeSpec.witness6 (enc := enc) (C := Try.checked) false ⟨#[], #[.slice none 0 0], []⟩ 8 (by kernel_rfl) (by kernel_rfl) (by kernel_rfl) (by kernel_rfl)) ?_
  intro W base args ds gs before hval hW _ _
  exact contract H enc W base args ds gs before hval hW
theorem proved : Rows.FnDegenSaid :=
  OpenClaim.holds_of_wide 12 Try.f12 rfl rfl rfl rfl rfl rfl rfl ⟨rfl, rfl, rfl, rfl, rfl⟩ rfl rfl rfl rfl rfl (by kernel_rfl) Try.func12 (by kernel_rfl)
    (of_decide_eq_true (by kernel_rfl)) (by unfold Func.isWrapper; first | (rw [if_pos (by decide +kernel)]; kernel_rfl) | (rw [if_neg (by decide +kernel)]; exact ⟨rfl, rfl⟩))
    (fun os started H enc _ => lifted os started H enc)
end Go.Proofs.Ythanhknkoikbfaa.RowDegen
