/- The row of FnLtlText. -/
import Derived.Test.YtpfbkblgefddlaaCtLawLtl
import Derived.Test.YtpfbkblgefddlaaAvRow
import Derived.Test.YtpfbkblgefddlaaRows
namespace Go.Proofs.Ytpfbkblgefddlaa.RowFnLtlText
set_option linter.unusedSimpArgs false
set_option linter.unusedVariables false
open Go Go.Proofs Go.Proofs.Ytpfbkblgefddlaa.Av Go.Proofs.Ytpfbkblgefddlaa.Ct Go.ChangeShapes Go.WideShapes Go.ChangeAt Go.RowKit
open Go.Proofs.Ytpfbkblgefddlaa

theorem own : ownKnob Try.prog.godebug = none := by kernel_rfl
theorem laidOut : laidOutB Try.prog = true := by kernel_rfl

theorem ty_byte {c : List AV} (h : TyV (.int .u8) c) : ∃ b : UInt8, c = byteRow b := by
  cases h with
  | int _ n hw =>
    refine ⟨UInt8.ofNat n.toNat, ?_⟩
    have h2 : 0 ≤ n ∧ n ≤ 255 := by
      simp [Lit.wf, IntKind.min, IntKind.max, IntKind.signed, IntKind.bits] at hw
      omega
    simp only [byteRow, List.cons.injEq, AV.int.injEq, true_and, and_true]
    rw [UInt8.toNat_ofNat']
    omega

theorem rows_bytes : ∀ (rows : List (List AV)), (∀ r ∈ rows, ∃ b : UInt8, r = byteRow b) → ∃ l : List UInt8, rows = l.map byteRow
  | [], _ => ⟨[], rfl⟩
  | r :: rows, h => by
    obtain ⟨x, rfl⟩ := h r (by simp)
    obtain ⟨l, rfl⟩ := rows_bytes rows (fun r hr => h r (by simp [hr]))
    exact ⟨x :: l, rfl⟩

theorem ty_bytes {x : AV} (h : TyV (.sl (.int .u8)) [x]) : ∃ l : List UInt8, x = .val (l.map byteRow) := by
  cases h with
  | sl _ rows hr hl =>
    obtain ⟨l, rfl⟩ := rows_bytes rows (fun r hrr => ty_byte (hr r hrr))
    exact ⟨l, rfl⟩

set_option maxRecDepth 100000 in
theorem contract (H : Type) (enc : TypeId × Value → H) (W : World) (base : Nat) (args : Array Value) (ds gs : List (DataW H)) (before : List MemPlace)
    (hval : ∀ (j : Nat) t v, Try.f8.params[j]? = some t → args[j]? = some v → Value.okWide Try.prog W .any base t v)
    (hW : DataW.Whole enc Try.prog Try.f8.params.toList Rows.fnLtlTextSpec.vars false W args.toList ds gs before) :
    Calls Try.prog 8 args W fun e W' => ∃ v, e = .returned v ∧ Rows.fnLtlTextSpec.post enc Try.prog Try.f8 false true false false W args v W' := by
  have hW' := hW
  obtain ⟨p, q, hA0, hV, rfl, hfz, hnd⟩ := hW
  have hA : DataW.TrodAll enc Try.prog W 0 (fun _ => true) true Try.f8.params.toList args.toList ds p := hA0
  rw [Try.params8] at hA hval
  obtain ⟨v0, vs0, d0, ds0, p0, q0, hargs, rfl, rfl, h0, r0⟩ := trodAll_cons hA
  obtain ⟨rfl, rfl, rfl⟩ := trodAll_nil r0
  obtain rfl : args = #[v0] := by cases args; simp_all
  obtain ⟨rfl, rfl⟩ := trodVars_none hV
  obtain ⟨av, t1, r1⟩ := open_cell (m := 4) (sh := .sl (.int .u8)) (.inl ⟨_, Try.underlying42⟩) (hval 0 42 v0 rfl rfl) h0 (by kernel_rfl)
  obtain ⟨l, rfl⟩ := ty_bytes t1
  refine (s_laws_FnLtlText W none0 [.val (l.map byteRow)] #[v0] (.bool true) [] ⟨rfl, fun i x v h1 h2 => ?_⟩ ⟨l, rfl, rfl, rfl⟩).mono ?_
  · cases i with
    | zero => simp at h1 h2; subst h1; subst h2; exact r1
    | succ i => simp at h1
  · rintro e W' ⟨v, π, rfl, E, _, hr⟩
    cases hr
    refine ⟨_, rfl, post_of_read hW' rfl E laidOut ?_ (fun b sp hd => trodAll_cons_mk (shut_bool Try.underlying4 true) trodAll_mk0) rfl rfl (ok_one (by kernel_rfl) rfl (okWide_bool_mk Try.underlying4 true))⟩
    rw [Try.params8]
    intro t ht
    simp at ht
    subst ht
    exact ⟨by kernel_rfl, of_decide_eq_true (by kernel_rfl)⟩

set_option maxRecDepth 100000 in
theorem lifted (os : Os) (started : os.Started) (H : Type) (enc : TypeId × Value → H) :
    ReturnsInHanded {} Try.checked os 8 .any (Rows.fnLtlTextSpec.pre6 enc Try.prog Try.f8 Rows.fnLtlTextRow.domain false) (Rows.fnLtlTextSpec.post enc Try.prog Try.f8 false true false false) := by
  refine returnsInHanded_of_change (C := Try.checked) own started (by kernel_rfl) Try.func8
    (ChangeSpec.witness6 (enc := enc) (C := Try.checked) false ⟨#[], #[.slice none 0 0], []⟩ 8 (by kernel_rfl) (by kernel_rfl) (by kernel_rfl) (by kernel_rfl)) ?_
  intro W base args ds gs before hval hW _ _
  exact contract H enc W base args ds gs before hval hW

theorem proved : Rows.FnLtlTextSaid :=
  OpenClaim.holds_of_wide 8 Try.f8 rfl rfl rfl rfl rfl rfl rfl ⟨rfl, rfl, rfl, rfl, rfl⟩ rfl rfl rfl rfl rfl (by kernel_rfl) Try.func8 (by kernel_rfl)
    (of_decide_eq_true (by kernel_rfl)) (by unfold Func.isWrapper; first | (rw [if_pos (by decide +kernel)]; kernel_rfl) | (rw [if_neg (by decide +kernel)]; exact ⟨rfl, rfl⟩))
    (fun os started H enc _ => lifted os started H enc)

end Go.Proofs.Ytpfbkblgefddlaa.RowFnLtlText

