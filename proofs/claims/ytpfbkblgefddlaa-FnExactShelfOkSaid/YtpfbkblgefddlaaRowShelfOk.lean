/- The row of FnExactShelfOk. -/
import Derived.Test.YtpfbkblgefddlaaCtLawShelf
import Derived.Test.YtpfbkblgefddlaaAvRow
import Derived.Test.YtpfbkblgefddlaaRows
namespace Go.Proofs.Ytpfbkblgefddlaa.RowShelfOk
set_option linter.unusedSimpArgs false
set_option linter.unusedVariables false
open Go Go.Proofs Go.Proofs.Ytpfbkblgefddlaa.Av Go.Proofs.Ytpfbkblgefddlaa.Ct Go.ChangeShapes Go.WideShapes Go.ChangeAt Go.RowKit
open Go.Proofs.Ytpfbkblgefddlaa

theorem own : ownKnob Try.prog.godebug = none := by kernel_rfl
theorem laidOut : laidOutB Try.prog = true := by kernel_rfl

theorem rows_of {α : Type} {f : α → List AV} : ∀ (rows : List (List AV)), (∀ r ∈ rows, ∃ x, r = f x) → ∃ l : List α, rows = l.map f
  | [], _ => ⟨[], rfl⟩
  | r :: rows, h => by
    obtain ⟨x, rfl⟩ := h r (by simp)
    obtain ⟨l, rfl⟩ := rows_of rows (fun r hr => h r (by simp [hr]))
    exact ⟨x :: l, rfl⟩

abbrev edgeSh : Sh := .cons (.int .i64) (.cons (.int .i64) (.cons (.int .i64) (.cons .bool .nil)))
abbrev autoSh : Sh := .cons (.int .i64) (.cons (.int .i64) (.cons (.int .i64) (.cons (.sl edgeSh) .nil)))
abbrev namedSh : Sh := .cons (.int .i64) (.cons autoSh .nil)

theorem ty_edge {c : List AV} (h : TyV edgeSh c) : ∃ x, c = edgeRow x := by
  obtain _ | _ | _ | _ | _ | ⟨_, _, x1, y1, h1, h2⟩ := h
  obtain _ | _ | _ | _ | _ | ⟨_, _, x2, y2, h3, h4⟩ := h2
  obtain _ | _ | _ | _ | _ | ⟨_, _, x3, y3, h5, h6⟩ := h4
  obtain _ | _ | _ | _ | _ | ⟨_, _, x4, y4, h7, h8⟩ := h6
  cases h1 with
  | int _ n1 =>
  cases h3 with
  | int _ n2 =>
  cases h5 with
  | int _ n3 =>
  cases h7 with
  | bool b =>
  cases h8
  exact ⟨⟨n1, n2, n3, b⟩, rfl⟩

theorem ty_auto {c : List AV} (h : TyV autoSh c) : ∃ x, c = autoRow x := by
  obtain _ | _ | _ | _ | _ | ⟨_, _, x1, y1, h1, h2⟩ := h
  obtain _ | _ | _ | _ | _ | ⟨_, _, x2, y2, h3, h4⟩ := h2
  obtain _ | _ | _ | _ | _ | ⟨_, _, x3, y3, h5, h6⟩ := h4
  obtain _ | _ | _ | _ | _ | ⟨_, _, x4, y4, h7, h8⟩ := h6
  cases h1 with
  | int _ n1 =>
  cases h3 with
  | int _ n2 =>
  cases h5 with
  | int _ n3 =>
  cases h7 with
  | sl _ rows hr hl =>
  cases h8
  obtain ⟨l, rfl⟩ := rows_of (f := edgeRow) rows (fun r hrr => ty_edge (hr r hrr))
  exact ⟨⟨n1, n2, n3, l⟩, rfl⟩

theorem ty_named {c : List AV} (h : TyV namedSh c) : ∃ x, c = namedRow x := by
  obtain _ | _ | _ | _ | _ | ⟨_, _, x1, y1, h1, h2⟩ := h
  obtain _ | _ | _ | _ | _ | ⟨_, _, x2, y2, h3, h4⟩ := h2
  cases h1 with
  | int _ n1 =>
  cases h4
  obtain ⟨a, rfl⟩ := ty_auto h3
  exact ⟨⟨n1, a⟩, rfl⟩

theorem ty_nameds {x : AV} (h : TyV (.sl namedSh) [x]) : ∃ l, x = .val (namedRows l) := by
  cases h with
  | sl _ rows hr hl =>
    obtain ⟨l, rfl⟩ := rows_of (f := namedRow) rows (fun r hrr => ty_named (hr r hrr))
    exact ⟨l, rfl⟩

set_option maxRecDepth 100000 in
theorem contract (H : Type) (enc : TypeId × Value → H) (W : World) (base : Nat) (args : Array Value) (ds gs : List (DataW H)) (before : List MemPlace)
    (hval : ∀ (j : Nat) t v, Try.f4.params[j]? = some t → args[j]? = some v → Value.okWide Try.prog W .any base t v)
    (hW : DataW.Whole enc Try.prog Try.f4.params.toList Rows.fnExactShelfOkSpec.vars false W args.toList ds gs before) :
    Calls Try.prog 4 args W fun e W' => ∃ v, e = .returned v ∧ Rows.fnExactShelfOkSpec.post enc Try.prog Try.f4 false true false false W args v W' := by
  have hW' := hW
  obtain ⟨p, q, hA0, hV, rfl, hfz, hnd⟩ := hW
  have hA : DataW.TrodAll enc Try.prog W 0 (fun _ => true) true Try.f4.params.toList args.toList ds p := hA0
  rw [Try.params4] at hA hval
  obtain ⟨v0, vs0, d0, ds0, p0, q0, hargs, rfl, rfl, h0, r0⟩ := trodAll_cons hA
  obtain ⟨rfl, rfl, rfl⟩ := trodAll_nil r0
  obtain rfl : args = #[v0] := by cases args; simp_all
  obtain ⟨rfl, rfl⟩ := trodVars_none hV
  obtain ⟨av, t1, r1⟩ := open_cell (m := 12) (sh := .sl namedSh) (.inl ⟨_, Try.underlying31⟩) (hval 0 31 v0 rfl rfl) h0 (by kernel_rfl)
  obtain ⟨l, rfl⟩ := ty_nameds t1
  refine (s_laws_FnExactShelfOk W none0 [.val (namedRows l)] #[v0] (.bool true) [] ⟨rfl, fun i x v h1 h2 => ?_⟩ ⟨l, rfl, rfl, rfl⟩).mono ?_
  · cases i with
    | zero => simp at h1 h2; subst h1; subst h2; exact r1
    | succ i => simp at h1
  · rintro e W' ⟨v, π, rfl, E, _, hr⟩
    cases hr
    refine ⟨_, rfl, post_of_read hW' rfl E laidOut ?_ (fun b sp hd => trodAll_cons_mk (shut_bool Try.underlying4 true) trodAll_mk0) rfl rfl (ok_one (by kernel_rfl) rfl (okWide_bool_mk Try.underlying4 true))⟩
    rw [Try.params4]
    intro t ht
    simp at ht
    subst ht
    exact ⟨by kernel_rfl, of_decide_eq_true (by kernel_rfl)⟩

set_option maxRecDepth 100000 in
theorem lifted (os : Os) (started : os.Started) (H : Type) (enc : TypeId × Value → H) :
    ReturnsInHanded {} Try.checked os 4 .any (Rows.fnExactShelfOkSpec.pre6 enc Try.prog Try.f4 Rows.fnExactShelfOkRow.domain false) (Rows.fnExactShelfOkSpec.post enc Try.prog Try.f4 false true false false) := by
  refine returnsInHanded_of_change (C := Try.checked) own started (by kernel_rfl) Try.func4
    (ChangeSpec.witness6 (enc := enc) (C := Try.checked) false ⟨#[], #[.slice none 0 0], []⟩ 8 (by kernel_rfl) (by kernel_rfl) (by kernel_rfl) (by kernel_rfl)) ?_
  intro W base args ds gs before hval hW _ _
  exact contract H enc W base args ds gs before hval hW

theorem proved : Rows.FnExactShelfOkSaid :=
  OpenClaim.holds_of_wide 4 Try.f4 rfl rfl rfl rfl rfl rfl rfl ⟨rfl, rfl, rfl, rfl, rfl⟩ rfl rfl rfl rfl rfl (by kernel_rfl) Try.func4 (by kernel_rfl)
    (of_decide_eq_true (by kernel_rfl)) (by unfold Func.isWrapper; first | (rw [if_pos (by decide +kernel)]; kernel_rfl) | (rw [if_neg (by decide +kernel)]; exact ⟨rfl, rfl⟩))
    (fun os started H enc _ => lifted os started H enc)

end Go.Proofs.Ytpfbkblgefddlaa.RowShelfOk
