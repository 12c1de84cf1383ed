/- Arguments of a type: shelves. -/
import Derived.Test.YtpfbkblgefddlaaCtAuto1
import Derived.Test.YtpfbkblgefddlaaAvRow
namespace Go.Proofs.Ytpfbkblgefddlaa.Ct
set_option linter.unusedSimpArgs false
set_option linter.unusedVariables false
open Go Go.Proofs Go.Proofs.Ytpfbkblgefddlaa.Av Go.ChangeShapes Go.WideShapes Go.ChangeAt Go.RowKit

theorem rows_of {α : Type} {f : α → List AV} : ∀ (rows : List (List AV)), (∀ r ∈ rows, ∃ x, r = f x) → ∃ l : List α, rows = l.map f
  | [], _ => ⟨[], rfl⟩
  | r :: rows, h => by
    obtain ⟨x, rfl⟩ := h r (by simp)
    obtain ⟨l, rfl⟩ := rows_of rows (fun r hr => h r (by simp [hr]))
    exact ⟨x :: l, rfl⟩

abbrev edgeSh : Sh := .cons (.int .i64) (.cons (.int .i64) (.cons (.int .i64) (.cons .bool .nil)))
abbrev autoSh : Sh := .cons (.int .i64) (.cons (.int .i64) (.cons (.int .i64) (.cons (.sl edgeSh) .nil)))
abbrev namedSh : Sh := .cons (.int .i64) (.cons autoSh .nil)

theorem ty_edge {c : List AV} (h : TyV edgeSh c) : ∃ x, c = edgeRow x := by
  obtain _ | _ | _ | _ | _ | ⟨_, _, x1, y1, h1, h2⟩ := h
  obtain _ | _ | _ | _ | _ | ⟨_, _, x2, y2, h3, h4⟩ := h2
  obtain _ | _ | _ | _ | _ | ⟨_, _, x3, y3, h5, h6⟩ := h4
  obtain _ | _ | _ | _ | _ | ⟨_, _, x4, y4, h7, h8⟩ := h6
  cases h1 with
  | int _ n1 =>
  cases h3 with
  | int _ n2 =>
  cases h5 with
  | int _ n3 =>
  cases h7 with
  | bool b =>
  cases h8
  exact ⟨⟨n1, n2, n3, b⟩, rfl⟩

theorem ty_auto {c : List AV} (h : TyV autoSh c) : ∃ x, c = autoRow x := by
  obtain _ | _ | _ | _ | _ | ⟨_, _, x1, y1, h1, h2⟩ := h
  obtain _ | _ | _ | _ | _ | ⟨_, _, x2, y2, h3, h4⟩ := h2
  obtain _ | _ | _ | _ | _ | ⟨_, _, x3, y3, h5, h6⟩ := h4
  obtain _ | _ | _ | _ | _ | ⟨_, _, x4, y4, h7, h8⟩ := h6
  cases h1 with
  | int _ n1 =>
  cases h3 with
  | int _ n2 =>
  cases h5 with
  | int _ n3 =>
  cases h7 with
  | sl _ rows hr hl =>
  cases h8
  obtain ⟨l, rfl⟩ := rows_of (f := edgeRow) rows (fun r hrr => ty_edge (hr r hrr))
  exact ⟨⟨n1, n2, n3, l⟩, rfl⟩

theorem ty_named {c : List AV} (h : TyV namedSh c) : ∃ x, c = namedRow x := by
  obtain _ | _ | _ | _ | _ | ⟨_, _, x1, y1, h1, h2⟩ := h
  obtain _ | _ | _ | _ | _ | ⟨_, _, x2, y2, h3, h4⟩ := h2
  cases h1 with
  | int _ n1 =>
  cases h4
  obtain ⟨a, rfl⟩ := ty_auto h3
  exact ⟨⟨n1, a⟩, rfl⟩

theorem ty_nameds {x : AV} (h : TyV (.sl namedSh) [x]) : ∃ l, x = .val (namedRows l) := by
  cases h with
  | sl _ rows hr hl =>
    obtain ⟨l, rfl⟩ := rows_of (f := namedRow) rows (fun r hrr => ty_named (hr r hrr))
    exact ⟨l, rfl⟩

end Go.Proofs.Ytpfbkblgefddlaa.Ct
