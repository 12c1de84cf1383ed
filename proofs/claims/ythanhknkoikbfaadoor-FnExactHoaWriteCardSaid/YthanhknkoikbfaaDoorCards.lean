/-
  DERIVED. GIVEN WITH THE SEED: THE CARDS: each row of YthanhknkoikbfaaDoorRows.lean that lists a variable, with what it lists TIED to the program's text (the seventh form; the later family's looks); each row that meets fmt, with fmt's text TOLD by the authors' own Lean function (tested against real Go, not proved from fmt's source: count such statements apart). THE CARD IS WHAT COUNTS. Prove the row's statement (the work); the ties are given (YthanhknkoikbfaaDoorTie.lean); close each card by the builder's one call (the guide's Derived/Test/ToyasCard.lean, 'card_holds'). Laid BY PROGRAM, IN A SANDBOX (cutbox-door.mjs). By AI agents, Wed Nov 11 2026. No macro, syntax, notation, axiom, sorry.
-/
import Derived.Test.YthanhknkoikbfaaDoorRows
import GoSem.ClaimSeven
namespace Go.Proofs.YthanhknkoikbfaaDoor
namespace Rows

/-- THE TIED CARD OF 'laws.FnExactHoaWrite'. -/
def fnExactHoaWriteCard : Claim7 := { stood := { row := fnExactHoaWriteRow, standIns := [], harness := (true, "b1462173ecdcdca3c63ec2c938bb383518e0b09149009c349ec7320604275464"), looks := false }, kinds := [], alts := [], laidByText := true, laidKinds := [.data, .data, .data], laidTests := true, laidLooks := .later }
def FnExactHoaWriteCardSaid : Prop := Claim7.holds Tryd.pinned (.plain (OpenSpec.ofChange fnExactHoaWriteSpec)) fnExactHoaWriteCard

/-- THE SECOND FORM's CARD OF 'laws.FnExactHoaWrite'. -/
def fnExactHoaWriteUptoCard : Claim7 := { stood := { row := fnExactHoaWriteUptoRow, standIns := [], harness := (true, "b1462173ecdcdca3c63ec2c938bb383518e0b09149009c349ec7320604275464"), looks := false }, kinds := [], alts := [], laidByText := true, laidKinds := [.data, .data, .data], laidTests := true, laidLooks := .later }
def FnExactHoaWriteUptoCardSaid : Prop := Claim7.holds Tryd.pinned (.plain (OpenSpec.upto fnExactHoaWriteSpec)) fnExactHoaWriteUptoCard
end Rows
end Go.Proofs.YthanhknkoikbfaaDoor
