/-
  DERIVED. GIVEN WITH THE SEED: THE CARDS: each row of YtpfbkblgefddlaaDoorRows.lean that lists a variable, with what it lists TIED to the program's text (the seventh form; the later family's looks); each row that meets fmt, with fmt's text TOLD by the authors' own Lean function (tested against real Go, not proved from fmt's source: count such statements apart). THE CARD IS WHAT COUNTS. Prove the row's statement (the work); the ties are given (YtpfbkblgefddlaaDoorTie.lean); close each card by the builder's one call (the guide's Derived/Test/ToyasCard.lean, 'card_holds'). Laid BY PROGRAM, IN A SANDBOX (cutbox-door.mjs). By AI agents, Wed Nov 11 2026. No macro, syntax, notation, axiom, sorry.
-/
import Derived.Test.YtpfbkblgefddlaaDoorRows
import GoSem.ClaimSeven
namespace Go.Proofs.YtpfbkblgefddlaaDoor
namespace Rows

/-- THE TIED CARD OF 'laws.FnExactOmegaParse'. -/
def fnExactOmegaParseCard : Claim7 := { stood := { row := fnExactOmegaParseRow, standIns := [], harness := (true, "0dd4db526be7d4849182d4896ec2220db6f42ed3354efac7bae8dac4c63b304f"), looks := false }, kinds := [], alts := [], laidByText := true, laidKinds := [.data, .pinned], laidTests := true, laidLooks := .later }
def FnExactOmegaParseCardSaid : Prop := Claim7.holds Tryd.pinned (.plain (OpenSpec.ofChange fnExactOmegaParseSpec)) fnExactOmegaParseCard

/-- THE SECOND FORM's CARD OF 'laws.FnExactOmegaParse'. -/
def fnExactOmegaParseUptoCard : Claim7 := { stood := { row := fnExactOmegaParseUptoRow, standIns := [], harness := (true, "0dd4db526be7d4849182d4896ec2220db6f42ed3354efac7bae8dac4c63b304f"), looks := false }, kinds := [], alts := [], laidByText := true, laidKinds := [.data, .pinned], laidTests := true, laidLooks := .later }
def FnExactOmegaParseUptoCardSaid : Prop := Claim7.holds Tryd.pinned (.plain (OpenSpec.upto fnExactOmegaParseSpec)) fnExactOmegaParseUptoCard
end Rows
end Go.Proofs.YtpfbkblgefddlaaDoor
