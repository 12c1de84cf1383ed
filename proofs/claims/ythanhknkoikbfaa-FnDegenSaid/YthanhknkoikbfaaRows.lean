/-
  No cell of these rows narrows 'for every input' (looked for: loops, veiled, ifaces, maps, wideKeys, modest, calm, conditions, laid).
  DERIVED. THE GIVEN ROWS OF THIS SEAT. 10 by the template 'for every input the law returns true; each argument reads behind the call as it read before'; 0 by the template 'total and deterministic' (their statements: YthanhknkoikbfaaTotals.lean).
  GIVEN WITH THE SEED: the statements are not yours to turn. If you find one false, say at which input.
  Laid BY PROGRAM, IN A SANDBOX (cutbox-rows.mjs): the forced cells as the released guide's own fill.sh prints them over the translation 7277c30f61d302d0… (all of the seat's roots in one cut). By AI agents, Wed Nov 11 2026. No macro, syntax, notation, axiom, sorry.
-/
import Derived.Test.YthanhknkoikbfaaChecked
import GoSem.Claim
import GoSem.ClaimJoined
import GoSem.ClaimMapViews
import Derived.JoinedTies
import Derived.KernelRfl
namespace Go.Proofs.Ythanhknkoikbfaa
/- THE CELL 'sum', in the pinned program and in every row, IS THE sha256 OF THE DUMP (.gsa) THAT YthanhknkoikbfaaProg.lean LOADS. Nothing in Lean hashes anything: it is a label: what it is worth is what the hold of that sum in a sandbox is worth. -/
noncomputable def Try.pinned : Pinned := { name := "ythanhknkoikbfaa", sum := "7277c30f61d302d09578c227a37fe2320c754a10343f6b07455021d9e79a1072", checked := Try.checked }
namespace Rows
def none {H : Type} : Left H := { results := [], args := [] }

/-- 'laws.FnExactRankIn': WHATEVER THE INPUT: true; the input reads as it did. -/
def fnExactRankInSpec : ChangeSpec := { name := "fnExactRankIn", fn := fun _ => fun
  | [d1, d2] => { results := [.lit (.bool true)], args := [d1, d2] }
  | _ => none }
def fnExactRankInRow : OpenClaim := { program := "ythanhknkoikbfaa", sum := "7277c30f61d302d09578c227a37fe2320c754a10343f6b07455021d9e79a1072", func := "loop.example/g00102/laws.FnExactRankIn", spec := "fnExactRankIn", unfollowed := true, recurses := true, plainKeys := false, apart := false }
def FnExactRankInSaid : Prop := fnExactRankInRow.holds Try.pinned (OpenSpec.ofChange fnExactRankInSpec)

/-- ITS FALSE NEIGHBOUR: 'it returns false'. Refute it at one input. -/
def fnExactRankInWrong : ChangeSpec := { name := "fnExactRankIn", fn := fun _ => fun
  | [d1, d2] => { results := [.lit (.bool false)], args := [d1, d2] }
  | _ => none }
def FnExactRankInWrongFalsely : Prop := fnExactRankInRow.holds Try.pinned (OpenSpec.ofChange fnExactRankInWrong)

/-- 'laws.FnExactAskHas': WHATEVER THE INPUT: true; the input reads as it did. -/
def fnExactAskHasSpec : ChangeSpec := { name := "fnExactAskHas", fn := fun _ => fun
  | [d1, d2] => { results := [.lit (.bool true)], args := [d1, d2] }
  | _ => none }
def fnExactAskHasRow : OpenClaim := { program := "ythanhknkoikbfaa", sum := "7277c30f61d302d09578c227a37fe2320c754a10343f6b07455021d9e79a1072", func := "loop.example/g00102/laws.FnExactAskHas", spec := "fnExactAskHas", plainKeys := false, apart := false }
def FnExactAskHasSaid : Prop := fnExactAskHasRow.holds Try.pinned (OpenSpec.ofChange fnExactAskHasSpec)

/-- ITS FALSE NEIGHBOUR: 'it returns false'. Refute it at one input. -/
def fnExactAskHasWrong : ChangeSpec := { name := "fnExactAskHas", fn := fun _ => fun
  | [d1, d2] => { results := [.lit (.bool false)], args := [d1, d2] }
  | _ => none }
def FnExactAskHasWrongFalsely : Prop := fnExactAskHasRow.holds Try.pinned (OpenSpec.ofChange fnExactAskHasWrong)

/-- 'laws.FnExactRankTakes': WHATEVER THE INPUT: true; the input reads as it did. -/
def fnExactRankTakesSpec : ChangeSpec := { name := "fnExactRankTakes", fn := fun _ => fun
  | [d1, d2] => { results := [.lit (.bool true)], args := [d1, d2] }
  | _ => none }
def fnExactRankTakesRow : OpenClaim := { program := "ythanhknkoikbfaa", sum := "7277c30f61d302d09578c227a37fe2320c754a10343f6b07455021d9e79a1072", func := "loop.example/g00102/laws.FnExactRankTakes", spec := "fnExactRankTakes", unfollowed := true, recurses := true, plainKeys := false, apart := false }
def FnExactRankTakesSaid : Prop := fnExactRankTakesRow.holds Try.pinned (OpenSpec.ofChange fnExactRankTakesSpec)

/-- ITS FALSE NEIGHBOUR: 'it returns false'. Refute it at one input. -/
def fnExactRankTakesWrong : ChangeSpec := { name := "fnExactRankTakes", fn := fun _ => fun
  | [d1, d2] => { results := [.lit (.bool false)], args := [d1, d2] }
  | _ => none }
def FnExactRankTakesWrongFalsely : Prop := fnExactRankTakesRow.holds Try.pinned (OpenSpec.ofChange fnExactRankTakesWrong)

/-- 'laws.FnExactRunOf': WHATEVER THE INPUT: true; the input reads as it did. -/
def fnExactRunOfSpec : ChangeSpec := { name := "fnExactRunOf", fn := fun _ => fun
  | [d1, d2] => { results := [.lit (.bool true)], args := [d1, d2] }
  | _ => none }
def fnExactRunOfRow : OpenClaim := { program := "ythanhknkoikbfaa", sum := "7277c30f61d302d09578c227a37fe2320c754a10343f6b07455021d9e79a1072", func := "loop.example/g00102/laws.FnExactRunOf", spec := "fnExactRunOf", plainKeys := false, apart := false }
def FnExactRunOfSaid : Prop := fnExactRunOfRow.holds Try.pinned (OpenSpec.ofChange fnExactRunOfSpec)

/-- ITS FALSE NEIGHBOUR: 'it returns false'. Refute it at one input. -/
def fnExactRunOfWrong : ChangeSpec := { name := "fnExactRunOf", fn := fun _ => fun
  | [d1, d2] => { results := [.lit (.bool false)], args := [d1, d2] }
  | _ => none }
def FnExactRunOfWrongFalsely : Prop := fnExactRunOfRow.holds Try.pinned (OpenSpec.ofChange fnExactRunOfWrong)

/-- 'laws.FnPrune': WHATEVER THE INPUT: true; the input reads as it did. -/
def fnPruneSpec : ChangeSpec := { name := "fnPrune", fn := fun _ => fun
  | [d] => { results := [.lit (.bool true)], args := [d] }
  | _ => none }
def fnPruneRow : OpenClaim := { program := "ythanhknkoikbfaa", sum := "7277c30f61d302d09578c227a37fe2320c754a10343f6b07455021d9e79a1072", func := "loop.example/g00102/laws.FnPrune", spec := "fnPrune", plainKeys := false, apart := false }
def FnPruneSaid : Prop := fnPruneRow.holds Try.pinned (OpenSpec.ofChange fnPruneSpec)

/-- ITS FALSE NEIGHBOUR: 'it returns false'. Refute it at one input. -/
def fnPruneWrong : ChangeSpec := { name := "fnPrune", fn := fun _ => fun
  | [d] => { results := [.lit (.bool false)], args := [d] }
  | _ => none }
def FnPruneWrongFalsely : Prop := fnPruneRow.holds Try.pinned (OpenSpec.ofChange fnPruneWrong)

/-- 'laws.FnAlike': WHATEVER THE INPUT: true; the input reads as it did. -/
def fnAlikeSpec : ChangeSpec := { name := "fnAlike", fn := fun _ => fun
  | [d] => { results := [.lit (.bool true)], args := [d] }
  | _ => none }
def fnAlikeRow : OpenClaim := { program := "ythanhknkoikbfaa", sum := "7277c30f61d302d09578c227a37fe2320c754a10343f6b07455021d9e79a1072", func := "loop.example/g00102/laws.FnAlike", spec := "fnAlike", plainKeys := false, apart := false }
def FnAlikeSaid : Prop := fnAlikeRow.holds Try.pinned (OpenSpec.ofChange fnAlikeSpec)

/-- ITS FALSE NEIGHBOUR: 'it returns false'. Refute it at one input. -/
def fnAlikeWrong : ChangeSpec := { name := "fnAlike", fn := fun _ => fun
  | [d] => { results := [.lit (.bool false)], args := [d] }
  | _ => none }
def FnAlikeWrongFalsely : Prop := fnAlikeRow.holds Try.pinned (OpenSpec.ofChange fnAlikeWrong)

/-- 'laws.FnRun': WHATEVER THE INPUT: true; the input reads as it did. -/
def fnRunSpec : ChangeSpec := { name := "fnRun", fn := fun _ => fun
  | [d] => { results := [.lit (.bool true)], args := [d] }
  | _ => none }
def fnRunRow : OpenClaim := { program := "ythanhknkoikbfaa", sum := "7277c30f61d302d09578c227a37fe2320c754a10343f6b07455021d9e79a1072", func := "loop.example/g00102/laws.FnRun", spec := "fnRun", plainKeys := false, apart := false }
def FnRunSaid : Prop := fnRunRow.holds Try.pinned (OpenSpec.ofChange fnRunSpec)

/-- ITS FALSE NEIGHBOUR: 'it returns false'. Refute it at one input. -/
def fnRunWrong : ChangeSpec := { name := "fnRun", fn := fun _ => fun
  | [d] => { results := [.lit (.bool false)], args := [d] }
  | _ => none }
def FnRunWrongFalsely : Prop := fnRunRow.holds Try.pinned (OpenSpec.ofChange fnRunWrong)

/-- 'laws.FnFound': WHATEVER THE INPUT: true; the input reads as it did. -/
def fnFoundSpec : ChangeSpec := { name := "fnFound", fn := fun _ => fun
  | [d] => { results := [.lit (.bool true)], args := [d] }
  | _ => none }
def fnFoundRow : OpenClaim := { program := "ythanhknkoikbfaa", sum := "7277c30f61d302d09578c227a37fe2320c754a10343f6b07455021d9e79a1072", func := "loop.example/g00102/laws.FnFound", spec := "fnFound", unfollowed := true, recurses := true, plainKeys := false, apart := false }
def FnFoundSaid : Prop := fnFoundRow.holds Try.pinned (OpenSpec.ofChange fnFoundSpec)

/-- ITS FALSE NEIGHBOUR: 'it returns false'. Refute it at one input. -/
def fnFoundWrong : ChangeSpec := { name := "fnFound", fn := fun _ => fun
  | [d] => { results := [.lit (.bool false)], args := [d] }
  | _ => none }
def FnFoundWrongFalsely : Prop := fnFoundRow.holds Try.pinned (OpenSpec.ofChange fnFoundWrong)

/-- 'laws.FnAskOne': WHATEVER THE INPUT: true; the input reads as it did. -/
def fnAskOneSpec : ChangeSpec := { name := "fnAskOne", fn := fun _ => fun
  | [d] => { results := [.lit (.bool true)], args := [d] }
  | _ => none }
def fnAskOneRow : OpenClaim := { program := "ythanhknkoikbfaa", sum := "7277c30f61d302d09578c227a37fe2320c754a10343f6b07455021d9e79a1072", func := "loop.example/g00102/laws.FnAskOne", spec := "fnAskOne", unfollowed := true, recurses := true, plainKeys := false, apart := false }
def FnAskOneSaid : Prop := fnAskOneRow.holds Try.pinned (OpenSpec.ofChange fnAskOneSpec)

/-- ITS FALSE NEIGHBOUR: 'it returns false'. Refute it at one input. -/
def fnAskOneWrong : ChangeSpec := { name := "fnAskOne", fn := fun _ => fun
  | [d] => { results := [.lit (.bool false)], args := [d] }
  | _ => none }
def FnAskOneWrongFalsely : Prop := fnAskOneRow.holds Try.pinned (OpenSpec.ofChange fnAskOneWrong)

/-- 'laws.FnDegen': WHATEVER THE INPUT: true; the input reads as it did. -/
def fnDegenSpec : ChangeSpec := { name := "fnDegen", fn := fun _ => fun
  | [d] => { results := [.lit (.bool true)], args := [d] }
  | _ => none }
def fnDegenRow : OpenClaim := { program := "ythanhknkoikbfaa", sum := "7277c30f61d302d09578c227a37fe2320c754a10343f6b07455021d9e79a1072", func := "loop.example/g00102/laws.FnDegen", spec := "fnDegen", unfollowed := true, recurses := true, plainKeys := false, apart := false }
def FnDegenSaid : Prop := fnDegenRow.holds Try.pinned (OpenSpec.ofChange fnDegenSpec)

/-- ITS FALSE NEIGHBOUR: 'it returns false'. Refute it at one input. -/
def fnDegenWrong : ChangeSpec := { name := "fnDegen", fn := fun _ => fun
  | [d] => { results := [.lit (.bool false)], args := [d] }
  | _ => none }
def FnDegenWrongFalsely : Prop := fnDegenRow.holds Try.pinned (OpenSpec.ofChange fnDegenWrong)

/- THE SECOND FORM. 'bulk': how many values and letters a reading holds, each counted each time it is reached (what is shared counts as often as it is met; a slice's spare places count too). A statement '..UptoSaid' is the law's where the arguments, and the package variables that the reading takes, are together of bulk at most 1048576: NARROWER than '..Said'. Prove '..Said' where nothing that the law and all that it calls make is longer than what came in: it says more and counts as full. Else prove '..UptoSaid'. A law counts once. -/
mutual
def uptoBulk {H : Type} : DataW H → Nat
  | .lit (.string bytes) => bytes.length + 1
  | .lit _ => 1
  | .nil => 1
  | .ptr d => uptoBulk d + 1
  | .slice elems spare => uptoBulkAll elems + uptoBulkAll spare + 1
  | .agg parts => uptoBulkAll parts + 1
  | .iface _ d => uptoBulk d + 1
  | .map entries => uptoBulkEntries entries + 1
  | .held _ => 1
def uptoBulkAll {H : Type} : List (DataW H) → Nat
  | [] => 0
  | d :: r => uptoBulk d + uptoBulkAll r
def uptoBulkEntries {H : Type} : List (Lit × DataW H) → Nat
  | [] => 0
  | x :: r => uptoBulkEntry x + uptoBulkEntries r
def uptoBulkEntry {H : Type} : Lit × DataW H → Nat
  | (.string bytes, d) => bytes.length + uptoBulk d + 1
  | (_, d) => uptoBulk d + 1
 end
def uptoSmall : (H : Type) → List (DataW H) → Bool := fun _ ds => decide (uptoBulkAll ds ≤ 1048576)
def OpenSpec.upto (s : _root_.Go.ChangeSpec) : _root_.Go.OpenSpec := { _root_.Go.OpenSpec.ofChange s with cond := some uptoSmall }

/-- 'laws.FnExactRankIn', WHERE WHAT IT READS IS OF BULK AT MOST 1048576: true; the input reads as it did. -/
def fnExactRankInUptoRow : OpenClaim := { program := "ythanhknkoikbfaa", sum := "7277c30f61d302d09578c227a37fe2320c754a10343f6b07455021d9e79a1072", func := "loop.example/g00102/laws.FnExactRankIn", spec := "fnExactRankIn", unfollowed := true, recurses := true, plainKeys := false, apart := false, narrowed := true }
def FnExactRankInUptoSaid : Prop := fnExactRankInUptoRow.holds Try.pinned (OpenSpec.upto fnExactRankInSpec)

/-- 'laws.FnExactAskHas', WHERE WHAT IT READS IS OF BULK AT MOST 1048576: true; the input reads as it did. -/
def fnExactAskHasUptoRow : OpenClaim := { program := "ythanhknkoikbfaa", sum := "7277c30f61d302d09578c227a37fe2320c754a10343f6b07455021d9e79a1072", func := "loop.example/g00102/laws.FnExactAskHas", spec := "fnExactAskHas", plainKeys := false, apart := false, narrowed := true }
def FnExactAskHasUptoSaid : Prop := fnExactAskHasUptoRow.holds Try.pinned (OpenSpec.upto fnExactAskHasSpec)

/-- 'laws.FnExactRankTakes', WHERE WHAT IT READS IS OF BULK AT MOST 1048576: true; the input reads as it did. -/
def fnExactRankTakesUptoRow : OpenClaim := { program := "ythanhknkoikbfaa", sum := "7277c30f61d302d09578c227a37fe2320c754a10343f6b07455021d9e79a1072", func := "loop.example/g00102/laws.FnExactRankTakes", spec := "fnExactRankTakes", unfollowed := true, recurses := true, plainKeys := false, apart := false, narrowed := true }
def FnExactRankTakesUptoSaid : Prop := fnExactRankTakesUptoRow.holds Try.pinned (OpenSpec.upto fnExactRankTakesSpec)

/-- 'laws.FnExactRunOf', WHERE WHAT IT READS IS OF BULK AT MOST 1048576: true; the input reads as it did. -/
def fnExactRunOfUptoRow : OpenClaim := { program := "ythanhknkoikbfaa", sum := "7277c30f61d302d09578c227a37fe2320c754a10343f6b07455021d9e79a1072", func := "loop.example/g00102/laws.FnExactRunOf", spec := "fnExactRunOf", plainKeys := false, apart := false, narrowed := true }
def FnExactRunOfUptoSaid : Prop := fnExactRunOfUptoRow.holds Try.pinned (OpenSpec.upto fnExactRunOfSpec)

/-- 'laws.FnPrune', WHERE WHAT IT READS IS OF BULK AT MOST 1048576: true; the input reads as it did. -/
def fnPruneUptoRow : OpenClaim := { program := "ythanhknkoikbfaa", sum := "7277c30f61d302d09578c227a37fe2320c754a10343f6b07455021d9e79a1072", func := "loop.example/g00102/laws.FnPrune", spec := "fnPrune", plainKeys := false, apart := false, narrowed := true }
def FnPruneUptoSaid : Prop := fnPruneUptoRow.holds Try.pinned (OpenSpec.upto fnPruneSpec)

/-- 'laws.FnAlike', WHERE WHAT IT READS IS OF BULK AT MOST 1048576: true; the input reads as it did. -/
def fnAlikeUptoRow : OpenClaim := { program := "ythanhknkoikbfaa", sum := "7277c30f61d302d09578c227a37fe2320c754a10343f6b07455021d9e79a1072", func := "loop.example/g00102/laws.FnAlike", spec := "fnAlike", plainKeys := false, apart := false, narrowed := true }
def FnAlikeUptoSaid : Prop := fnAlikeUptoRow.holds Try.pinned (OpenSpec.upto fnAlikeSpec)

/-- 'laws.FnRun', WHERE WHAT IT READS IS OF BULK AT MOST 1048576: true; the input reads as it did. -/
def fnRunUptoRow : OpenClaim := { program := "ythanhknkoikbfaa", sum := "7277c30f61d302d09578c227a37fe2320c754a10343f6b07455021d9e79a1072", func := "loop.example/g00102/laws.FnRun", spec := "fnRun", plainKeys := false, apart := false, narrowed := true }
def FnRunUptoSaid : Prop := fnRunUptoRow.holds Try.pinned (OpenSpec.upto fnRunSpec)

/-- 'laws.FnFound', WHERE WHAT IT READS IS OF BULK AT MOST 1048576: true; the input reads as it did. -/
def fnFoundUptoRow : OpenClaim := { program := "ythanhknkoikbfaa", sum := "7277c30f61d302d09578c227a37fe2320c754a10343f6b07455021d9e79a1072", func := "loop.example/g00102/laws.FnFound", spec := "fnFound", unfollowed := true, recurses := true, plainKeys := false, apart := false, narrowed := true }
def FnFoundUptoSaid : Prop := fnFoundUptoRow.holds Try.pinned (OpenSpec.upto fnFoundSpec)

/-- 'laws.FnAskOne', WHERE WHAT IT READS IS OF BULK AT MOST 1048576: true; the input reads as it did. -/
def fnAskOneUptoRow : OpenClaim := { program := "ythanhknkoikbfaa", sum := "7277c30f61d302d09578c227a37fe2320c754a10343f6b07455021d9e79a1072", func := "loop.example/g00102/laws.FnAskOne", spec := "fnAskOne", unfollowed := true, recurses := true, plainKeys := false, apart := false, narrowed := true }
def FnAskOneUptoSaid : Prop := fnAskOneUptoRow.holds Try.pinned (OpenSpec.upto fnAskOneSpec)

/-- 'laws.FnDegen', WHERE WHAT IT READS IS OF BULK AT MOST 1048576: true; the input reads as it did. -/
def fnDegenUptoRow : OpenClaim := { program := "ythanhknkoikbfaa", sum := "7277c30f61d302d09578c227a37fe2320c754a10343f6b07455021d9e79a1072", func := "loop.example/g00102/laws.FnDegen", spec := "fnDegen", unfollowed := true, recurses := true, plainKeys := false, apart := false, narrowed := true }
def FnDegenUptoSaid : Prop := fnDegenUptoRow.holds Try.pinned (OpenSpec.upto fnDegenSpec)

end Rows
end Go.Proofs.Ythanhknkoikbfaa
