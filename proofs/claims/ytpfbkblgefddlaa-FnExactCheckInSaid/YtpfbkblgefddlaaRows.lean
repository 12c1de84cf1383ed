/-
  No cell of these rows narrows 'for every input' (looked for: loops, veiled, ifaces, maps, wideKeys, modest, calm, conditions, laid).
  DERIVED. THE GIVEN ROWS OF THIS SEAT. 10 by the template 'for every input the law returns true; each argument reads behind the call as it read before'; 0 by the template 'total and deterministic' (their statements: YtpfbkblgefddlaaTotals.lean).
  GIVEN WITH THE SEED: the statements are not yours to turn. If you find one false, say at which input.
  Laid BY PROGRAM, IN A SANDBOX (cutbox-rows.mjs): the forced cells as the released guide's own fill.sh prints them over the translation d7d6753340c3211b… (all of the seat's roots in one cut). By AI agents, Wed Nov 11 2026. No macro, syntax, notation, axiom, sorry.
-/
import Derived.Test.YtpfbkblgefddlaaChecked
import GoSem.Claim
import GoSem.ClaimJoined
import GoSem.ClaimMapViews
import Derived.JoinedTies
import Derived.KernelRfl
namespace Go.Proofs.Ytpfbkblgefddlaa
/- THE CELL 'sum', in the pinned program and in every row, IS THE sha256 OF THE DUMP (.gsa) THAT YtpfbkblgefddlaaProg.lean LOADS. Nothing in Lean hashes anything: it is a label: what it is worth is what the hold of that sum in a sandbox is worth. -/
noncomputable def Try.pinned : Pinned := { name := "ytpfbkblgefddlaa", sum := "d7d6753340c3211b7023280efacbad89a8c2f6b9e2c6b5d9b501156a126a53f2", checked := Try.checked }
namespace Rows
def none {H : Type} : Left H := { results := [], args := [] }

/-- 'laws.FnExactWordText': WHATEVER THE INPUT: true; the input reads as it did. -/
def fnExactWordTextSpec : ChangeSpec := { name := "fnExactWordText", fn := fun _ => fun
  | [d] => { results := [.lit (.bool true)], args := [d] }
  | _ => none }
def fnExactWordTextRow : OpenClaim := { program := "ytpfbkblgefddlaa", sum := "d7d6753340c3211b7023280efacbad89a8c2f6b9e2c6b5d9b501156a126a53f2", func := "loop.example/g00102/laws.FnExactWordText", spec := "fnExactWordText", apart := false }
def FnExactWordTextSaid : Prop := fnExactWordTextRow.holds Try.pinned (OpenSpec.ofChange fnExactWordTextSpec)

/-- ITS FALSE NEIGHBOUR: 'it returns false'. Refute it at one input. -/
def fnExactWordTextWrong : ChangeSpec := { name := "fnExactWordText", fn := fun _ => fun
  | [d] => { results := [.lit (.bool false)], args := [d] }
  | _ => none }
def FnExactWordTextWrongFalsely : Prop := fnExactWordTextRow.holds Try.pinned (OpenSpec.ofChange fnExactWordTextWrong)

/-- 'laws.FnExactShelfOk': WHATEVER THE INPUT: true; the input reads as it did. -/
def fnExactShelfOkSpec : ChangeSpec := { name := "fnExactShelfOk", fn := fun _ => fun
  | [d] => { results := [.lit (.bool true)], args := [d] }
  | _ => none }
def fnExactShelfOkRow : OpenClaim := { program := "ytpfbkblgefddlaa", sum := "d7d6753340c3211b7023280efacbad89a8c2f6b9e2c6b5d9b501156a126a53f2", func := "loop.example/g00102/laws.FnExactShelfOk", spec := "fnExactShelfOk", apart := false }
def FnExactShelfOkSaid : Prop := fnExactShelfOkRow.holds Try.pinned (OpenSpec.ofChange fnExactShelfOkSpec)

/-- ITS FALSE NEIGHBOUR: 'it returns false'. Refute it at one input. -/
def fnExactShelfOkWrong : ChangeSpec := { name := "fnExactShelfOk", fn := fun _ => fun
  | [d] => { results := [.lit (.bool false)], args := [d] }
  | _ => none }
def FnExactShelfOkWrongFalsely : Prop := fnExactShelfOkRow.holds Try.pinned (OpenSpec.ofChange fnExactShelfOkWrong)

/-- 'laws.FnExactWordRead': WHATEVER THE INPUT: true; the input reads as it did. -/
def fnExactWordReadSpec : ChangeSpec := { name := "fnExactWordRead", fn := fun _ => fun
  | [d] => { results := [.lit (.bool true)], args := [d] }
  | _ => none }
def fnExactWordReadRow : OpenClaim := { program := "ytpfbkblgefddlaa", sum := "d7d6753340c3211b7023280efacbad89a8c2f6b9e2c6b5d9b501156a126a53f2", func := "loop.example/g00102/laws.FnExactWordRead", spec := "fnExactWordRead", inPlace := ["internal/bytealg.IndexByteString", "internal/bytealg.IndexString"], named := ["internal/bytealg.MaxLen"], apart := false }
def FnExactWordReadSaid : Prop := fnExactWordReadRow.holds Try.pinned (OpenSpec.ofChange fnExactWordReadSpec)

/-- ITS FALSE NEIGHBOUR: 'it returns false'. Refute it at one input. -/
def fnExactWordReadWrong : ChangeSpec := { name := "fnExactWordRead", fn := fun _ => fun
  | [d] => { results := [.lit (.bool false)], args := [d] }
  | _ => none }
def FnExactWordReadWrongFalsely : Prop := fnExactWordReadRow.holds Try.pinned (OpenSpec.ofChange fnExactWordReadWrong)

/-- 'laws.FnWordText': WHATEVER THE INPUT: true; the input reads as it did. -/
def fnWordTextSpec : ChangeSpec := { name := "fnWordText", fn := fun _ => fun
  | [d] => { results := [.lit (.bool true)], args := [d] }
  | _ => none }
def fnWordTextRow : OpenClaim := { program := "ytpfbkblgefddlaa", sum := "d7d6753340c3211b7023280efacbad89a8c2f6b9e2c6b5d9b501156a126a53f2", func := "loop.example/g00102/laws.FnWordText", spec := "fnWordText", inPlace := ["internal/bytealg.IndexByteString", "internal/bytealg.IndexString"], named := ["internal/bytealg.MaxLen"], apart := false }
def FnWordTextSaid : Prop := fnWordTextRow.holds Try.pinned (OpenSpec.ofChange fnWordTextSpec)

/-- ITS FALSE NEIGHBOUR: 'it returns false'. Refute it at one input. -/
def fnWordTextWrong : ChangeSpec := { name := "fnWordText", fn := fun _ => fun
  | [d] => { results := [.lit (.bool false)], args := [d] }
  | _ => none }
def FnWordTextWrongFalsely : Prop := fnWordTextRow.holds Try.pinned (OpenSpec.ofChange fnWordTextWrong)

/-- 'laws.FnExactShelfGet': WHATEVER THE INPUT: true; the input reads as it did. -/
def fnExactShelfGetSpec : ChangeSpec := { name := "fnExactShelfGet", fn := fun _ => fun
  | [d1, d2] => { results := [.lit (.bool true)], args := [d1, d2] }
  | _ => none }
def fnExactShelfGetRow : OpenClaim := { program := "ytpfbkblgefddlaa", sum := "d7d6753340c3211b7023280efacbad89a8c2f6b9e2c6b5d9b501156a126a53f2", func := "loop.example/g00102/laws.FnExactShelfGet", spec := "fnExactShelfGet", apart := false }
def FnExactShelfGetSaid : Prop := fnExactShelfGetRow.holds Try.pinned (OpenSpec.ofChange fnExactShelfGetSpec)

/-- ITS FALSE NEIGHBOUR: 'it returns false'. Refute it at one input. -/
def fnExactShelfGetWrong : ChangeSpec := { name := "fnExactShelfGet", fn := fun _ => fun
  | [d1, d2] => { results := [.lit (.bool false)], args := [d1, d2] }
  | _ => none }
def FnExactShelfGetWrongFalsely : Prop := fnExactShelfGetRow.holds Try.pinned (OpenSpec.ofChange fnExactShelfGetWrong)

/-- 'laws.FnLtlText': WHATEVER THE INPUT: true; the input reads as it did. -/
def fnLtlTextSpec : ChangeSpec := { name := "fnLtlText", fn := fun _ => fun
  | [d] => { results := [.lit (.bool true)], args := [d] }
  | _ => none }
def fnLtlTextRow : OpenClaim := { program := "ytpfbkblgefddlaa", sum := "d7d6753340c3211b7023280efacbad89a8c2f6b9e2c6b5d9b501156a126a53f2", func := "loop.example/g00102/laws.FnLtlText", spec := "fnLtlText", unfollowed := true, recurses := true, apart := false }
def FnLtlTextSaid : Prop := fnLtlTextRow.holds Try.pinned (OpenSpec.ofChange fnLtlTextSpec)

/-- ITS FALSE NEIGHBOUR: 'it returns false'. Refute it at one input. -/
def fnLtlTextWrong : ChangeSpec := { name := "fnLtlText", fn := fun _ => fun
  | [d] => { results := [.lit (.bool false)], args := [d] }
  | _ => none }
def FnLtlTextWrongFalsely : Prop := fnLtlTextRow.holds Try.pinned (OpenSpec.ofChange fnLtlTextWrong)

/-- 'laws.FnExactAutoWord': WHATEVER THE INPUT: true; the input reads as it did. -/
def fnExactAutoWordSpec : ChangeSpec := { name := "fnExactAutoWord", fn := fun _ => fun
  | [d] => { results := [.lit (.bool true)], args := [d] }
  | _ => none }
def fnExactAutoWordRow : OpenClaim := { program := "ytpfbkblgefddlaa", sum := "d7d6753340c3211b7023280efacbad89a8c2f6b9e2c6b5d9b501156a126a53f2", func := "loop.example/g00102/laws.FnExactAutoWord", spec := "fnExactAutoWord", unfollowed := true, recurses := true, apart := false }
def FnExactAutoWordSaid : Prop := fnExactAutoWordRow.holds Try.pinned (OpenSpec.ofChange fnExactAutoWordSpec)

/-- ITS FALSE NEIGHBOUR: 'it returns false'. Refute it at one input. -/
def fnExactAutoWordWrong : ChangeSpec := { name := "fnExactAutoWord", fn := fun _ => fun
  | [d] => { results := [.lit (.bool false)], args := [d] }
  | _ => none }
def FnExactAutoWordWrongFalsely : Prop := fnExactAutoWordRow.holds Try.pinned (OpenSpec.ofChange fnExactAutoWordWrong)

/-- 'laws.FnExactAutoTakes': WHATEVER THE INPUT: true; the input reads as it did. -/
def fnExactAutoTakesSpec : ChangeSpec := { name := "fnExactAutoTakes", fn := fun _ => fun
  | [d1, d2] => { results := [.lit (.bool true)], args := [d1, d2] }
  | _ => none }
def fnExactAutoTakesRow : OpenClaim := { program := "ytpfbkblgefddlaa", sum := "d7d6753340c3211b7023280efacbad89a8c2f6b9e2c6b5d9b501156a126a53f2", func := "loop.example/g00102/laws.FnExactAutoTakes", spec := "fnExactAutoTakes", apart := false }
def FnExactAutoTakesSaid : Prop := fnExactAutoTakesRow.holds Try.pinned (OpenSpec.ofChange fnExactAutoTakesSpec)

/-- ITS FALSE NEIGHBOUR: 'it returns false'. Refute it at one input. -/
def fnExactAutoTakesWrong : ChangeSpec := { name := "fnExactAutoTakes", fn := fun _ => fun
  | [d1, d2] => { results := [.lit (.bool false)], args := [d1, d2] }
  | _ => none }
def FnExactAutoTakesWrongFalsely : Prop := fnExactAutoTakesRow.holds Try.pinned (OpenSpec.ofChange fnExactAutoTakesWrong)

/-- 'laws.FnExactCheckIn': WHATEVER THE INPUT: true; the input reads as it did. -/
def fnExactCheckInSpec : ChangeSpec := { name := "fnExactCheckIn", fn := fun _ => fun
  | [d1, d2, d3] => { results := [.lit (.bool true)], args := [d1, d2, d3] }
  | _ => none }
def fnExactCheckInRow : OpenClaim := { program := "ytpfbkblgefddlaa", sum := "d7d6753340c3211b7023280efacbad89a8c2f6b9e2c6b5d9b501156a126a53f2", func := "loop.example/g00102/laws.FnExactCheckIn", spec := "fnExactCheckIn", apart := false }
def FnExactCheckInSaid : Prop := fnExactCheckInRow.holds Try.pinned (OpenSpec.ofChange fnExactCheckInSpec)

/-- ITS FALSE NEIGHBOUR: 'it returns false'. Refute it at one input. -/
def fnExactCheckInWrong : ChangeSpec := { name := "fnExactCheckIn", fn := fun _ => fun
  | [d1, d2, d3] => { results := [.lit (.bool false)], args := [d1, d2, d3] }
  | _ => none }
def FnExactCheckInWrongFalsely : Prop := fnExactCheckInRow.holds Try.pinned (OpenSpec.ofChange fnExactCheckInWrong)

/-- 'laws.FnExactAskEmpty': WHATEVER THE INPUT: true; the input reads as it did. -/
def fnExactAskEmptySpec : ChangeSpec := { name := "fnExactAskEmpty", fn := fun _ => fun
  | [d] => { results := [.lit (.bool true)], args := [d] }
  | _ => none }
def fnExactAskEmptyRow : OpenClaim := { program := "ytpfbkblgefddlaa", sum := "d7d6753340c3211b7023280efacbad89a8c2f6b9e2c6b5d9b501156a126a53f2", func := "loop.example/g00102/laws.FnExactAskEmpty", spec := "fnExactAskEmpty", unfollowed := true, recurses := true, apart := false }
def FnExactAskEmptySaid : Prop := fnExactAskEmptyRow.holds Try.pinned (OpenSpec.ofChange fnExactAskEmptySpec)

/-- ITS FALSE NEIGHBOUR: 'it returns false'. Refute it at one input. -/
def fnExactAskEmptyWrong : ChangeSpec := { name := "fnExactAskEmpty", fn := fun _ => fun
  | [d] => { results := [.lit (.bool false)], args := [d] }
  | _ => none }
def FnExactAskEmptyWrongFalsely : Prop := fnExactAskEmptyRow.holds Try.pinned (OpenSpec.ofChange fnExactAskEmptyWrong)

/- THE SECOND FORM. 'bulk': how many values and letters a reading holds, each counted each time it is reached (what is shared counts as often as it is met; a slice's spare places count too). A statement '..UptoSaid' is the law's where the arguments, and the package variables that the reading takes, are together of bulk at most 1048576: NARROWER than '..Said'. Prove '..Said' where nothing that the law and all that it calls make is longer than what came in: it says more and counts as full. Else prove '..UptoSaid'. A law counts once. -/
mutual
def uptoBulk {H : Type} : DataW H → Nat
  | .lit (.string bytes) => bytes.length + 1
  | .lit _ => 1
  | .nil => 1
  | .ptr d => uptoBulk d + 1
  | .slice elems spare => uptoBulkAll elems + uptoBulkAll spare + 1
  | .agg parts => uptoBulkAll parts + 1
  | .iface _ d => uptoBulk d + 1
  | .map entries => uptoBulkEntries entries + 1
  | .held _ => 1
def uptoBulkAll {H : Type} : List (DataW H) → Nat
  | [] => 0
  | d :: r => uptoBulk d + uptoBulkAll r
def uptoBulkEntries {H : Type} : List (Lit × DataW H) → Nat
  | [] => 0
  | x :: r => uptoBulkEntry x + uptoBulkEntries r
def uptoBulkEntry {H : Type} : Lit × DataW H → Nat
  | (.string bytes, d) => bytes.length + uptoBulk d + 1
  | (_, d) => uptoBulk d + 1
 end
def uptoSmall : (H : Type) → List (DataW H) → Bool := fun _ ds => decide (uptoBulkAll ds ≤ 1048576)
def OpenSpec.upto (s : _root_.Go.ChangeSpec) : _root_.Go.OpenSpec := { _root_.Go.OpenSpec.ofChange s with cond := some uptoSmall }

/-- 'laws.FnExactWordText', WHERE WHAT IT READS IS OF BULK AT MOST 1048576: true; the input reads as it did. -/
def fnExactWordTextUptoRow : OpenClaim := { program := "ytpfbkblgefddlaa", sum := "d7d6753340c3211b7023280efacbad89a8c2f6b9e2c6b5d9b501156a126a53f2", func := "loop.example/g00102/laws.FnExactWordText", spec := "fnExactWordText", apart := false, narrowed := true }
def FnExactWordTextUptoSaid : Prop := fnExactWordTextUptoRow.holds Try.pinned (OpenSpec.upto fnExactWordTextSpec)

/-- 'laws.FnExactShelfOk', WHERE WHAT IT READS IS OF BULK AT MOST 1048576: true; the input reads as it did. -/
def fnExactShelfOkUptoRow : OpenClaim := { program := "ytpfbkblgefddlaa", sum := "d7d6753340c3211b7023280efacbad89a8c2f6b9e2c6b5d9b501156a126a53f2", func := "loop.example/g00102/laws.FnExactShelfOk", spec := "fnExactShelfOk", apart := false, narrowed := true }
def FnExactShelfOkUptoSaid : Prop := fnExactShelfOkUptoRow.holds Try.pinned (OpenSpec.upto fnExactShelfOkSpec)

/-- 'laws.FnExactWordRead', WHERE WHAT IT READS IS OF BULK AT MOST 1048576: true; the input reads as it did. -/
def fnExactWordReadUptoRow : OpenClaim := { program := "ytpfbkblgefddlaa", sum := "d7d6753340c3211b7023280efacbad89a8c2f6b9e2c6b5d9b501156a126a53f2", func := "loop.example/g00102/laws.FnExactWordRead", spec := "fnExactWordRead", inPlace := ["internal/bytealg.IndexByteString", "internal/bytealg.IndexString"], named := ["internal/bytealg.MaxLen"], apart := false, narrowed := true }
def FnExactWordReadUptoSaid : Prop := fnExactWordReadUptoRow.holds Try.pinned (OpenSpec.upto fnExactWordReadSpec)

/-- 'laws.FnWordText', WHERE WHAT IT READS IS OF BULK AT MOST 1048576: true; the input reads as it did. -/
def fnWordTextUptoRow : OpenClaim := { program := "ytpfbkblgefddlaa", sum := "d7d6753340c3211b7023280efacbad89a8c2f6b9e2c6b5d9b501156a126a53f2", func := "loop.example/g00102/laws.FnWordText", spec := "fnWordText", inPlace := ["internal/bytealg.IndexByteString", "internal/bytealg.IndexString"], named := ["internal/bytealg.MaxLen"], apart := false, narrowed := true }
def FnWordTextUptoSaid : Prop := fnWordTextUptoRow.holds Try.pinned (OpenSpec.upto fnWordTextSpec)

/-- 'laws.FnExactShelfGet', WHERE WHAT IT READS IS OF BULK AT MOST 1048576: true; the input reads as it did. -/
def fnExactShelfGetUptoRow : OpenClaim := { program := "ytpfbkblgefddlaa", sum := "d7d6753340c3211b7023280efacbad89a8c2f6b9e2c6b5d9b501156a126a53f2", func := "loop.example/g00102/laws.FnExactShelfGet", spec := "fnExactShelfGet", apart := false, narrowed := true }
def FnExactShelfGetUptoSaid : Prop := fnExactShelfGetUptoRow.holds Try.pinned (OpenSpec.upto fnExactShelfGetSpec)

/-- 'laws.FnLtlText', WHERE WHAT IT READS IS OF BULK AT MOST 1048576: true; the input reads as it did. -/
def fnLtlTextUptoRow : OpenClaim := { program := "ytpfbkblgefddlaa", sum := "d7d6753340c3211b7023280efacbad89a8c2f6b9e2c6b5d9b501156a126a53f2", func := "loop.example/g00102/laws.FnLtlText", spec := "fnLtlText", unfollowed := true, recurses := true, apart := false, narrowed := true }
def FnLtlTextUptoSaid : Prop := fnLtlTextUptoRow.holds Try.pinned (OpenSpec.upto fnLtlTextSpec)

/-- 'laws.FnExactAutoWord', WHERE WHAT IT READS IS OF BULK AT MOST 1048576: true; the input reads as it did. -/
def fnExactAutoWordUptoRow : OpenClaim := { program := "ytpfbkblgefddlaa", sum := "d7d6753340c3211b7023280efacbad89a8c2f6b9e2c6b5d9b501156a126a53f2", func := "loop.example/g00102/laws.FnExactAutoWord", spec := "fnExactAutoWord", unfollowed := true, recurses := true, apart := false, narrowed := true }
def FnExactAutoWordUptoSaid : Prop := fnExactAutoWordUptoRow.holds Try.pinned (OpenSpec.upto fnExactAutoWordSpec)

/-- 'laws.FnExactAutoTakes', WHERE WHAT IT READS IS OF BULK AT MOST 1048576: true; the input reads as it did. -/
def fnExactAutoTakesUptoRow : OpenClaim := { program := "ytpfbkblgefddlaa", sum := "d7d6753340c3211b7023280efacbad89a8c2f6b9e2c6b5d9b501156a126a53f2", func := "loop.example/g00102/laws.FnExactAutoTakes", spec := "fnExactAutoTakes", apart := false, narrowed := true }
def FnExactAutoTakesUptoSaid : Prop := fnExactAutoTakesUptoRow.holds Try.pinned (OpenSpec.upto fnExactAutoTakesSpec)

/-- 'laws.FnExactCheckIn', WHERE WHAT IT READS IS OF BULK AT MOST 1048576: true; the input reads as it did. -/
def fnExactCheckInUptoRow : OpenClaim := { program := "ytpfbkblgefddlaa", sum := "d7d6753340c3211b7023280efacbad89a8c2f6b9e2c6b5d9b501156a126a53f2", func := "loop.example/g00102/laws.FnExactCheckIn", spec := "fnExactCheckIn", apart := false, narrowed := true }
def FnExactCheckInUptoSaid : Prop := fnExactCheckInUptoRow.holds Try.pinned (OpenSpec.upto fnExactCheckInSpec)

/-- 'laws.FnExactAskEmpty', WHERE WHAT IT READS IS OF BULK AT MOST 1048576: true; the input reads as it did. -/
def fnExactAskEmptyUptoRow : OpenClaim := { program := "ytpfbkblgefddlaa", sum := "d7d6753340c3211b7023280efacbad89a8c2f6b9e2c6b5d9b501156a126a53f2", func := "loop.example/g00102/laws.FnExactAskEmpty", spec := "fnExactAskEmpty", unfollowed := true, recurses := true, apart := false, narrowed := true }
def FnExactAskEmptyUptoSaid : Prop := fnExactAskEmptyUptoRow.holds Try.pinned (OpenSpec.upto fnExactAskEmptySpec)

end Rows
end Go.Proofs.Ytpfbkblgefddlaa
