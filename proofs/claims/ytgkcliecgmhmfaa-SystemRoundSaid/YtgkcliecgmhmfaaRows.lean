/-
  No cell of these rows narrows 'for every input' (looked for: loops, veiled, ifaces, maps, wideKeys, modest, calm, conditions, laid).
  DERIVED. THE GIVEN ROWS OF THIS SEAT. 6 by the template 'for every input the law returns true; each argument reads behind the call as it read before'; 0 by the template 'total and deterministic' (their statements: YtgkcliecgmhmfaaTotals.lean).
  GIVEN WITH THE SEED: the statements are not yours to turn. If you find one false, say at which input.
  Laid BY PROGRAM, IN A SANDBOX (cutbox-rows.mjs): the forced cells as the released guide's own fill.sh prints them over the translation 25b87166f1759b3f… (all of the seat's roots in one cut). By AI agents, Wed Nov 11 2026. No macro, syntax, notation, axiom, sorry.
-/
import Derived.Test.YtgkcliecgmhmfaaChecked
import GoSem.Claim
import GoSem.ClaimJoined
import GoSem.ClaimMapViews
import Derived.JoinedTies
import Derived.KernelRfl
namespace Go.Proofs.Ytgkcliecgmhmfaa
/- THE CELL 'sum', in the pinned program and in every row, IS THE sha256 OF THE DUMP (.gsa) THAT YtgkcliecgmhmfaaProg.lean LOADS. Nothing in Lean hashes anything: it is a label: what it is worth is what the hold of that sum in a sandbox is worth. -/
noncomputable def Try.pinned : Pinned := { name := "ytgkcliecgmhmfaa", sum := "25b87166f1759b3fb5c3e9c30ef64b825d5bb8083c7c0c563fac8ea2629a351b", checked := Try.checked }
namespace Rows
def none {H : Type} : Left H := { results := [], args := [] }

/-- 'fleuronlaw9.SystemDecodes': WHATEVER THE INPUT: true; the input reads as it did. -/
def systemDecodesSpec : ChangeSpec := { name := "systemDecodes", fn := fun _ => fun
  | [d1, d2, d3] => { results := [.lit (.bool true)], args := [d1, d2, d3] }
  | _ => none }
def systemDecodesRow : OpenClaim := { program := "ytgkcliecgmhmfaa", sum := "25b87166f1759b3fb5c3e9c30ef64b825d5bb8083c7c0c563fac8ea2629a351b", func := "fleuron/fleuronlaw9.SystemDecodes", spec := "systemDecodes", inPlace := ["internal/abi.NoEscape", "internal/bytealg.MakeNoZero"], unfollowed := true, recurses := true, apart := false }
def SystemDecodesSaid : Prop := systemDecodesRow.holds Try.pinned (OpenSpec.ofChange systemDecodesSpec)

/-- ITS FALSE NEIGHBOUR: 'it returns false'. Refute it at one input. -/
def systemDecodesWrong : ChangeSpec := { name := "systemDecodes", fn := fun _ => fun
  | [d1, d2, d3] => { results := [.lit (.bool false)], args := [d1, d2, d3] }
  | _ => none }
def SystemDecodesWrongFalsely : Prop := systemDecodesRow.holds Try.pinned (OpenSpec.ofChange systemDecodesWrong)

/-- 'fleuronlaw9.SystemRound': WHATEVER THE INPUT: true; the input reads as it did. -/
def systemRoundSpec : ChangeSpec := { name := "systemRound", fn := fun _ => fun
  | [d1, d2, d3] => { results := [.lit (.bool true)], args := [d1, d2, d3] }
  | _ => none }
def systemRoundRow : OpenClaim := { program := "ytgkcliecgmhmfaa", sum := "25b87166f1759b3fb5c3e9c30ef64b825d5bb8083c7c0c563fac8ea2629a351b", func := "fleuron/fleuronlaw9.SystemRound", spec := "systemRound", inPlace := ["internal/abi.NoEscape", "internal/bytealg.MakeNoZero"], unfollowed := true, recurses := true, apart := false }
def SystemRoundSaid : Prop := systemRoundRow.holds Try.pinned (OpenSpec.ofChange systemRoundSpec)

/-- ITS FALSE NEIGHBOUR: 'it returns false'. Refute it at one input. -/
def systemRoundWrong : ChangeSpec := { name := "systemRound", fn := fun _ => fun
  | [d1, d2, d3] => { results := [.lit (.bool false)], args := [d1, d2, d3] }
  | _ => none }
def SystemRoundWrongFalsely : Prop := systemRoundRow.holds Try.pinned (OpenSpec.ofChange systemRoundWrong)

/-- 'fleuronlaw9.SystemAdds': WHATEVER THE INPUT: true; the input reads as it did. -/
def systemAddsSpec : ChangeSpec := { name := "systemAdds", fn := fun _ => fun
  | [d1, d2] => { results := [.lit (.bool true)], args := [d1, d2] }
  | _ => none }
def systemAddsRow : OpenClaim := { program := "ytgkcliecgmhmfaa", sum := "25b87166f1759b3fb5c3e9c30ef64b825d5bb8083c7c0c563fac8ea2629a351b", func := "fleuron/fleuronlaw9.SystemAdds", spec := "systemAdds", inPlace := ["internal/abi.NoEscape", "internal/bytealg.MakeNoZero"], unfollowed := true, recurses := true, apart := false }
def SystemAddsSaid : Prop := systemAddsRow.holds Try.pinned (OpenSpec.ofChange systemAddsSpec)

/-- ITS FALSE NEIGHBOUR: 'it returns false'. Refute it at one input. -/
def systemAddsWrong : ChangeSpec := { name := "systemAdds", fn := fun _ => fun
  | [d1, d2] => { results := [.lit (.bool false)], args := [d1, d2] }
  | _ => none }
def SystemAddsWrongFalsely : Prop := systemAddsRow.holds Try.pinned (OpenSpec.ofChange systemAddsWrong)

/-- 'fleuronlaw9.SystemRanges': WHATEVER THE INPUT: true; the input reads as it did. -/
def systemRangesSpec : ChangeSpec := { name := "systemRanges", fn := fun _ => fun
  | [d1, d2, d3, d4] => { results := [.lit (.bool true)], args := [d1, d2, d3, d4] }
  | _ => none }
def systemRangesRow : OpenClaim := { program := "ytgkcliecgmhmfaa", sum := "25b87166f1759b3fb5c3e9c30ef64b825d5bb8083c7c0c563fac8ea2629a351b", func := "fleuron/fleuronlaw9.SystemRanges", spec := "systemRanges", inPlace := ["internal/abi.NoEscape", "internal/bytealg.MakeNoZero"], unfollowed := true, recurses := true, apart := false }
def SystemRangesSaid : Prop := systemRangesRow.holds Try.pinned (OpenSpec.ofChange systemRangesSpec)

/-- ITS FALSE NEIGHBOUR: 'it returns false'. Refute it at one input. -/
def systemRangesWrong : ChangeSpec := { name := "systemRanges", fn := fun _ => fun
  | [d1, d2, d3, d4] => { results := [.lit (.bool false)], args := [d1, d2, d3, d4] }
  | _ => none }
def SystemRangesWrongFalsely : Prop := systemRangesRow.holds Try.pinned (OpenSpec.ofChange systemRangesWrong)

/-- 'fleuronlaw9.SystemForms': WHATEVER THE INPUT: true; the input reads as it did. -/
def systemFormsSpec : ChangeSpec := { name := "systemForms", fn := fun _ => fun
  | [d1, d2] => { results := [.lit (.bool true)], args := [d1, d2] }
  | _ => none }
def systemFormsRow : OpenClaim := { program := "ytgkcliecgmhmfaa", sum := "25b87166f1759b3fb5c3e9c30ef64b825d5bb8083c7c0c563fac8ea2629a351b", func := "fleuron/fleuronlaw9.SystemForms", spec := "systemForms", inPlace := ["internal/abi.NoEscape", "internal/bytealg.MakeNoZero"], unfollowed := true, recurses := true, apart := false }
def SystemFormsSaid : Prop := systemFormsRow.holds Try.pinned (OpenSpec.ofChange systemFormsSpec)

/-- ITS FALSE NEIGHBOUR: 'it returns false'. Refute it at one input. -/
def systemFormsWrong : ChangeSpec := { name := "systemForms", fn := fun _ => fun
  | [d1, d2] => { results := [.lit (.bool false)], args := [d1, d2] }
  | _ => none }
def SystemFormsWrongFalsely : Prop := systemFormsRow.holds Try.pinned (OpenSpec.ofChange systemFormsWrong)

/-- 'fleuronlaw9.SystemSizes': WHATEVER THE INPUT: true; the input reads as it did. -/
def systemSizesSpec : ChangeSpec := { name := "systemSizes", fn := fun _ => fun
  | [d1, d2, d3] => { results := [.lit (.bool true)], args := [d1, d2, d3] }
  | _ => none }
def systemSizesRow : OpenClaim := { program := "ytgkcliecgmhmfaa", sum := "25b87166f1759b3fb5c3e9c30ef64b825d5bb8083c7c0c563fac8ea2629a351b", func := "fleuron/fleuronlaw9.SystemSizes", spec := "systemSizes", inPlace := ["internal/abi.NoEscape", "internal/bytealg.MakeNoZero"], unfollowed := true, recurses := true, apart := false }
def SystemSizesSaid : Prop := systemSizesRow.holds Try.pinned (OpenSpec.ofChange systemSizesSpec)

/-- ITS FALSE NEIGHBOUR: 'it returns false'. Refute it at one input. -/
def systemSizesWrong : ChangeSpec := { name := "systemSizes", fn := fun _ => fun
  | [d1, d2, d3] => { results := [.lit (.bool false)], args := [d1, d2, d3] }
  | _ => none }
def SystemSizesWrongFalsely : Prop := systemSizesRow.holds Try.pinned (OpenSpec.ofChange systemSizesWrong)

/- THE SECOND FORM. 'bulk': how many values and letters a reading holds, each counted each time it is reached (what is shared counts as often as it is met; a slice's spare places count too). A statement '..UptoSaid' is the law's where the arguments, and the package variables that the reading takes, are together of bulk at most 1048576: NARROWER than '..Said'. Prove '..Said' where nothing that the law and all that it calls make is longer than what came in: it says more and counts as full. Else prove '..UptoSaid'. A law counts once. -/
mutual
def uptoBulk {H : Type} : DataW H → Nat
  | .lit (.string bytes) => bytes.length + 1
  | .lit _ => 1
  | .nil => 1
  | .ptr d => uptoBulk d + 1
  | .slice elems spare => uptoBulkAll elems + uptoBulkAll spare + 1
  | .agg parts => uptoBulkAll parts + 1
  | .iface _ d => uptoBulk d + 1
  | .map entries => uptoBulkEntries entries + 1
  | .held _ => 1
def uptoBulkAll {H : Type} : List (DataW H) → Nat
  | [] => 0
  | d :: r => uptoBulk d + uptoBulkAll r
def uptoBulkEntries {H : Type} : List (Lit × DataW H) → Nat
  | [] => 0
  | x :: r => uptoBulkEntry x + uptoBulkEntries r
def uptoBulkEntry {H : Type} : Lit × DataW H → Nat
  | (.string bytes, d) => bytes.length + uptoBulk d + 1
  | (_, d) => uptoBulk d + 1
 end
def uptoSmall : (H : Type) → List (DataW H) → Bool := fun _ ds => decide (uptoBulkAll ds ≤ 1048576)
def OpenSpec.upto (s : _root_.Go.ChangeSpec) : _root_.Go.OpenSpec := { _root_.Go.OpenSpec.ofChange s with cond := some uptoSmall }

/-- 'fleuronlaw9.SystemDecodes', WHERE WHAT IT READS IS OF BULK AT MOST 1048576: true; the input reads as it did. -/
def systemDecodesUptoRow : OpenClaim := { program := "ytgkcliecgmhmfaa", sum := "25b87166f1759b3fb5c3e9c30ef64b825d5bb8083c7c0c563fac8ea2629a351b", func := "fleuron/fleuronlaw9.SystemDecodes", spec := "systemDecodes", inPlace := ["internal/abi.NoEscape", "internal/bytealg.MakeNoZero"], unfollowed := true, recurses := true, apart := false, narrowed := true }
def SystemDecodesUptoSaid : Prop := systemDecodesUptoRow.holds Try.pinned (OpenSpec.upto systemDecodesSpec)

/-- 'fleuronlaw9.SystemRound', WHERE WHAT IT READS IS OF BULK AT MOST 1048576: true; the input reads as it did. -/
def systemRoundUptoRow : OpenClaim := { program := "ytgkcliecgmhmfaa", sum := "25b87166f1759b3fb5c3e9c30ef64b825d5bb8083c7c0c563fac8ea2629a351b", func := "fleuron/fleuronlaw9.SystemRound", spec := "systemRound", inPlace := ["internal/abi.NoEscape", "internal/bytealg.MakeNoZero"], unfollowed := true, recurses := true, apart := false, narrowed := true }
def SystemRoundUptoSaid : Prop := systemRoundUptoRow.holds Try.pinned (OpenSpec.upto systemRoundSpec)

/-- 'fleuronlaw9.SystemAdds', WHERE WHAT IT READS IS OF BULK AT MOST 1048576: true; the input reads as it did. -/
def systemAddsUptoRow : OpenClaim := { program := "ytgkcliecgmhmfaa", sum := "25b87166f1759b3fb5c3e9c30ef64b825d5bb8083c7c0c563fac8ea2629a351b", func := "fleuron/fleuronlaw9.SystemAdds", spec := "systemAdds", inPlace := ["internal/abi.NoEscape", "internal/bytealg.MakeNoZero"], unfollowed := true, recurses := true, apart := false, narrowed := true }
def SystemAddsUptoSaid : Prop := systemAddsUptoRow.holds Try.pinned (OpenSpec.upto systemAddsSpec)

/-- 'fleuronlaw9.SystemRanges', WHERE WHAT IT READS IS OF BULK AT MOST 1048576: true; the input reads as it did. -/
def systemRangesUptoRow : OpenClaim := { program := "ytgkcliecgmhmfaa", sum := "25b87166f1759b3fb5c3e9c30ef64b825d5bb8083c7c0c563fac8ea2629a351b", func := "fleuron/fleuronlaw9.SystemRanges", spec := "systemRanges", inPlace := ["internal/abi.NoEscape", "internal/bytealg.MakeNoZero"], unfollowed := true, recurses := true, apart := false, narrowed := true }
def SystemRangesUptoSaid : Prop := systemRangesUptoRow.holds Try.pinned (OpenSpec.upto systemRangesSpec)

/-- 'fleuronlaw9.SystemForms', WHERE WHAT IT READS IS OF BULK AT MOST 1048576: true; the input reads as it did. -/
def systemFormsUptoRow : OpenClaim := { program := "ytgkcliecgmhmfaa", sum := "25b87166f1759b3fb5c3e9c30ef64b825d5bb8083c7c0c563fac8ea2629a351b", func := "fleuron/fleuronlaw9.SystemForms", spec := "systemForms", inPlace := ["internal/abi.NoEscape", "internal/bytealg.MakeNoZero"], unfollowed := true, recurses := true, apart := false, narrowed := true }
def SystemFormsUptoSaid : Prop := systemFormsUptoRow.holds Try.pinned (OpenSpec.upto systemFormsSpec)

/-- 'fleuronlaw9.SystemSizes', WHERE WHAT IT READS IS OF BULK AT MOST 1048576: true; the input reads as it did. -/
def systemSizesUptoRow : OpenClaim := { program := "ytgkcliecgmhmfaa", sum := "25b87166f1759b3fb5c3e9c30ef64b825d5bb8083c7c0c563fac8ea2629a351b", func := "fleuron/fleuronlaw9.SystemSizes", spec := "systemSizes", inPlace := ["internal/abi.NoEscape", "internal/bytealg.MakeNoZero"], unfollowed := true, recurses := true, apart := false, narrowed := true }
def SystemSizesUptoSaid : Prop := systemSizesUptoRow.holds Try.pinned (OpenSpec.upto systemSizesSpec)

end Rows
end Go.Proofs.Ytgkcliecgmhmfaa
