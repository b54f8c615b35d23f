/-
  No cell of these rows narrows 'for every input' (looked for: loops, veiled, ifaces, maps, wideKeys, modest, calm, conditions, laid).
  DERIVED. THE GIVEN ROWS OF THIS SEAT. 4 by the template 'for every input the law returns true; each argument reads behind the call as it read before'; 0 by the template 'total and deterministic' (their statements: YtiifoplihaimmaaTotals.lean).
  GIVEN WITH THE SEED: the statements are not yours to turn. If you find one false, say at which input.
  Laid BY PROGRAM, IN A SANDBOX (cutbox-rows.mjs): the forced cells as the released guide's own fill.sh prints them over the translation 94803604110aaed6… (all of the seat's roots in one cut). By AI agents, Wed Nov 11 2026. No macro, syntax, notation, axiom, sorry.
-/
import Derived.Test.YtiifoplihaimmaaChecked
import GoSem.Claim
import GoSem.ClaimJoined
import GoSem.ClaimMapViews
import Derived.JoinedTies
import Derived.KernelRfl
namespace Go.Proofs.Ytiifoplihaimmaa
/- THE CELL 'sum', in the pinned program and in every row, IS THE sha256 OF THE DUMP (.gsa) THAT YtiifoplihaimmaaProg.lean LOADS. Nothing in Lean hashes anything: it is a label: what it is worth is what the hold of that sum in a sandbox is worth. -/
noncomputable def Try.pinned : Pinned := { name := "ytiifoplihaimmaa", sum := "94803604110aaed67595475941fcb79a8b3b3e8adcec422520c6ee7978141c74", checked := Try.checked }
namespace Rows
def none {H : Type} : Left H := { results := [], args := [] }

/-- 'fleuronlaw23.BoundInput': WHATEVER THE INPUT: true; the input reads as it did. -/
def boundInputSpec : ChangeSpec := { name := "boundInput", fn := fun _ => fun
  | [d1, d2, d3, d4, d5, d6] => { results := [.lit (.bool true)], args := [d1, d2, d3, d4, d5, d6] }
  | _ => none }
def boundInputRow : OpenClaim := { program := "ytiifoplihaimmaa", sum := "94803604110aaed67595475941fcb79a8b3b3e8adcec422520c6ee7978141c74", func := "fleuron/fleuronlaw23.BoundInput", spec := "boundInput", apart := false }
def BoundInputSaid : Prop := boundInputRow.holds Try.pinned (OpenSpec.ofChange boundInputSpec)

/-- ITS FALSE NEIGHBOUR: 'it returns false'. Refute it at one input. -/
def boundInputWrong : ChangeSpec := { name := "boundInput", fn := fun _ => fun
  | [d1, d2, d3, d4, d5, d6] => { results := [.lit (.bool false)], args := [d1, d2, d3, d4, d5, d6] }
  | _ => none }
def BoundInputWrongFalsely : Prop := boundInputRow.holds Try.pinned (OpenSpec.ofChange boundInputWrong)

/-- 'fleuronlaw23.BoundSteps': WHATEVER THE INPUT: true; the input reads as it did. -/
def boundStepsSpec : ChangeSpec := { name := "boundSteps", fn := fun _ => fun
  | [d1, d2, d3, d4] => { results := [.lit (.bool true)], args := [d1, d2, d3, d4] }
  | _ => none }
def boundStepsRow : OpenClaim := { program := "ytiifoplihaimmaa", sum := "94803604110aaed67595475941fcb79a8b3b3e8adcec422520c6ee7978141c74", func := "fleuron/fleuronlaw23.BoundSteps", spec := "boundSteps", apart := false }
def BoundStepsSaid : Prop := boundStepsRow.holds Try.pinned (OpenSpec.ofChange boundStepsSpec)

/-- ITS FALSE NEIGHBOUR: 'it returns false'. Refute it at one input. -/
def boundStepsWrong : ChangeSpec := { name := "boundSteps", fn := fun _ => fun
  | [d1, d2, d3, d4] => { results := [.lit (.bool false)], args := [d1, d2, d3, d4] }
  | _ => none }
def BoundStepsWrongFalsely : Prop := boundStepsRow.holds Try.pinned (OpenSpec.ofChange boundStepsWrong)

/-- 'fleuronlaw23.BoundBoxes': WHATEVER THE INPUT: true; the input reads as it did. -/
def boundBoxesSpec : ChangeSpec := { name := "boundBoxes", fn := fun _ => fun
  | [d] => { results := [.lit (.bool true)], args := [d] }
  | _ => none }
def boundBoxesRow : OpenClaim := { program := "ytiifoplihaimmaa", sum := "94803604110aaed67595475941fcb79a8b3b3e8adcec422520c6ee7978141c74", func := "fleuron/fleuronlaw23.BoundBoxes", spec := "boundBoxes", apart := false }
def BoundBoxesSaid : Prop := boundBoxesRow.holds Try.pinned (OpenSpec.ofChange boundBoxesSpec)

/-- ITS FALSE NEIGHBOUR: 'it returns false'. Refute it at one input. -/
def boundBoxesWrong : ChangeSpec := { name := "boundBoxes", fn := fun _ => fun
  | [d] => { results := [.lit (.bool false)], args := [d] }
  | _ => none }
def BoundBoxesWrongFalsely : Prop := boundBoxesRow.holds Try.pinned (OpenSpec.ofChange boundBoxesWrong)

/-- 'fleuronlaw23.BoundFirst': WHATEVER THE INPUT: true; the input reads as it did. -/
def boundFirstSpec : ChangeSpec := { name := "boundFirst", fn := fun _ => fun
  | [d1, d2, d3] => { results := [.lit (.bool true)], args := [d1, d2, d3] }
  | _ => none }
def boundFirstRow : OpenClaim := { program := "ytiifoplihaimmaa", sum := "94803604110aaed67595475941fcb79a8b3b3e8adcec422520c6ee7978141c74", func := "fleuron/fleuronlaw23.BoundFirst", spec := "boundFirst", apart := false }
def BoundFirstSaid : Prop := boundFirstRow.holds Try.pinned (OpenSpec.ofChange boundFirstSpec)

/-- ITS FALSE NEIGHBOUR: 'it returns false'. Refute it at one input. -/
def boundFirstWrong : ChangeSpec := { name := "boundFirst", fn := fun _ => fun
  | [d1, d2, d3] => { results := [.lit (.bool false)], args := [d1, d2, d3] }
  | _ => none }
def BoundFirstWrongFalsely : Prop := boundFirstRow.holds Try.pinned (OpenSpec.ofChange boundFirstWrong)

/- THE SECOND FORM. 'bulk': how many values and letters a reading holds, each counted each time it is reached (what is shared counts as often as it is met; a slice's spare places count too). A statement '..UptoSaid' is the law's where the arguments, and the package variables that the reading takes, are together of bulk at most 1048576: NARROWER than '..Said'. Prove '..Said' where nothing that the law and all that it calls make is longer than what came in: it says more and counts as full. Else prove '..UptoSaid'. A law counts once. -/
mutual
def uptoBulk {H : Type} : DataW H → Nat
  | .lit (.string bytes) => bytes.length + 1
  | .lit _ => 1
  | .nil => 1
  | .ptr d => uptoBulk d + 1
  | .slice elems spare => uptoBulkAll elems + uptoBulkAll spare + 1
  | .agg parts => uptoBulkAll parts + 1
  | .iface _ d => uptoBulk d + 1
  | .map entries => uptoBulkEntries entries + 1
  | .held _ => 1
def uptoBulkAll {H : Type} : List (DataW H) → Nat
  | [] => 0
  | d :: r => uptoBulk d + uptoBulkAll r
def uptoBulkEntries {H : Type} : List (Lit × DataW H) → Nat
  | [] => 0
  | x :: r => uptoBulkEntry x + uptoBulkEntries r
def uptoBulkEntry {H : Type} : Lit × DataW H → Nat
  | (.string bytes, d) => bytes.length + uptoBulk d + 1
  | (_, d) => uptoBulk d + 1
 end
def uptoSmall : (H : Type) → List (DataW H) → Bool := fun _ ds => decide (uptoBulkAll ds ≤ 1048576)
def OpenSpec.upto (s : _root_.Go.ChangeSpec) : _root_.Go.OpenSpec := { _root_.Go.OpenSpec.ofChange s with cond := some uptoSmall }

/-- 'fleuronlaw23.BoundInput', WHERE WHAT IT READS IS OF BULK AT MOST 1048576: true; the input reads as it did. -/
def boundInputUptoRow : OpenClaim := { program := "ytiifoplihaimmaa", sum := "94803604110aaed67595475941fcb79a8b3b3e8adcec422520c6ee7978141c74", func := "fleuron/fleuronlaw23.BoundInput", spec := "boundInput", apart := false, narrowed := true }
def BoundInputUptoSaid : Prop := boundInputUptoRow.holds Try.pinned (OpenSpec.upto boundInputSpec)

/-- 'fleuronlaw23.BoundSteps', WHERE WHAT IT READS IS OF BULK AT MOST 1048576: true; the input reads as it did. -/
def boundStepsUptoRow : OpenClaim := { program := "ytiifoplihaimmaa", sum := "94803604110aaed67595475941fcb79a8b3b3e8adcec422520c6ee7978141c74", func := "fleuron/fleuronlaw23.BoundSteps", spec := "boundSteps", apart := false, narrowed := true }
def BoundStepsUptoSaid : Prop := boundStepsUptoRow.holds Try.pinned (OpenSpec.upto boundStepsSpec)

/-- 'fleuronlaw23.BoundBoxes', WHERE WHAT IT READS IS OF BULK AT MOST 1048576: true; the input reads as it did. -/
def boundBoxesUptoRow : OpenClaim := { program := "ytiifoplihaimmaa", sum := "94803604110aaed67595475941fcb79a8b3b3e8adcec422520c6ee7978141c74", func := "fleuron/fleuronlaw23.BoundBoxes", spec := "boundBoxes", apart := false, narrowed := true }
def BoundBoxesUptoSaid : Prop := boundBoxesUptoRow.holds Try.pinned (OpenSpec.upto boundBoxesSpec)

/-- 'fleuronlaw23.BoundFirst', WHERE WHAT IT READS IS OF BULK AT MOST 1048576: true; the input reads as it did. -/
def boundFirstUptoRow : OpenClaim := { program := "ytiifoplihaimmaa", sum := "94803604110aaed67595475941fcb79a8b3b3e8adcec422520c6ee7978141c74", func := "fleuron/fleuronlaw23.BoundFirst", spec := "boundFirst", apart := false, narrowed := true }
def BoundFirstUptoSaid : Prop := boundFirstUptoRow.holds Try.pinned (OpenSpec.upto boundFirstSpec)

end Rows
end Go.Proofs.Ytiifoplihaimmaa
