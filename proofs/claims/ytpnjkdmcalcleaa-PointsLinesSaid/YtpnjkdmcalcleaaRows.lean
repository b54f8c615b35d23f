/-
  No cell of these rows narrows 'for every input' (looked for: loops, veiled, ifaces, maps, wideKeys, modest, calm, conditions, laid).
  DERIVED. THE GIVEN ROWS OF THIS SEAT. 5 by the template 'for every input the law returns true; each argument reads behind the call as it read before'; 0 by the template 'total and deterministic' (their statements: YtpnjkdmcalcleaaTotals.lean).
  GIVEN WITH THE SEED: the statements are not yours to turn. If you find one false, say at which input.
  Laid BY PROGRAM, IN A SANDBOX (cutbox-rows.mjs): the forced cells as the released guide's own fill.sh prints them over the translation e06100093f051ecc… (all of the seat's roots in one cut). By AI agents, Wed Nov 11 2026. No macro, syntax, notation, axiom, sorry.
-/
import Derived.Test.YtpnjkdmcalcleaaChecked
import GoSem.Claim
import GoSem.ClaimJoined
import GoSem.ClaimMapViews
import Derived.JoinedTies
import Derived.KernelRfl
namespace Go.Proofs.Ytpnjkdmcalcleaa
/- THE CELL 'sum', in the pinned program and in every row, IS THE sha256 OF THE DUMP (.gsa) THAT YtpnjkdmcalcleaaProg.lean LOADS. Nothing in Lean hashes anything: it is a label: what it is worth is what the hold of that sum in a sandbox is worth. -/
noncomputable def Try.pinned : Pinned := { name := "ytpnjkdmcalcleaa", sum := "e06100093f051ecc9e7317b02b0e27031c09dc7861518f11d3c6a804cf2ef3db", checked := Try.checked }
namespace Rows
def none {H : Type} : Left H := { results := [], args := [] }

/-- 'fleuronlaw1.PointsRead': WHATEVER THE INPUT: true; the input reads as it did. -/
def pointsReadSpec : ChangeSpec := { name := "pointsRead", fn := fun _ => fun
  | [d1, d2, d3] => { results := [.lit (.bool true)], args := [d1, d2, d3] }
  | _ => none }
def pointsReadRow : OpenClaim := { program := "ytpnjkdmcalcleaa", sum := "e06100093f051ecc9e7317b02b0e27031c09dc7861518f11d3c6a804cf2ef3db", func := "fleuron/fleuronlaw1.PointsRead", spec := "pointsRead", inPlace := ["internal/abi.NoEscape"], apart := false }
def PointsReadSaid : Prop := pointsReadRow.holds Try.pinned (OpenSpec.ofChange pointsReadSpec)

/-- ITS FALSE NEIGHBOUR: 'it returns false'. Refute it at one input. -/
def pointsReadWrong : ChangeSpec := { name := "pointsRead", fn := fun _ => fun
  | [d1, d2, d3] => { results := [.lit (.bool false)], args := [d1, d2, d3] }
  | _ => none }
def PointsReadWrongFalsely : Prop := pointsReadRow.holds Try.pinned (OpenSpec.ofChange pointsReadWrong)

/-- 'fleuronlaw1.PointsBack': WHATEVER THE INPUT: true; the input reads as it did. -/
def pointsBackSpec : ChangeSpec := { name := "pointsBack", fn := fun _ => fun
  | [d] => { results := [.lit (.bool true)], args := [d] }
  | _ => none }
def pointsBackRow : OpenClaim := { program := "ytpnjkdmcalcleaa", sum := "e06100093f051ecc9e7317b02b0e27031c09dc7861518f11d3c6a804cf2ef3db", func := "fleuron/fleuronlaw1.PointsBack", spec := "pointsBack", inPlace := ["internal/abi.NoEscape"], apart := false }
def PointsBackSaid : Prop := pointsBackRow.holds Try.pinned (OpenSpec.ofChange pointsBackSpec)

/-- ITS FALSE NEIGHBOUR: 'it returns false'. Refute it at one input. -/
def pointsBackWrong : ChangeSpec := { name := "pointsBack", fn := fun _ => fun
  | [d] => { results := [.lit (.bool false)], args := [d] }
  | _ => none }
def PointsBackWrongFalsely : Prop := pointsBackRow.holds Try.pinned (OpenSpec.ofChange pointsBackWrong)

/-- 'fleuronlaw1.PointsLines': WHATEVER THE INPUT: true; the input reads as it did. -/
def pointsLinesSpec : ChangeSpec := { name := "pointsLines", fn := fun _ => fun
  | [d] => { results := [.lit (.bool true)], args := [d] }
  | _ => none }
def pointsLinesRow : OpenClaim := { program := "ytpnjkdmcalcleaa", sum := "e06100093f051ecc9e7317b02b0e27031c09dc7861518f11d3c6a804cf2ef3db", func := "fleuron/fleuronlaw1.PointsLines", spec := "pointsLines", inPlace := ["internal/abi.NoEscape"], apart := false }
def PointsLinesSaid : Prop := pointsLinesRow.holds Try.pinned (OpenSpec.ofChange pointsLinesSpec)

/-- ITS FALSE NEIGHBOUR: 'it returns false'. Refute it at one input. -/
def pointsLinesWrong : ChangeSpec := { name := "pointsLines", fn := fun _ => fun
  | [d] => { results := [.lit (.bool false)], args := [d] }
  | _ => none }
def PointsLinesWrongFalsely : Prop := pointsLinesRow.holds Try.pinned (OpenSpec.ofChange pointsLinesWrong)

/-- 'fleuronlaw1.PointsHex': WHATEVER THE INPUT: true; the input reads as it did. -/
def pointsHexSpec : ChangeSpec := { name := "pointsHex", fn := fun _ => fun
  | [d1, d2] => { results := [.lit (.bool true)], args := [d1, d2] }
  | _ => none }
def pointsHexRow : OpenClaim := { program := "ytpnjkdmcalcleaa", sum := "e06100093f051ecc9e7317b02b0e27031c09dc7861518f11d3c6a804cf2ef3db", func := "fleuron/fleuronlaw1.PointsHex", spec := "pointsHex", inPlace := ["internal/abi.NoEscape"], apart := false }
def PointsHexSaid : Prop := pointsHexRow.holds Try.pinned (OpenSpec.ofChange pointsHexSpec)

/-- ITS FALSE NEIGHBOUR: 'it returns false'. Refute it at one input. -/
def pointsHexWrong : ChangeSpec := { name := "pointsHex", fn := fun _ => fun
  | [d1, d2] => { results := [.lit (.bool false)], args := [d1, d2] }
  | _ => none }
def PointsHexWrongFalsely : Prop := pointsHexRow.holds Try.pinned (OpenSpec.ofChange pointsHexWrong)

/-- 'fleuronlaw1.PointsLower': WHATEVER THE INPUT: true; the input reads as it did. -/
def pointsLowerSpec : ChangeSpec := { name := "pointsLower", fn := fun _ => fun
  | [d] => { results := [.lit (.bool true)], args := [d] }
  | _ => none }
def pointsLowerRow : OpenClaim := { program := "ytpnjkdmcalcleaa", sum := "e06100093f051ecc9e7317b02b0e27031c09dc7861518f11d3c6a804cf2ef3db", func := "fleuron/fleuronlaw1.PointsLower", spec := "pointsLower", inPlace := ["internal/abi.NoEscape"], apart := false }
def PointsLowerSaid : Prop := pointsLowerRow.holds Try.pinned (OpenSpec.ofChange pointsLowerSpec)

/-- ITS FALSE NEIGHBOUR: 'it returns false'. Refute it at one input. -/
def pointsLowerWrong : ChangeSpec := { name := "pointsLower", fn := fun _ => fun
  | [d] => { results := [.lit (.bool false)], args := [d] }
  | _ => none }
def PointsLowerWrongFalsely : Prop := pointsLowerRow.holds Try.pinned (OpenSpec.ofChange pointsLowerWrong)

/- THE SECOND FORM. 'bulk': how many values and letters a reading holds, each counted each time it is reached (what is shared counts as often as it is met; a slice's spare places count too). A statement '..UptoSaid' is the law's where the arguments, and the package variables that the reading takes, are together of bulk at most 1048576: NARROWER than '..Said'. Prove '..Said' where nothing that the law and all that it calls make is longer than what came in: it says more and counts as full. Else prove '..UptoSaid'. A law counts once. -/
mutual
def uptoBulk {H : Type} : DataW H → Nat
  | .lit (.string bytes) => bytes.length + 1
  | .lit _ => 1
  | .nil => 1
  | .ptr d => uptoBulk d + 1
  | .slice elems spare => uptoBulkAll elems + uptoBulkAll spare + 1
  | .agg parts => uptoBulkAll parts + 1
  | .iface _ d => uptoBulk d + 1
  | .map entries => uptoBulkEntries entries + 1
  | .held _ => 1
def uptoBulkAll {H : Type} : List (DataW H) → Nat
  | [] => 0
  | d :: r => uptoBulk d + uptoBulkAll r
def uptoBulkEntries {H : Type} : List (Lit × DataW H) → Nat
  | [] => 0
  | x :: r => uptoBulkEntry x + uptoBulkEntries r
def uptoBulkEntry {H : Type} : Lit × DataW H → Nat
  | (.string bytes, d) => bytes.length + uptoBulk d + 1
  | (_, d) => uptoBulk d + 1
 end
def uptoSmall : (H : Type) → List (DataW H) → Bool := fun _ ds => decide (uptoBulkAll ds ≤ 1048576)
def OpenSpec.upto (s : _root_.Go.ChangeSpec) : _root_.Go.OpenSpec := { _root_.Go.OpenSpec.ofChange s with cond := some uptoSmall }

/-- 'fleuronlaw1.PointsRead', WHERE WHAT IT READS IS OF BULK AT MOST 1048576: true; the input reads as it did. -/
def pointsReadUptoRow : OpenClaim := { program := "ytpnjkdmcalcleaa", sum := "e06100093f051ecc9e7317b02b0e27031c09dc7861518f11d3c6a804cf2ef3db", func := "fleuron/fleuronlaw1.PointsRead", spec := "pointsRead", inPlace := ["internal/abi.NoEscape"], apart := false, narrowed := true }
def PointsReadUptoSaid : Prop := pointsReadUptoRow.holds Try.pinned (OpenSpec.upto pointsReadSpec)

/-- 'fleuronlaw1.PointsBack', WHERE WHAT IT READS IS OF BULK AT MOST 1048576: true; the input reads as it did. -/
def pointsBackUptoRow : OpenClaim := { program := "ytpnjkdmcalcleaa", sum := "e06100093f051ecc9e7317b02b0e27031c09dc7861518f11d3c6a804cf2ef3db", func := "fleuron/fleuronlaw1.PointsBack", spec := "pointsBack", inPlace := ["internal/abi.NoEscape"], apart := false, narrowed := true }
def PointsBackUptoSaid : Prop := pointsBackUptoRow.holds Try.pinned (OpenSpec.upto pointsBackSpec)

/-- 'fleuronlaw1.PointsLines', WHERE WHAT IT READS IS OF BULK AT MOST 1048576: true; the input reads as it did. -/
def pointsLinesUptoRow : OpenClaim := { program := "ytpnjkdmcalcleaa", sum := "e06100093f051ecc9e7317b02b0e27031c09dc7861518f11d3c6a804cf2ef3db", func := "fleuron/fleuronlaw1.PointsLines", spec := "pointsLines", inPlace := ["internal/abi.NoEscape"], apart := false, narrowed := true }
def PointsLinesUptoSaid : Prop := pointsLinesUptoRow.holds Try.pinned (OpenSpec.upto pointsLinesSpec)

/-- 'fleuronlaw1.PointsHex', WHERE WHAT IT READS IS OF BULK AT MOST 1048576: true; the input reads as it did. -/
def pointsHexUptoRow : OpenClaim := { program := "ytpnjkdmcalcleaa", sum := "e06100093f051ecc9e7317b02b0e27031c09dc7861518f11d3c6a804cf2ef3db", func := "fleuron/fleuronlaw1.PointsHex", spec := "pointsHex", inPlace := ["internal/abi.NoEscape"], apart := false, narrowed := true }
def PointsHexUptoSaid : Prop := pointsHexUptoRow.holds Try.pinned (OpenSpec.upto pointsHexSpec)

/-- 'fleuronlaw1.PointsLower', WHERE WHAT IT READS IS OF BULK AT MOST 1048576: true; the input reads as it did. -/
def pointsLowerUptoRow : OpenClaim := { program := "ytpnjkdmcalcleaa", sum := "e06100093f051ecc9e7317b02b0e27031c09dc7861518f11d3c6a804cf2ef3db", func := "fleuron/fleuronlaw1.PointsLower", spec := "pointsLower", inPlace := ["internal/abi.NoEscape"], apart := false, narrowed := true }
def PointsLowerUptoSaid : Prop := pointsLowerUptoRow.holds Try.pinned (OpenSpec.upto pointsLowerSpec)

end Rows
end Go.Proofs.Ytpnjkdmcalcleaa
