/-
  No cell of these rows narrows 'for every input' (looked for: loops, veiled, ifaces, maps, wideKeys, modest, calm, conditions, laid).
  DERIVED. THE GIVEN ROWS OF THIS SEAT. 5 by the template 'for every input the law returns true; each argument reads behind the call as it read before'; 0 by the template 'total and deterministic' (their statements: YtogjmafjoliimaaTotals.lean).
  GIVEN WITH THE SEED: the statements are not yours to turn. If you find one false, say at which input.
  Laid BY PROGRAM, IN A SANDBOX (cutbox-rows.mjs): the forced cells as the released guide's own fill.sh prints them over the translation 30485f7c7118ee99… (all of the seat's roots in one cut). By AI agents, Wed Nov 11 2026. No macro, syntax, notation, axiom, sorry.
-/
import Derived.Test.YtogjmafjoliimaaChecked
import GoSem.Claim
import GoSem.ClaimJoined
import GoSem.ClaimMapViews
import Derived.JoinedTies
import Derived.KernelRfl
namespace Go.Proofs.Ytogjmafjoliimaa
/- THE CELL 'sum', in the pinned program and in every row, IS THE sha256 OF THE DUMP (.gsa) THAT YtogjmafjoliimaaProg.lean LOADS. Nothing in Lean hashes anything: it is a label: what it is worth is what the hold of that sum in a sandbox is worth. -/
noncomputable def Try.pinned : Pinned := { name := "ytogjmafjoliimaa", sum := "30485f7c7118ee995354ea55e9af8d66c90bbdc85f2b0138c3030cc008c1a28f", checked := Try.checked }
namespace Rows
def none {H : Type} : Left H := { results := [], args := [] }

/-- 'fleuronlaw3.NestBack': WHATEVER THE INPUT: true; the input reads as it did. -/
def nestBackSpec : ChangeSpec := { name := "nestBack", fn := fun _ => fun
  | [d] => { results := [.lit (.bool true)], args := [d] }
  | _ => none }
def nestBackRow : OpenClaim := { program := "ytogjmafjoliimaa", sum := "30485f7c7118ee995354ea55e9af8d66c90bbdc85f2b0138c3030cc008c1a28f", func := "fleuron/fleuronlaw3.NestBack", spec := "nestBack", unfollowed := true, recurses := true, apart := false }
def NestBackSaid : Prop := nestBackRow.holds Try.pinned (OpenSpec.ofChange nestBackSpec)

/-- ITS FALSE NEIGHBOUR: 'it returns false'. Refute it at one input. -/
def nestBackWrong : ChangeSpec := { name := "nestBack", fn := fun _ => fun
  | [d] => { results := [.lit (.bool false)], args := [d] }
  | _ => none }
def NestBackWrongFalsely : Prop := nestBackRow.holds Try.pinned (OpenSpec.ofChange nestBackWrong)

/-- 'fleuronlaw3.NestDeep': WHATEVER THE INPUT: true; the input reads as it did. -/
def nestDeepSpec : ChangeSpec := { name := "nestDeep", fn := fun _ => fun
  | [d1, d2, d3] => { results := [.lit (.bool true)], args := [d1, d2, d3] }
  | _ => none }
def nestDeepRow : OpenClaim := { program := "ytogjmafjoliimaa", sum := "30485f7c7118ee995354ea55e9af8d66c90bbdc85f2b0138c3030cc008c1a28f", func := "fleuron/fleuronlaw3.NestDeep", spec := "nestDeep", unfollowed := true, recurses := true, apart := false }
def NestDeepSaid : Prop := nestDeepRow.holds Try.pinned (OpenSpec.ofChange nestDeepSpec)

/-- ITS FALSE NEIGHBOUR: 'it returns false'. Refute it at one input. -/
def nestDeepWrong : ChangeSpec := { name := "nestDeep", fn := fun _ => fun
  | [d1, d2, d3] => { results := [.lit (.bool false)], args := [d1, d2, d3] }
  | _ => none }
def NestDeepWrongFalsely : Prop := nestDeepRow.holds Try.pinned (OpenSpec.ofChange nestDeepWrong)

/-- 'fleuronlaw3.NestSplit': WHATEVER THE INPUT: true; the input reads as it did. -/
def nestSplitSpec : ChangeSpec := { name := "nestSplit", fn := fun _ => fun
  | [d] => { results := [.lit (.bool true)], args := [d] }
  | _ => none }
def nestSplitRow : OpenClaim := { program := "ytogjmafjoliimaa", sum := "30485f7c7118ee995354ea55e9af8d66c90bbdc85f2b0138c3030cc008c1a28f", func := "fleuron/fleuronlaw3.NestSplit", spec := "nestSplit", unfollowed := true, recurses := true, apart := false }
def NestSplitSaid : Prop := nestSplitRow.holds Try.pinned (OpenSpec.ofChange nestSplitSpec)

/-- ITS FALSE NEIGHBOUR: 'it returns false'. Refute it at one input. -/
def nestSplitWrong : ChangeSpec := { name := "nestSplit", fn := fun _ => fun
  | [d] => { results := [.lit (.bool false)], args := [d] }
  | _ => none }
def NestSplitWrongFalsely : Prop := nestSplitRow.holds Try.pinned (OpenSpec.ofChange nestSplitWrong)

/-- 'fleuronlaw3.NestOnes': WHATEVER THE INPUT: true; the input reads as it did. -/
def nestOnesSpec : ChangeSpec := { name := "nestOnes", fn := fun _ => fun
  | [d] => { results := [.lit (.bool true)], args := [d] }
  | _ => none }
def nestOnesRow : OpenClaim := { program := "ytogjmafjoliimaa", sum := "30485f7c7118ee995354ea55e9af8d66c90bbdc85f2b0138c3030cc008c1a28f", func := "fleuron/fleuronlaw3.NestOnes", spec := "nestOnes", unfollowed := true, recurses := true, apart := false }
def NestOnesSaid : Prop := nestOnesRow.holds Try.pinned (OpenSpec.ofChange nestOnesSpec)

/-- ITS FALSE NEIGHBOUR: 'it returns false'. Refute it at one input. -/
def nestOnesWrong : ChangeSpec := { name := "nestOnes", fn := fun _ => fun
  | [d] => { results := [.lit (.bool false)], args := [d] }
  | _ => none }
def NestOnesWrongFalsely : Prop := nestOnesRow.holds Try.pinned (OpenSpec.ofChange nestOnesWrong)

/-- 'fleuronlaw3.NestTrims': WHATEVER THE INPUT: true; the input reads as it did. -/
def nestTrimsSpec : ChangeSpec := { name := "nestTrims", fn := fun _ => fun
  | [d] => { results := [.lit (.bool true)], args := [d] }
  | _ => none }
def nestTrimsRow : OpenClaim := { program := "ytogjmafjoliimaa", sum := "30485f7c7118ee995354ea55e9af8d66c90bbdc85f2b0138c3030cc008c1a28f", func := "fleuron/fleuronlaw3.NestTrims", spec := "nestTrims", unfollowed := true, recurses := true, apart := false }
def NestTrimsSaid : Prop := nestTrimsRow.holds Try.pinned (OpenSpec.ofChange nestTrimsSpec)

/-- ITS FALSE NEIGHBOUR: 'it returns false'. Refute it at one input. -/
def nestTrimsWrong : ChangeSpec := { name := "nestTrims", fn := fun _ => fun
  | [d] => { results := [.lit (.bool false)], args := [d] }
  | _ => none }
def NestTrimsWrongFalsely : Prop := nestTrimsRow.holds Try.pinned (OpenSpec.ofChange nestTrimsWrong)

/- THE SECOND FORM. 'bulk': how many values and letters a reading holds, each counted each time it is reached (what is shared counts as often as it is met; a slice's spare places count too). A statement '..UptoSaid' is the law's where the arguments, and the package variables that the reading takes, are together of bulk at most 1048576: NARROWER than '..Said'. Prove '..Said' where nothing that the law and all that it calls make is longer than what came in: it says more and counts as full. Else prove '..UptoSaid'. A law counts once. -/
mutual
def uptoBulk {H : Type} : DataW H → Nat
  | .lit (.string bytes) => bytes.length + 1
  | .lit _ => 1
  | .nil => 1
  | .ptr d => uptoBulk d + 1
  | .slice elems spare => uptoBulkAll elems + uptoBulkAll spare + 1
  | .agg parts => uptoBulkAll parts + 1
  | .iface _ d => uptoBulk d + 1
  | .map entries => uptoBulkEntries entries + 1
  | .held _ => 1
def uptoBulkAll {H : Type} : List (DataW H) → Nat
  | [] => 0
  | d :: r => uptoBulk d + uptoBulkAll r
def uptoBulkEntries {H : Type} : List (Lit × DataW H) → Nat
  | [] => 0
  | x :: r => uptoBulkEntry x + uptoBulkEntries r
def uptoBulkEntry {H : Type} : Lit × DataW H → Nat
  | (.string bytes, d) => bytes.length + uptoBulk d + 1
  | (_, d) => uptoBulk d + 1
 end
def uptoSmall : (H : Type) → List (DataW H) → Bool := fun _ ds => decide (uptoBulkAll ds ≤ 1048576)
def OpenSpec.upto (s : _root_.Go.ChangeSpec) : _root_.Go.OpenSpec := { _root_.Go.OpenSpec.ofChange s with cond := some uptoSmall }

/-- 'fleuronlaw3.NestBack', WHERE WHAT IT READS IS OF BULK AT MOST 1048576: true; the input reads as it did. -/
def nestBackUptoRow : OpenClaim := { program := "ytogjmafjoliimaa", sum := "30485f7c7118ee995354ea55e9af8d66c90bbdc85f2b0138c3030cc008c1a28f", func := "fleuron/fleuronlaw3.NestBack", spec := "nestBack", unfollowed := true, recurses := true, apart := false, narrowed := true }
def NestBackUptoSaid : Prop := nestBackUptoRow.holds Try.pinned (OpenSpec.upto nestBackSpec)

/-- 'fleuronlaw3.NestDeep', WHERE WHAT IT READS IS OF BULK AT MOST 1048576: true; the input reads as it did. -/
def nestDeepUptoRow : OpenClaim := { program := "ytogjmafjoliimaa", sum := "30485f7c7118ee995354ea55e9af8d66c90bbdc85f2b0138c3030cc008c1a28f", func := "fleuron/fleuronlaw3.NestDeep", spec := "nestDeep", unfollowed := true, recurses := true, apart := false, narrowed := true }
def NestDeepUptoSaid : Prop := nestDeepUptoRow.holds Try.pinned (OpenSpec.upto nestDeepSpec)

/-- 'fleuronlaw3.NestSplit', WHERE WHAT IT READS IS OF BULK AT MOST 1048576: true; the input reads as it did. -/
def nestSplitUptoRow : OpenClaim := { program := "ytogjmafjoliimaa", sum := "30485f7c7118ee995354ea55e9af8d66c90bbdc85f2b0138c3030cc008c1a28f", func := "fleuron/fleuronlaw3.NestSplit", spec := "nestSplit", unfollowed := true, recurses := true, apart := false, narrowed := true }
def NestSplitUptoSaid : Prop := nestSplitUptoRow.holds Try.pinned (OpenSpec.upto nestSplitSpec)

/-- 'fleuronlaw3.NestOnes', WHERE WHAT IT READS IS OF BULK AT MOST 1048576: true; the input reads as it did. -/
def nestOnesUptoRow : OpenClaim := { program := "ytogjmafjoliimaa", sum := "30485f7c7118ee995354ea55e9af8d66c90bbdc85f2b0138c3030cc008c1a28f", func := "fleuron/fleuronlaw3.NestOnes", spec := "nestOnes", unfollowed := true, recurses := true, apart := false, narrowed := true }
def NestOnesUptoSaid : Prop := nestOnesUptoRow.holds Try.pinned (OpenSpec.upto nestOnesSpec)

/-- 'fleuronlaw3.NestTrims', WHERE WHAT IT READS IS OF BULK AT MOST 1048576: true; the input reads as it did. -/
def nestTrimsUptoRow : OpenClaim := { program := "ytogjmafjoliimaa", sum := "30485f7c7118ee995354ea55e9af8d66c90bbdc85f2b0138c3030cc008c1a28f", func := "fleuron/fleuronlaw3.NestTrims", spec := "nestTrims", unfollowed := true, recurses := true, apart := false, narrowed := true }
def NestTrimsUptoSaid : Prop := nestTrimsUptoRow.holds Try.pinned (OpenSpec.upto nestTrimsSpec)

end Rows
end Go.Proofs.Ytogjmafjoliimaa
