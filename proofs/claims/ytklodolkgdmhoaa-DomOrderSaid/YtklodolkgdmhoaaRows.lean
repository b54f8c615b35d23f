/-
  No cell of these rows narrows 'for every input' (looked for: loops, veiled, ifaces, maps, wideKeys, modest, calm, conditions, laid).
  DERIVED. THE GIVEN ROWS OF THIS SEAT. 5 by the template 'for every input the law returns true; each argument reads behind the call as it read before'; 0 by the template 'total and deterministic' (their statements: YtklodolkgdmhoaaTotals.lean).
  GIVEN WITH THE SEED: the statements are not yours to turn. If you find one false, say at which input.
  Laid BY PROGRAM, IN A SANDBOX (cutbox-rows.mjs): the forced cells as the released guide's own fill.sh prints them over the translation 923efaf7b501da93… (all of the seat's roots in one cut). By AI agents, Wed Nov 11 2026. No macro, syntax, notation, axiom, sorry.
-/
import Derived.Test.YtklodolkgdmhoaaChecked
import GoSem.Claim
import GoSem.ClaimJoined
import GoSem.ClaimMapViews
import Derived.JoinedTies
import Derived.KernelRfl
namespace Go.Proofs.Ytklodolkgdmhoaa
/- THE CELL 'sum', in the pinned program and in every row, IS THE sha256 OF THE DUMP (.gsa) THAT YtklodolkgdmhoaaProg.lean LOADS. Nothing in Lean hashes anything: it is a label: what it is worth is what the hold of that sum in a sandbox is worth. -/
noncomputable def Try.pinned : Pinned := { name := "ytklodolkgdmhoaa", sum := "923efaf7b501da93e8a8b65e8d3078270828446e1c59f4469d0cddebebdcd467", checked := Try.checked }
namespace Rows
def none {H : Type} : Left H := { results := [], args := [] }

/-- 'fleuronlaw7.DomOrder': WHATEVER THE INPUT: true; the input reads as it did. -/
def domOrderSpec : ChangeSpec := { name := "domOrder", fn := fun _ => fun
  | [d] => { results := [.lit (.bool true)], args := [d] }
  | _ => none }
def domOrderRow : OpenClaim := { program := "ytklodolkgdmhoaa", sum := "923efaf7b501da93e8a8b65e8d3078270828446e1c59f4469d0cddebebdcd467", func := "fleuron/fleuronlaw7.DomOrder", spec := "domOrder", inPlace := ["internal/abi.NoEscape"], unfollowed := true, recurses := true, apart := false }
def DomOrderSaid : Prop := domOrderRow.holds Try.pinned (OpenSpec.ofChange domOrderSpec)

/-- ITS FALSE NEIGHBOUR: 'it returns false'. Refute it at one input. -/
def domOrderWrong : ChangeSpec := { name := "domOrder", fn := fun _ => fun
  | [d] => { results := [.lit (.bool false)], args := [d] }
  | _ => none }
def DomOrderWrongFalsely : Prop := domOrderRow.holds Try.pinned (OpenSpec.ofChange domOrderWrong)

/-- 'fleuronlaw7.DomForms': WHATEVER THE INPUT: true; the input reads as it did. -/
def domFormsSpec : ChangeSpec := { name := "domForms", fn := fun _ => fun
  | [d1, d2, d3, d4] => { results := [.lit (.bool true)], args := [d1, d2, d3, d4] }
  | _ => none }
def domFormsRow : OpenClaim := { program := "ytklodolkgdmhoaa", sum := "923efaf7b501da93e8a8b65e8d3078270828446e1c59f4469d0cddebebdcd467", func := "fleuron/fleuronlaw7.DomForms", spec := "domForms", inPlace := ["internal/abi.NoEscape"], unfollowed := true, recurses := true, apart := false }
def DomFormsSaid : Prop := domFormsRow.holds Try.pinned (OpenSpec.ofChange domFormsSpec)

/-- ITS FALSE NEIGHBOUR: 'it returns false'. Refute it at one input. -/
def domFormsWrong : ChangeSpec := { name := "domForms", fn := fun _ => fun
  | [d1, d2, d3, d4] => { results := [.lit (.bool false)], args := [d1, d2, d3, d4] }
  | _ => none }
def DomFormsWrongFalsely : Prop := domFormsRow.holds Try.pinned (OpenSpec.ofChange domFormsWrong)

/-- 'fleuronlaw7.DomAttrs': WHATEVER THE INPUT: true; the input reads as it did. -/
def domAttrsSpec : ChangeSpec := { name := "domAttrs", fn := fun _ => fun
  | [d1, d2, d3] => { results := [.lit (.bool true)], args := [d1, d2, d3] }
  | _ => none }
def domAttrsRow : OpenClaim := { program := "ytklodolkgdmhoaa", sum := "923efaf7b501da93e8a8b65e8d3078270828446e1c59f4469d0cddebebdcd467", func := "fleuron/fleuronlaw7.DomAttrs", spec := "domAttrs", inPlace := ["internal/abi.NoEscape"], unfollowed := true, recurses := true, apart := false }
def DomAttrsSaid : Prop := domAttrsRow.holds Try.pinned (OpenSpec.ofChange domAttrsSpec)

/-- ITS FALSE NEIGHBOUR: 'it returns false'. Refute it at one input. -/
def domAttrsWrong : ChangeSpec := { name := "domAttrs", fn := fun _ => fun
  | [d1, d2, d3] => { results := [.lit (.bool false)], args := [d1, d2, d3] }
  | _ => none }
def DomAttrsWrongFalsely : Prop := domAttrsRow.holds Try.pinned (OpenSpec.ofChange domAttrsWrong)

/-- 'fleuronlaw7.DomTells': WHATEVER THE INPUT: true; the input reads as it did. -/
def domTellsSpec : ChangeSpec := { name := "domTells", fn := fun _ => fun
  | [d1, d2, d3] => { results := [.lit (.bool true)], args := [d1, d2, d3] }
  | _ => none }
def domTellsRow : OpenClaim := { program := "ytklodolkgdmhoaa", sum := "923efaf7b501da93e8a8b65e8d3078270828446e1c59f4469d0cddebebdcd467", func := "fleuron/fleuronlaw7.DomTells", spec := "domTells", inPlace := ["internal/abi.NoEscape"], unfollowed := true, recurses := true, apart := false }
def DomTellsSaid : Prop := domTellsRow.holds Try.pinned (OpenSpec.ofChange domTellsSpec)

/-- ITS FALSE NEIGHBOUR: 'it returns false'. Refute it at one input. -/
def domTellsWrong : ChangeSpec := { name := "domTells", fn := fun _ => fun
  | [d1, d2, d3] => { results := [.lit (.bool false)], args := [d1, d2, d3] }
  | _ => none }
def DomTellsWrongFalsely : Prop := domTellsRow.holds Try.pinned (OpenSpec.ofChange domTellsWrong)

/-- 'fleuronlaw7.DomKids': WHATEVER THE INPUT: true; the input reads as it did. -/
def domKidsSpec : ChangeSpec := { name := "domKids", fn := fun _ => fun
  | [d] => { results := [.lit (.bool true)], args := [d] }
  | _ => none }
def domKidsRow : OpenClaim := { program := "ytklodolkgdmhoaa", sum := "923efaf7b501da93e8a8b65e8d3078270828446e1c59f4469d0cddebebdcd467", func := "fleuron/fleuronlaw7.DomKids", spec := "domKids", inPlace := ["internal/abi.NoEscape"], unfollowed := true, recurses := true, apart := false }
def DomKidsSaid : Prop := domKidsRow.holds Try.pinned (OpenSpec.ofChange domKidsSpec)

/-- ITS FALSE NEIGHBOUR: 'it returns false'. Refute it at one input. -/
def domKidsWrong : ChangeSpec := { name := "domKids", fn := fun _ => fun
  | [d] => { results := [.lit (.bool false)], args := [d] }
  | _ => none }
def DomKidsWrongFalsely : Prop := domKidsRow.holds Try.pinned (OpenSpec.ofChange domKidsWrong)

/- THE SECOND FORM. 'bulk': how many values and letters a reading holds, each counted each time it is reached (what is shared counts as often as it is met; a slice's spare places count too). A statement '..UptoSaid' is the law's where the arguments, and the package variables that the reading takes, are together of bulk at most 1048576: NARROWER than '..Said'. Prove '..Said' where nothing that the law and all that it calls make is longer than what came in: it says more and counts as full. Else prove '..UptoSaid'. A law counts once. -/
mutual
def uptoBulk {H : Type} : DataW H → Nat
  | .lit (.string bytes) => bytes.length + 1
  | .lit _ => 1
  | .nil => 1
  | .ptr d => uptoBulk d + 1
  | .slice elems spare => uptoBulkAll elems + uptoBulkAll spare + 1
  | .agg parts => uptoBulkAll parts + 1
  | .iface _ d => uptoBulk d + 1
  | .map entries => uptoBulkEntries entries + 1
  | .held _ => 1
def uptoBulkAll {H : Type} : List (DataW H) → Nat
  | [] => 0
  | d :: r => uptoBulk d + uptoBulkAll r
def uptoBulkEntries {H : Type} : List (Lit × DataW H) → Nat
  | [] => 0
  | x :: r => uptoBulkEntry x + uptoBulkEntries r
def uptoBulkEntry {H : Type} : Lit × DataW H → Nat
  | (.string bytes, d) => bytes.length + uptoBulk d + 1
  | (_, d) => uptoBulk d + 1
 end
def uptoSmall : (H : Type) → List (DataW H) → Bool := fun _ ds => decide (uptoBulkAll ds ≤ 1048576)
def OpenSpec.upto (s : _root_.Go.ChangeSpec) : _root_.Go.OpenSpec := { _root_.Go.OpenSpec.ofChange s with cond := some uptoSmall }

/-- 'fleuronlaw7.DomOrder', WHERE WHAT IT READS IS OF BULK AT MOST 1048576: true; the input reads as it did. -/
def domOrderUptoRow : OpenClaim := { program := "ytklodolkgdmhoaa", sum := "923efaf7b501da93e8a8b65e8d3078270828446e1c59f4469d0cddebebdcd467", func := "fleuron/fleuronlaw7.DomOrder", spec := "domOrder", inPlace := ["internal/abi.NoEscape"], unfollowed := true, recurses := true, apart := false, narrowed := true }
def DomOrderUptoSaid : Prop := domOrderUptoRow.holds Try.pinned (OpenSpec.upto domOrderSpec)

/-- 'fleuronlaw7.DomForms', WHERE WHAT IT READS IS OF BULK AT MOST 1048576: true; the input reads as it did. -/
def domFormsUptoRow : OpenClaim := { program := "ytklodolkgdmhoaa", sum := "923efaf7b501da93e8a8b65e8d3078270828446e1c59f4469d0cddebebdcd467", func := "fleuron/fleuronlaw7.DomForms", spec := "domForms", inPlace := ["internal/abi.NoEscape"], unfollowed := true, recurses := true, apart := false, narrowed := true }
def DomFormsUptoSaid : Prop := domFormsUptoRow.holds Try.pinned (OpenSpec.upto domFormsSpec)

/-- 'fleuronlaw7.DomAttrs', WHERE WHAT IT READS IS OF BULK AT MOST 1048576: true; the input reads as it did. -/
def domAttrsUptoRow : OpenClaim := { program := "ytklodolkgdmhoaa", sum := "923efaf7b501da93e8a8b65e8d3078270828446e1c59f4469d0cddebebdcd467", func := "fleuron/fleuronlaw7.DomAttrs", spec := "domAttrs", inPlace := ["internal/abi.NoEscape"], unfollowed := true, recurses := true, apart := false, narrowed := true }
def DomAttrsUptoSaid : Prop := domAttrsUptoRow.holds Try.pinned (OpenSpec.upto domAttrsSpec)

/-- 'fleuronlaw7.DomTells', WHERE WHAT IT READS IS OF BULK AT MOST 1048576: true; the input reads as it did. -/
def domTellsUptoRow : OpenClaim := { program := "ytklodolkgdmhoaa", sum := "923efaf7b501da93e8a8b65e8d3078270828446e1c59f4469d0cddebebdcd467", func := "fleuron/fleuronlaw7.DomTells", spec := "domTells", inPlace := ["internal/abi.NoEscape"], unfollowed := true, recurses := true, apart := false, narrowed := true }
def DomTellsUptoSaid : Prop := domTellsUptoRow.holds Try.pinned (OpenSpec.upto domTellsSpec)

/-- 'fleuronlaw7.DomKids', WHERE WHAT IT READS IS OF BULK AT MOST 1048576: true; the input reads as it did. -/
def domKidsUptoRow : OpenClaim := { program := "ytklodolkgdmhoaa", sum := "923efaf7b501da93e8a8b65e8d3078270828446e1c59f4469d0cddebebdcd467", func := "fleuron/fleuronlaw7.DomKids", spec := "domKids", inPlace := ["internal/abi.NoEscape"], unfollowed := true, recurses := true, apart := false, narrowed := true }
def DomKidsUptoSaid : Prop := domKidsUptoRow.holds Try.pinned (OpenSpec.upto domKidsSpec)

end Rows
end Go.Proofs.Ytklodolkgdmhoaa
