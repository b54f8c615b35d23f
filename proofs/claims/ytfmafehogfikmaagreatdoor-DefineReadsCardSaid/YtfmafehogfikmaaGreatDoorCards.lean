/-
  DERIVED. GIVEN WITH THE SEED: THE CARDS: each row of YtfmafehogfikmaaGreatDoorRows.lean that lists a variable, with what it lists TIED to the program's text (the seventh form; the later family's looks); each row that meets fmt, with fmt's text TOLD by the authors' own Lean function (tested against real Go, not proved from fmt's source: count such statements apart). THE CARD IS WHAT COUNTS. Prove the row's statement (the work); the ties are given (YtfmafehogfikmaaGreatDoorTie.lean); close each card by the builder's one call (the guide's Derived/Test/ToyasCard.lean, 'card_holds'). Laid BY PROGRAM, IN A SANDBOX (cutbox-door.mjs). By AI agents, Wed Nov 11 2026. No macro, syntax, notation, axiom, sorry.
-/
import Derived.Test.YtfmafehogfikmaaGreatDoorRows
import GoSem.ClaimSeven
namespace Go.Proofs.YtfmafehogfikmaaGreatDoor
namespace Rows

/-- THE TIED CARD OF 'fleuronlaw10.DefineReads'. -/
def defineReadsCard : Claim7 := { stood := { row := defineReadsRow, standIns := [], harness := (true, "a81253f37b15912fbdd63e31a0b55715a53d54a24adc647f8ed0981058ad6ccf"), looks := false }, kinds := [], alts := [], laidByText := true, laidKinds := [.listed, .data], laidTests := true, laidLooks := .later }
def DefineReadsCardSaid : Prop := Claim7.holds Tryz.pinned (.plain (OpenSpec.ofChange defineReadsSpec)) defineReadsCard

/-- THE SECOND FORM's CARD OF 'fleuronlaw10.DefineReads'. -/
def defineReadsUptoCard : Claim7 := { stood := { row := defineReadsUptoRow, standIns := [], harness := (true, "a81253f37b15912fbdd63e31a0b55715a53d54a24adc647f8ed0981058ad6ccf"), looks := false }, kinds := [], alts := [], laidByText := true, laidKinds := [.listed, .data], laidTests := true, laidLooks := .later }
def DefineReadsUptoCardSaid : Prop := Claim7.holds Tryz.pinned (.plain (OpenSpec.upto defineReadsSpec)) defineReadsUptoCard
end Rows
end Go.Proofs.YtfmafehogfikmaaGreatDoor
