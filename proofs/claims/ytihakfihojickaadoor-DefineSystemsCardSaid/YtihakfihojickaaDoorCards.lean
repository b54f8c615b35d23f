/-
  DERIVED. GIVEN WITH THE SEED: THE CARDS: each row of YtihakfihojickaaDoorRows.lean that lists a variable, with what it lists TIED to the program's text (the seventh form; the later family's looks); each row that meets fmt, with fmt's text TOLD by the authors' own Lean function (tested against real Go, not proved from fmt's source: count such statements apart). THE CARD IS WHAT COUNTS. Prove the row's statement (the work); the ties are given (YtihakfihojickaaDoorTie.lean); close each card by the builder's one call (the guide's Derived/Test/ToyasCard.lean, 'card_holds'). Laid BY PROGRAM, IN A SANDBOX (cutbox-door.mjs). By AI agents, Wed Nov 11 2026. No macro, syntax, notation, axiom, sorry.
-/
import Derived.Test.YtihakfihojickaaDoorRows
import GoSem.ClaimSeven
namespace Go.Proofs.YtihakfihojickaaDoor
namespace Rows

/-- THE TIED CARD OF 'fleuronlaw10.DefineLast'. -/
def defineLastCard : Claim7 := { stood := { row := defineLastRow, standIns := [], harness := (true, "757b186d3d5954194347c873c0696f1e7ed4a73efd7285a280848cc168261c66"), looks := false }, kinds := [], alts := [], laidByText := true, laidKinds := [.listed, .data], laidTests := true, laidLooks := .later }
def DefineLastCardSaid : Prop := Claim7.holds Tryd.pinned (.plain (OpenSpec.ofChange defineLastSpec)) defineLastCard

/-- THE TIED CARD OF 'fleuronlaw10.DefineSystems'. -/
def defineSystemsCard : Claim7 := { stood := { row := defineSystemsRow, standIns := [], harness := (true, "757b186d3d5954194347c873c0696f1e7ed4a73efd7285a280848cc168261c66"), looks := false }, kinds := [], alts := [], laidByText := true, laidKinds := [.listed, .data], laidTests := true, laidLooks := .later }
def DefineSystemsCardSaid : Prop := Claim7.holds Tryd.pinned (.plain (OpenSpec.ofChange defineSystemsSpec)) defineSystemsCard

/-- THE TIED CARD OF 'fleuronlaw10.DefineRanges'. -/
def defineRangesCard : Claim7 := { stood := { row := defineRangesRow, standIns := [], harness := (true, "757b186d3d5954194347c873c0696f1e7ed4a73efd7285a280848cc168261c66"), looks := false }, kinds := [], alts := [], laidByText := true, laidKinds := [.listed, .data], laidTests := true, laidLooks := .later }
def DefineRangesCardSaid : Prop := Claim7.holds Tryd.pinned (.plain (OpenSpec.ofChange defineRangesSpec)) defineRangesCard

/-- THE SECOND FORM's CARD OF 'fleuronlaw10.DefineLast'. -/
def defineLastUptoCard : Claim7 := { stood := { row := defineLastUptoRow, standIns := [], harness := (true, "757b186d3d5954194347c873c0696f1e7ed4a73efd7285a280848cc168261c66"), looks := false }, kinds := [], alts := [], laidByText := true, laidKinds := [.listed, .data], laidTests := true, laidLooks := .later }
def DefineLastUptoCardSaid : Prop := Claim7.holds Tryd.pinned (.plain (OpenSpec.upto defineLastSpec)) defineLastUptoCard

/-- THE SECOND FORM's CARD OF 'fleuronlaw10.DefineSystems'. -/
def defineSystemsUptoCard : Claim7 := { stood := { row := defineSystemsUptoRow, standIns := [], harness := (true, "757b186d3d5954194347c873c0696f1e7ed4a73efd7285a280848cc168261c66"), looks := false }, kinds := [], alts := [], laidByText := true, laidKinds := [.listed, .data], laidTests := true, laidLooks := .later }
def DefineSystemsUptoCardSaid : Prop := Claim7.holds Tryd.pinned (.plain (OpenSpec.upto defineSystemsSpec)) defineSystemsUptoCard

/-- THE SECOND FORM's CARD OF 'fleuronlaw10.DefineRanges'. -/
def defineRangesUptoCard : Claim7 := { stood := { row := defineRangesUptoRow, standIns := [], harness := (true, "757b186d3d5954194347c873c0696f1e7ed4a73efd7285a280848cc168261c66"), looks := false }, kinds := [], alts := [], laidByText := true, laidKinds := [.listed, .data], laidTests := true, laidLooks := .later }
def DefineRangesUptoCardSaid : Prop := Claim7.holds Tryd.pinned (.plain (OpenSpec.upto defineRangesSpec)) defineRangesUptoCard
end Rows
end Go.Proofs.YtihakfihojickaaDoor
