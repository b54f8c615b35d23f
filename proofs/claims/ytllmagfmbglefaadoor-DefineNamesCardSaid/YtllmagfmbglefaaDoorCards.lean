/-
  DERIVED. GIVEN WITH THE SEED: THE CARDS: each row of YtllmagfmbglefaaDoorRows.lean that lists a variable, with what it lists TIED to the program's text (the seventh form; the later family's looks); each row that meets fmt, with fmt's text TOLD by the authors' own Lean function (tested against real Go, not proved from fmt's source: count such statements apart). THE CARD IS WHAT COUNTS. Prove the row's statement (the work); the ties are given (YtllmagfmbglefaaDoorTie.lean); close each card by the builder's one call (the guide's Derived/Test/ToyasCard.lean, 'card_holds'). Laid BY PROGRAM, IN A SANDBOX (cutbox-door.mjs). By AI agents, Wed Nov 11 2026. No macro, syntax, notation, axiom, sorry.
-/
import Derived.Test.YtllmagfmbglefaaDoorRows
import GoSem.ClaimSeven
namespace Go.Proofs.YtllmagfmbglefaaDoor
namespace Rows

/-- THE TIED CARD OF 'fleuronlaw12.PropWides'. -/
def propWidesCard : Claim7 := { stood := { row := propWidesRow, standIns := [], harness := (true, "87e957c6920c31e8037f53996826bf7eee0afa10610905bca98e4ca7241f7dfc"), looks := false }, kinds := [], alts := [], laidByText := true, laidKinds := [.listed, .data], laidTests := true, laidLooks := .later }
def PropWidesCardSaid : Prop := Claim7.holds Tryd.pinned (.plain (OpenSpec.ofChange propWidesSpec)) propWidesCard

/-- THE TIED CARD OF 'fleuronlaw12.PropQuotes'. -/
def propQuotesCard : Claim7 := { stood := { row := propQuotesRow, standIns := [], harness := (true, "87e957c6920c31e8037f53996826bf7eee0afa10610905bca98e4ca7241f7dfc"), looks := false }, kinds := [], alts := [], laidByText := true, laidKinds := [.listed, .data], laidTests := true, laidLooks := .later }
def PropQuotesCardSaid : Prop := Claim7.holds Tryd.pinned (.plain (OpenSpec.ofChange propQuotesSpec)) propQuotesCard

/-- THE TIED CARD OF 'fleuronlaw12.PropTakes'. -/
def propTakesCard : Claim7 := { stood := { row := propTakesRow, standIns := [], harness := (true, "87e957c6920c31e8037f53996826bf7eee0afa10610905bca98e4ca7241f7dfc"), looks := false }, kinds := [], alts := [], laidByText := true, laidKinds := [.listed, .data], laidTests := true, laidLooks := .later }
def PropTakesCardSaid : Prop := Claim7.holds Tryd.pinned (.plain (OpenSpec.ofChange propTakesSpec)) propTakesCard

/-- THE TIED CARD OF 'fleuronlaw10.DefineLast'. -/
def defineLastCard : Claim7 := { stood := { row := defineLastRow, standIns := [], harness := (true, "87e957c6920c31e8037f53996826bf7eee0afa10610905bca98e4ca7241f7dfc"), looks := false }, kinds := [], alts := [], laidByText := true, laidKinds := [.listed, .data], laidTests := true, laidLooks := .later }
def DefineLastCardSaid : Prop := Claim7.holds Tryd.pinned (.plain (OpenSpec.ofChange defineLastSpec)) defineLastCard

/-- THE TIED CARD OF 'fleuronlaw10.DefineSystems'. -/
def defineSystemsCard : Claim7 := { stood := { row := defineSystemsRow, standIns := [], harness := (true, "87e957c6920c31e8037f53996826bf7eee0afa10610905bca98e4ca7241f7dfc"), looks := false }, kinds := [], alts := [], laidByText := true, laidKinds := [.listed, .data], laidTests := true, laidLooks := .later }
def DefineSystemsCardSaid : Prop := Claim7.holds Tryd.pinned (.plain (OpenSpec.ofChange defineSystemsSpec)) defineSystemsCard

/-- THE TIED CARD OF 'fleuronlaw10.DefineNames'. -/
def defineNamesCard : Claim7 := { stood := { row := defineNamesRow, standIns := [], harness := (true, "87e957c6920c31e8037f53996826bf7eee0afa10610905bca98e4ca7241f7dfc"), looks := false }, kinds := [], alts := [], laidByText := true, laidKinds := [.listed, .data], laidTests := true, laidLooks := .later }
def DefineNamesCardSaid : Prop := Claim7.holds Tryd.pinned (.plain (OpenSpec.ofChange defineNamesSpec)) defineNamesCard

/-- THE TIED CARD OF 'fleuronlaw10.DefineRanges'. -/
def defineRangesCard : Claim7 := { stood := { row := defineRangesRow, standIns := [], harness := (true, "87e957c6920c31e8037f53996826bf7eee0afa10610905bca98e4ca7241f7dfc"), looks := false }, kinds := [], alts := [], laidByText := true, laidKinds := [.listed, .data], laidTests := true, laidLooks := .later }
def DefineRangesCardSaid : Prop := Claim7.holds Tryd.pinned (.plain (OpenSpec.ofChange defineRangesSpec)) defineRangesCard

/-- THE SECOND FORM's CARD OF 'fleuronlaw12.PropWides'. -/
def propWidesUptoCard : Claim7 := { stood := { row := propWidesUptoRow, standIns := [], harness := (true, "87e957c6920c31e8037f53996826bf7eee0afa10610905bca98e4ca7241f7dfc"), looks := false }, kinds := [], alts := [], laidByText := true, laidKinds := [.listed, .data], laidTests := true, laidLooks := .later }
def PropWidesUptoCardSaid : Prop := Claim7.holds Tryd.pinned (.plain (OpenSpec.upto propWidesSpec)) propWidesUptoCard

/-- THE SECOND FORM's CARD OF 'fleuronlaw12.PropQuotes'. -/
def propQuotesUptoCard : Claim7 := { stood := { row := propQuotesUptoRow, standIns := [], harness := (true, "87e957c6920c31e8037f53996826bf7eee0afa10610905bca98e4ca7241f7dfc"), looks := false }, kinds := [], alts := [], laidByText := true, laidKinds := [.listed, .data], laidTests := true, laidLooks := .later }
def PropQuotesUptoCardSaid : Prop := Claim7.holds Tryd.pinned (.plain (OpenSpec.upto propQuotesSpec)) propQuotesUptoCard

/-- THE SECOND FORM's CARD OF 'fleuronlaw12.PropTakes'. -/
def propTakesUptoCard : Claim7 := { stood := { row := propTakesUptoRow, standIns := [], harness := (true, "87e957c6920c31e8037f53996826bf7eee0afa10610905bca98e4ca7241f7dfc"), looks := false }, kinds := [], alts := [], laidByText := true, laidKinds := [.listed, .data], laidTests := true, laidLooks := .later }
def PropTakesUptoCardSaid : Prop := Claim7.holds Tryd.pinned (.plain (OpenSpec.upto propTakesSpec)) propTakesUptoCard

/-- THE SECOND FORM's CARD OF 'fleuronlaw10.DefineLast'. -/
def defineLastUptoCard : Claim7 := { stood := { row := defineLastUptoRow, standIns := [], harness := (true, "87e957c6920c31e8037f53996826bf7eee0afa10610905bca98e4ca7241f7dfc"), looks := false }, kinds := [], alts := [], laidByText := true, laidKinds := [.listed, .data], laidTests := true, laidLooks := .later }
def DefineLastUptoCardSaid : Prop := Claim7.holds Tryd.pinned (.plain (OpenSpec.upto defineLastSpec)) defineLastUptoCard

/-- THE SECOND FORM's CARD OF 'fleuronlaw10.DefineSystems'. -/
def defineSystemsUptoCard : Claim7 := { stood := { row := defineSystemsUptoRow, standIns := [], harness := (true, "87e957c6920c31e8037f53996826bf7eee0afa10610905bca98e4ca7241f7dfc"), looks := false }, kinds := [], alts := [], laidByText := true, laidKinds := [.listed, .data], laidTests := true, laidLooks := .later }
def DefineSystemsUptoCardSaid : Prop := Claim7.holds Tryd.pinned (.plain (OpenSpec.upto defineSystemsSpec)) defineSystemsUptoCard

/-- THE SECOND FORM's CARD OF 'fleuronlaw10.DefineNames'. -/
def defineNamesUptoCard : Claim7 := { stood := { row := defineNamesUptoRow, standIns := [], harness := (true, "87e957c6920c31e8037f53996826bf7eee0afa10610905bca98e4ca7241f7dfc"), looks := false }, kinds := [], alts := [], laidByText := true, laidKinds := [.listed, .data], laidTests := true, laidLooks := .later }
def DefineNamesUptoCardSaid : Prop := Claim7.holds Tryd.pinned (.plain (OpenSpec.upto defineNamesSpec)) defineNamesUptoCard

/-- THE SECOND FORM's CARD OF 'fleuronlaw10.DefineRanges'. -/
def defineRangesUptoCard : Claim7 := { stood := { row := defineRangesUptoRow, standIns := [], harness := (true, "87e957c6920c31e8037f53996826bf7eee0afa10610905bca98e4ca7241f7dfc"), looks := false }, kinds := [], alts := [], laidByText := true, laidKinds := [.listed, .data], laidTests := true, laidLooks := .later }
def DefineRangesUptoCardSaid : Prop := Claim7.holds Tryd.pinned (.plain (OpenSpec.upto defineRangesSpec)) defineRangesUptoCard
end Rows
end Go.Proofs.YtllmagfmbglefaaDoor
