/-
  DERIVED. GIVEN WITH THE SEED: THE CARDS: each row of YtbjinibmkkmhkaaDoorRows.lean that lists a variable, with what it lists TIED to the program's text (the seventh form; the later family's looks); each row that meets fmt, with fmt's text TOLD by the authors' own Lean function (tested against real Go, not proved from fmt's source: count such statements apart). THE CARD IS WHAT COUNTS. Prove the row's statement (the work); the ties are given (YtbjinibmkkmhkaaDoorTie.lean); close each card by the builder's one call (the guide's Derived/Test/ToyasCard.lean, 'card_holds'). Laid BY PROGRAM, IN A SANDBOX (cutbox-door.mjs). By AI agents, Wed Nov 11 2026. No macro, syntax, notation, axiom, sorry.
-/
import Derived.Test.YtbjinibmkkmhkaaDoorRows
import GoSem.ClaimSeven
namespace Go.Proofs.YtbjinibmkkmhkaaDoor
namespace Rows

/-- THE TIED CARD OF 'fleuronlaw2.TokenTells'. -/
def tokenTellsCard : Claim7 := { stood := { row := tokenTellsRow, standIns := [], harness := (true, "f8cae48c0cffbdee094d3b95df167afb67d5cf5e605da77aec760ac9c84c6934"), looks := false }, kinds := [], alts := [], laidByText := true, laidKinds := [.data, .pinned], laidTests := true, laidLooks := .later }
def TokenTellsCardSaid : Prop := Claim7.holds Tryd.pinned (.plain (OpenSpec.ofChange tokenTellsSpec)) tokenTellsCard

/-- THE TIED CARD OF 'fleuronlaw2.TokenJoins'. -/
def tokenJoinsCard : Claim7 := { stood := { row := tokenJoinsRow, standIns := [], harness := (true, "f8cae48c0cffbdee094d3b95df167afb67d5cf5e605da77aec760ac9c84c6934"), looks := false }, kinds := [], alts := [], laidByText := true, laidKinds := [.data, .pinned], laidTests := true, laidLooks := .later }
def TokenJoinsCardSaid : Prop := Claim7.holds Tryd.pinned (.plain (OpenSpec.ofChange tokenJoinsSpec)) tokenJoinsCard

/-- THE TIED CARD OF 'fleuronlaw2.TokenNames'. -/
def tokenNamesCard : Claim7 := { stood := { row := tokenNamesRow, standIns := [], harness := (true, "f8cae48c0cffbdee094d3b95df167afb67d5cf5e605da77aec760ac9c84c6934"), looks := false }, kinds := [], alts := [], laidByText := true, laidKinds := [.data, .pinned], laidTests := true, laidLooks := .later }
def TokenNamesCardSaid : Prop := Claim7.holds Tryd.pinned (.plain (OpenSpec.ofChange tokenNamesSpec)) tokenNamesCard

/-- THE TIED CARD OF 'fleuronlaw2.TokenNumbers'. -/
def tokenNumbersCard : Claim7 := { stood := { row := tokenNumbersRow, standIns := [], harness := (true, "f8cae48c0cffbdee094d3b95df167afb67d5cf5e605da77aec760ac9c84c6934"), looks := false }, kinds := [], alts := [], laidByText := true, laidKinds := [.data, .pinned], laidTests := true, laidLooks := .later }
def TokenNumbersCardSaid : Prop := Claim7.holds Tryd.pinned (.plain (OpenSpec.ofChange tokenNumbersSpec)) tokenNumbersCard

/-- THE TIED CARD OF 'fleuronlaw2.TokenStrings'. -/
def tokenStringsCard : Claim7 := { stood := { row := tokenStringsRow, standIns := [], harness := (true, "f8cae48c0cffbdee094d3b95df167afb67d5cf5e605da77aec760ac9c84c6934"), looks := false }, kinds := [], alts := [], laidByText := true, laidKinds := [.data, .pinned], laidTests := true, laidLooks := .later }
def TokenStringsCardSaid : Prop := Claim7.holds Tryd.pinned (.plain (OpenSpec.ofChange tokenStringsSpec)) tokenStringsCard

/-- THE TIED CARD OF 'fleuronlaw2.TokenURLs'. -/
def tokenURLsCard : Claim7 := { stood := { row := tokenURLsRow, standIns := [], harness := (true, "f8cae48c0cffbdee094d3b95df167afb67d5cf5e605da77aec760ac9c84c6934"), looks := false }, kinds := [], alts := [], laidByText := true, laidKinds := [.data, .pinned], laidTests := true, laidLooks := .later }
def TokenURLsCardSaid : Prop := Claim7.holds Tryd.pinned (.plain (OpenSpec.ofChange tokenURLsSpec)) tokenURLsCard

/-- THE TIED CARD OF 'fleuronlaw2.TokenComments'. -/
def tokenCommentsCard : Claim7 := { stood := { row := tokenCommentsRow, standIns := [], harness := (true, "f8cae48c0cffbdee094d3b95df167afb67d5cf5e605da77aec760ac9c84c6934"), looks := false }, kinds := [], alts := [], laidByText := true, laidKinds := [.data, .pinned], laidTests := true, laidLooks := .later }
def TokenCommentsCardSaid : Prop := Claim7.holds Tryd.pinned (.plain (OpenSpec.ofChange tokenCommentsSpec)) tokenCommentsCard

/-- THE TIED CARD OF 'fleuronlaw2.TokenSigns'. -/
def tokenSignsCard : Claim7 := { stood := { row := tokenSignsRow, standIns := [], harness := (true, "f8cae48c0cffbdee094d3b95df167afb67d5cf5e605da77aec760ac9c84c6934"), looks := false }, kinds := [], alts := [], laidByText := true, laidKinds := [.data, .pinned], laidTests := true, laidLooks := .later }
def TokenSignsCardSaid : Prop := Claim7.holds Tryd.pinned (.plain (OpenSpec.ofChange tokenSignsSpec)) tokenSignsCard

/-- THE TIED CARD OF 'fleuronlaw2.TokenHashes'. -/
def tokenHashesCard : Claim7 := { stood := { row := tokenHashesRow, standIns := [], harness := (true, "f8cae48c0cffbdee094d3b95df167afb67d5cf5e605da77aec760ac9c84c6934"), looks := false }, kinds := [], alts := [], laidByText := true, laidKinds := [.data, .pinned], laidTests := true, laidLooks := .later }
def TokenHashesCardSaid : Prop := Claim7.holds Tryd.pinned (.plain (OpenSpec.ofChange tokenHashesSpec)) tokenHashesCard

/-- THE SECOND FORM's CARD OF 'fleuronlaw2.TokenTells'. -/
def tokenTellsUptoCard : Claim7 := { stood := { row := tokenTellsUptoRow, standIns := [], harness := (true, "f8cae48c0cffbdee094d3b95df167afb67d5cf5e605da77aec760ac9c84c6934"), looks := false }, kinds := [], alts := [], laidByText := true, laidKinds := [.data, .pinned], laidTests := true, laidLooks := .later }
def TokenTellsUptoCardSaid : Prop := Claim7.holds Tryd.pinned (.plain (OpenSpec.upto tokenTellsSpec)) tokenTellsUptoCard

/-- THE SECOND FORM's CARD OF 'fleuronlaw2.TokenJoins'. -/
def tokenJoinsUptoCard : Claim7 := { stood := { row := tokenJoinsUptoRow, standIns := [], harness := (true, "f8cae48c0cffbdee094d3b95df167afb67d5cf5e605da77aec760ac9c84c6934"), looks := false }, kinds := [], alts := [], laidByText := true, laidKinds := [.data, .pinned], laidTests := true, laidLooks := .later }
def TokenJoinsUptoCardSaid : Prop := Claim7.holds Tryd.pinned (.plain (OpenSpec.upto tokenJoinsSpec)) tokenJoinsUptoCard

/-- THE SECOND FORM's CARD OF 'fleuronlaw2.TokenNames'. -/
def tokenNamesUptoCard : Claim7 := { stood := { row := tokenNamesUptoRow, standIns := [], harness := (true, "f8cae48c0cffbdee094d3b95df167afb67d5cf5e605da77aec760ac9c84c6934"), looks := false }, kinds := [], alts := [], laidByText := true, laidKinds := [.data, .pinned], laidTests := true, laidLooks := .later }
def TokenNamesUptoCardSaid : Prop := Claim7.holds Tryd.pinned (.plain (OpenSpec.upto tokenNamesSpec)) tokenNamesUptoCard

/-- THE SECOND FORM's CARD OF 'fleuronlaw2.TokenNumbers'. -/
def tokenNumbersUptoCard : Claim7 := { stood := { row := tokenNumbersUptoRow, standIns := [], harness := (true, "f8cae48c0cffbdee094d3b95df167afb67d5cf5e605da77aec760ac9c84c6934"), looks := false }, kinds := [], alts := [], laidByText := true, laidKinds := [.data, .pinned], laidTests := true, laidLooks := .later }
def TokenNumbersUptoCardSaid : Prop := Claim7.holds Tryd.pinned (.plain (OpenSpec.upto tokenNumbersSpec)) tokenNumbersUptoCard

/-- THE SECOND FORM's CARD OF 'fleuronlaw2.TokenStrings'. -/
def tokenStringsUptoCard : Claim7 := { stood := { row := tokenStringsUptoRow, standIns := [], harness := (true, "f8cae48c0cffbdee094d3b95df167afb67d5cf5e605da77aec760ac9c84c6934"), looks := false }, kinds := [], alts := [], laidByText := true, laidKinds := [.data, .pinned], laidTests := true, laidLooks := .later }
def TokenStringsUptoCardSaid : Prop := Claim7.holds Tryd.pinned (.plain (OpenSpec.upto tokenStringsSpec)) tokenStringsUptoCard

/-- THE SECOND FORM's CARD OF 'fleuronlaw2.TokenURLs'. -/
def tokenURLsUptoCard : Claim7 := { stood := { row := tokenURLsUptoRow, standIns := [], harness := (true, "f8cae48c0cffbdee094d3b95df167afb67d5cf5e605da77aec760ac9c84c6934"), looks := false }, kinds := [], alts := [], laidByText := true, laidKinds := [.data, .pinned], laidTests := true, laidLooks := .later }
def TokenURLsUptoCardSaid : Prop := Claim7.holds Tryd.pinned (.plain (OpenSpec.upto tokenURLsSpec)) tokenURLsUptoCard

/-- THE SECOND FORM's CARD OF 'fleuronlaw2.TokenComments'. -/
def tokenCommentsUptoCard : Claim7 := { stood := { row := tokenCommentsUptoRow, standIns := [], harness := (true, "f8cae48c0cffbdee094d3b95df167afb67d5cf5e605da77aec760ac9c84c6934"), looks := false }, kinds := [], alts := [], laidByText := true, laidKinds := [.data, .pinned], laidTests := true, laidLooks := .later }
def TokenCommentsUptoCardSaid : Prop := Claim7.holds Tryd.pinned (.plain (OpenSpec.upto tokenCommentsSpec)) tokenCommentsUptoCard

/-- THE SECOND FORM's CARD OF 'fleuronlaw2.TokenSigns'. -/
def tokenSignsUptoCard : Claim7 := { stood := { row := tokenSignsUptoRow, standIns := [], harness := (true, "f8cae48c0cffbdee094d3b95df167afb67d5cf5e605da77aec760ac9c84c6934"), looks := false }, kinds := [], alts := [], laidByText := true, laidKinds := [.data, .pinned], laidTests := true, laidLooks := .later }
def TokenSignsUptoCardSaid : Prop := Claim7.holds Tryd.pinned (.plain (OpenSpec.upto tokenSignsSpec)) tokenSignsUptoCard

/-- THE SECOND FORM's CARD OF 'fleuronlaw2.TokenHashes'. -/
def tokenHashesUptoCard : Claim7 := { stood := { row := tokenHashesUptoRow, standIns := [], harness := (true, "f8cae48c0cffbdee094d3b95df167afb67d5cf5e605da77aec760ac9c84c6934"), looks := false }, kinds := [], alts := [], laidByText := true, laidKinds := [.data, .pinned], laidTests := true, laidLooks := .later }
def TokenHashesUptoCardSaid : Prop := Claim7.holds Tryd.pinned (.plain (OpenSpec.upto tokenHashesSpec)) tokenHashesUptoCard
end Rows
end Go.Proofs.YtbjinibmkkmhkaaDoor
