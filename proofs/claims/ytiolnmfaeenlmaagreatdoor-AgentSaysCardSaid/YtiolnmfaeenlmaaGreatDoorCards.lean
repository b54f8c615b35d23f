/-
  DERIVED. GIVEN WITH THE SEED: THE CARDS: each row of YtiolnmfaeenlmaaGreatDoorRows.lean that lists a variable, with what it lists TIED to the program's text (the seventh form; the later family's looks); each row that meets fmt, with fmt's text TOLD by the authors' own Lean function (tested against real Go, not proved from fmt's source: count such statements apart). THE CARD IS WHAT COUNTS. Prove the row's statement (the work); the ties are given (YtiolnmfaeenlmaaGreatDoorTie.lean); close each card by the builder's one call (the guide's Derived/Test/ToyasCard.lean, 'card_holds'). Laid BY PROGRAM, IN A SANDBOX (cutbox-door.mjs). By AI agents, Wed Nov 11 2026. No macro, syntax, notation, axiom, sorry.
-/
import Derived.Test.YtiolnmfaeenlmaaGreatDoorRows
import GoSem.ClaimSeven
namespace Go.Proofs.YtiolnmfaeenlmaaGreatDoor
namespace Rows

/-- THE TIED CARD OF 'fleuronlaw4.RulesRead'. -/
def rulesReadCard : Claim7 := { stood := { row := rulesReadRow, standIns := [], harness := (true, "ea40577a92494c236c99d1bcb3ed713a355672efff1d03d83bc9c9b8b72dd48a"), looks := false }, kinds := [], alts := [], laidByText := true, laidKinds := [.data, .pinned], laidTests := true, laidLooks := .later }
def RulesReadCardSaid : Prop := Claim7.holds Tryz.pinned (.plain (OpenSpec.ofChange rulesReadSpec)) rulesReadCard

/-- THE TIED CARD OF 'fleuronlaw4.RulesEach'. -/
def rulesEachCard : Claim7 := { stood := { row := rulesEachRow, standIns := [], harness := (true, "ea40577a92494c236c99d1bcb3ed713a355672efff1d03d83bc9c9b8b72dd48a"), looks := false }, kinds := [], alts := [], laidByText := true, laidKinds := [.data, .pinned], laidTests := true, laidLooks := .later }
def RulesEachCardSaid : Prop := Claim7.holds Tryz.pinned (.plain (OpenSpec.ofChange rulesEachSpec)) rulesEachCard

/-- THE TIED CARD OF 'fleuronlaw4.RulesLimits'. -/
def rulesLimitsCard : Claim7 := { stood := { row := rulesLimitsRow, standIns := [], harness := (true, "ea40577a92494c236c99d1bcb3ed713a355672efff1d03d83bc9c9b8b72dd48a"), looks := false }, kinds := [], alts := [], laidByText := true, laidKinds := [.data, .pinned], laidTests := true, laidLooks := .later }
def RulesLimitsCardSaid : Prop := Claim7.holds Tryz.pinned (.plain (OpenSpec.ofChange rulesLimitsSpec)) rulesLimitsCard

/-- THE TIED CARD OF 'fleuronlaw4.RulesImportant'. -/
def rulesImportantCard : Claim7 := { stood := { row := rulesImportantRow, standIns := [], harness := (true, "ea40577a92494c236c99d1bcb3ed713a355672efff1d03d83bc9c9b8b72dd48a"), looks := false }, kinds := [], alts := [], laidByText := true, laidKinds := [.data, .pinned], laidTests := true, laidLooks := .later }
def RulesImportantCardSaid : Prop := Claim7.holds Tryz.pinned (.plain (OpenSpec.ofChange rulesImportantSpec)) rulesImportantCard

/-- THE TIED CARD OF 'fleuronlaw4.RulesAts'. -/
def rulesAtsCard : Claim7 := { stood := { row := rulesAtsRow, standIns := [], harness := (true, "ea40577a92494c236c99d1bcb3ed713a355672efff1d03d83bc9c9b8b72dd48a"), looks := false }, kinds := [], alts := [], laidByText := true, laidKinds := [.data, .pinned], laidTests := true, laidLooks := .later }
def RulesAtsCardSaid : Prop := Claim7.holds Tryz.pinned (.plain (OpenSpec.ofChange rulesAtsSpec)) rulesAtsCard

/-- THE TIED CARD OF 'fleuronlaw4.RulesDecls'. -/
def rulesDeclsCard : Claim7 := { stood := { row := rulesDeclsRow, standIns := [], harness := (true, "ea40577a92494c236c99d1bcb3ed713a355672efff1d03d83bc9c9b8b72dd48a"), looks := false }, kinds := [], alts := [], laidByText := true, laidKinds := [.data, .pinned], laidTests := true, laidLooks := .later }
def RulesDeclsCardSaid : Prop := Claim7.holds Tryz.pinned (.plain (OpenSpec.ofChange rulesDeclsSpec)) rulesDeclsCard

/-- THE TIED CARD OF 'fleuronlaw21.AgentSays'. -/
def agentSaysCard : Claim7 := { stood := { row := agentSaysRow, standIns := [], harness := (true, "ea40577a92494c236c99d1bcb3ed713a355672efff1d03d83bc9c9b8b72dd48a"), looks := false }, kinds := [], alts := [], laidByText := true, laidKinds := [.data, .pinned], laidTests := true, laidLooks := .later }
def AgentSaysCardSaid : Prop := Claim7.holds Tryz.pinned (.plain (OpenSpec.ofChange agentSaysSpec)) agentSaysCard

/-- THE TIED CARD OF 'fleuronlaw21.AgentShows'. -/
def agentShowsCard : Claim7 := { stood := { row := agentShowsRow, standIns := [], harness := (true, "ea40577a92494c236c99d1bcb3ed713a355672efff1d03d83bc9c9b8b72dd48a"), looks := false }, kinds := [], alts := [], laidByText := true, laidKinds := [.data, .pinned], laidTests := true, laidLooks := .later }
def AgentShowsCardSaid : Prop := Claim7.holds Tryz.pinned (.plain (OpenSpec.ofChange agentShowsSpec)) agentShowsCard

/-- THE SECOND FORM's CARD OF 'fleuronlaw4.RulesRead'. -/
def rulesReadUptoCard : Claim7 := { stood := { row := rulesReadUptoRow, standIns := [], harness := (true, "ea40577a92494c236c99d1bcb3ed713a355672efff1d03d83bc9c9b8b72dd48a"), looks := false }, kinds := [], alts := [], laidByText := true, laidKinds := [.data, .pinned], laidTests := true, laidLooks := .later }
def RulesReadUptoCardSaid : Prop := Claim7.holds Tryz.pinned (.plain (OpenSpec.upto rulesReadSpec)) rulesReadUptoCard

/-- THE SECOND FORM's CARD OF 'fleuronlaw4.RulesEach'. -/
def rulesEachUptoCard : Claim7 := { stood := { row := rulesEachUptoRow, standIns := [], harness := (true, "ea40577a92494c236c99d1bcb3ed713a355672efff1d03d83bc9c9b8b72dd48a"), looks := false }, kinds := [], alts := [], laidByText := true, laidKinds := [.data, .pinned], laidTests := true, laidLooks := .later }
def RulesEachUptoCardSaid : Prop := Claim7.holds Tryz.pinned (.plain (OpenSpec.upto rulesEachSpec)) rulesEachUptoCard

/-- THE SECOND FORM's CARD OF 'fleuronlaw4.RulesLimits'. -/
def rulesLimitsUptoCard : Claim7 := { stood := { row := rulesLimitsUptoRow, standIns := [], harness := (true, "ea40577a92494c236c99d1bcb3ed713a355672efff1d03d83bc9c9b8b72dd48a"), looks := false }, kinds := [], alts := [], laidByText := true, laidKinds := [.data, .pinned], laidTests := true, laidLooks := .later }
def RulesLimitsUptoCardSaid : Prop := Claim7.holds Tryz.pinned (.plain (OpenSpec.upto rulesLimitsSpec)) rulesLimitsUptoCard

/-- THE SECOND FORM's CARD OF 'fleuronlaw4.RulesImportant'. -/
def rulesImportantUptoCard : Claim7 := { stood := { row := rulesImportantUptoRow, standIns := [], harness := (true, "ea40577a92494c236c99d1bcb3ed713a355672efff1d03d83bc9c9b8b72dd48a"), looks := false }, kinds := [], alts := [], laidByText := true, laidKinds := [.data, .pinned], laidTests := true, laidLooks := .later }
def RulesImportantUptoCardSaid : Prop := Claim7.holds Tryz.pinned (.plain (OpenSpec.upto rulesImportantSpec)) rulesImportantUptoCard

/-- THE SECOND FORM's CARD OF 'fleuronlaw4.RulesAts'. -/
def rulesAtsUptoCard : Claim7 := { stood := { row := rulesAtsUptoRow, standIns := [], harness := (true, "ea40577a92494c236c99d1bcb3ed713a355672efff1d03d83bc9c9b8b72dd48a"), looks := false }, kinds := [], alts := [], laidByText := true, laidKinds := [.data, .pinned], laidTests := true, laidLooks := .later }
def RulesAtsUptoCardSaid : Prop := Claim7.holds Tryz.pinned (.plain (OpenSpec.upto rulesAtsSpec)) rulesAtsUptoCard

/-- THE SECOND FORM's CARD OF 'fleuronlaw4.RulesDecls'. -/
def rulesDeclsUptoCard : Claim7 := { stood := { row := rulesDeclsUptoRow, standIns := [], harness := (true, "ea40577a92494c236c99d1bcb3ed713a355672efff1d03d83bc9c9b8b72dd48a"), looks := false }, kinds := [], alts := [], laidByText := true, laidKinds := [.data, .pinned], laidTests := true, laidLooks := .later }
def RulesDeclsUptoCardSaid : Prop := Claim7.holds Tryz.pinned (.plain (OpenSpec.upto rulesDeclsSpec)) rulesDeclsUptoCard

/-- THE SECOND FORM's CARD OF 'fleuronlaw21.AgentSays'. -/
def agentSaysUptoCard : Claim7 := { stood := { row := agentSaysUptoRow, standIns := [], harness := (true, "ea40577a92494c236c99d1bcb3ed713a355672efff1d03d83bc9c9b8b72dd48a"), looks := false }, kinds := [], alts := [], laidByText := true, laidKinds := [.data, .pinned], laidTests := true, laidLooks := .later }
def AgentSaysUptoCardSaid : Prop := Claim7.holds Tryz.pinned (.plain (OpenSpec.upto agentSaysSpec)) agentSaysUptoCard

/-- THE SECOND FORM's CARD OF 'fleuronlaw21.AgentShows'. -/
def agentShowsUptoCard : Claim7 := { stood := { row := agentShowsUptoRow, standIns := [], harness := (true, "ea40577a92494c236c99d1bcb3ed713a355672efff1d03d83bc9c9b8b72dd48a"), looks := false }, kinds := [], alts := [], laidByText := true, laidKinds := [.data, .pinned], laidTests := true, laidLooks := .later }
def AgentShowsUptoCardSaid : Prop := Claim7.holds Tryz.pinned (.plain (OpenSpec.upto agentShowsSpec)) agentShowsUptoCard
end Rows
end Go.Proofs.YtiolnmfaeenlmaaGreatDoor
