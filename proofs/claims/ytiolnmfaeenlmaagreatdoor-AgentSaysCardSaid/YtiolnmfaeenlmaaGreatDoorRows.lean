/-
  NARROWER THAN 'FOR EVERY INPUT', by the rows' own cells (each row's printed sentence says how): RulesRead: laid · RulesEach: laid · RulesLimits: laid · RulesImportant: laid · RulesAts: laid · RulesDecls: laid · AgentSays: laid · AgentShows: laid.
  DERIVED. THE GIVEN ROWS OF THIS SEAT. 8 by the template 'for every input the law returns true; each argument reads behind the call as it read before'; 0 by the template 'total and deterministic' (their statements: YtiolnmfaeenlmaaGreatDoorTotals.lean).
  GIVEN WITH THE SEED: the statements are not yours to turn. If you find one false, say at which input.
  Laid BY PROGRAM, IN A SANDBOX (cutbox-rows.mjs): the forced cells as the released guide's own fill.sh prints them over the translation fff5757be43a604d… (all of the seat's roots in one cut). By AI agents, Wed Nov 11 2026. No macro, syntax, notation, axiom, sorry.
-/
import Derived.Test.YtiolnmfaeenlmaaGreatDoorChecked
import GoSem.PinnedTables
import GoSem.Claim
import GoSem.ClaimJoined
import GoSem.ClaimMapViews
import Derived.JoinedTies
import Derived.KernelRfl
namespace Go.Proofs.YtiolnmfaeenlmaaGreatDoor
/- THE CELL 'sum', in the pinned program and in every row, IS THE sha256 OF THE DUMP (.gsa) THAT YtiolnmfaeenlmaaGreatDoorProg.lean LOADS. Nothing in Lean hashes anything: it is a label: what it is worth is what the hold of that sum in a sandbox is worth. -/
noncomputable def Tryz.pinned : Pinned := { name := "ytiolnmfaeenlmaagreatdoor", sum := "fff5757be43a604d161e9890d767b897df9e6e3adceb449be1f1206379fc106f", checked := Tryz.checked }
namespace Rows
def none {H : Type} : Left H := { results := [], args := [] }

/- WHAT THE LISTED PACKAGE-LEVEL VARIABLES READ AS WHEN THE CALL BEGINS. Each datum BY PROGRAM (the guide's laid-datum.mjs) off the statement by which the dump's own 'gosem.cut.vars' lays the variable. In a bare row this is a premise. The card (YtiolnmfaeenlmaaGreatDoorCards.lean) ties it to the program's text. -/
def laid_unicode_utf8_acceptRanges {H : Type} : DataW H := .agg [.agg [.lit (.int .u8 128), .lit (.int .u8 191)], .agg [.lit (.int .u8 160), .lit (.int .u8 191)], .agg [.lit (.int .u8 128), .lit (.int .u8 159)], .agg [.lit (.int .u8 144), .lit (.int .u8 191)], .agg [.lit (.int .u8 128), .lit (.int .u8 143)], .agg [.lit (.int .u8 0), .lit (.int .u8 0)], .agg [.lit (.int .u8 0), .lit (.int .u8 0)], .agg [.lit (.int .u8 0), .lit (.int .u8 0)], .agg [.lit (.int .u8 0), .lit (.int .u8 0)], .agg [.lit (.int .u8 0), .lit (.int .u8 0)], .agg [.lit (.int .u8 0), .lit (.int .u8 0)], .agg [.lit (.int .u8 0), .lit (.int .u8 0)], .agg [.lit (.int .u8 0), .lit (.int .u8 0)], .agg [.lit (.int .u8 0), .lit (.int .u8 0)], .agg [.lit (.int .u8 0), .lit (.int .u8 0)], .agg [.lit (.int .u8 0), .lit (.int .u8 0)]]
/-- One of Go's own tables, pinned by name: the form's constant. -/
def laid_unicode_utf8_first : DataW Unit := Go.Pinned.utf8First

/-- 'fleuronlaw4.RulesRead': WHATEVER THE INPUT: true; the input reads as it did. -/
def rulesReadSpec : ChangeSpec := { name := "rulesRead", fn := fun _ => fun
  | [d1, d2] => { results := [.lit (.bool true)], args := [d1, d2] }
  | _ => none }
def rulesReadRow : OpenClaim := { program := "ytiolnmfaeenlmaagreatdoor", sum := "fff5757be43a604d161e9890d767b897df9e6e3adceb449be1f1206379fc106f", func := "fleuron/fleuronlaw4.RulesRead", spec := "rulesRead", inPlace := ["internal/abi.NoEscape", "internal/bytealg.IndexByteString", "internal/bytealg.IndexString"], unfollowed := true, recurses := true, named := ["unicode/utf8.first", "unicode/utf8.acceptRanges", "internal/bytealg.MaxLen"], apart := false, laid := [("unicode/utf8.acceptRanges", laid_unicode_utf8_acceptRanges), ("unicode/utf8.first", laid_unicode_utf8_first)] }
def RulesReadSaid : Prop := rulesReadRow.holds Tryz.pinned (OpenSpec.ofChange rulesReadSpec)

/-- ITS FALSE NEIGHBOUR: 'it returns false'. Refute it at one input. -/
def rulesReadWrong : ChangeSpec := { name := "rulesRead", fn := fun _ => fun
  | [d1, d2] => { results := [.lit (.bool false)], args := [d1, d2] }
  | _ => none }
def RulesReadWrongFalsely : Prop := rulesReadRow.holds Tryz.pinned (OpenSpec.ofChange rulesReadWrong)

/-- 'fleuronlaw4.RulesEach': WHATEVER THE INPUT: true; the input reads as it did. -/
def rulesEachSpec : ChangeSpec := { name := "rulesEach", fn := fun _ => fun
  | [d1, d2] => { results := [.lit (.bool true)], args := [d1, d2] }
  | _ => none }
def rulesEachRow : OpenClaim := { program := "ytiolnmfaeenlmaagreatdoor", sum := "fff5757be43a604d161e9890d767b897df9e6e3adceb449be1f1206379fc106f", func := "fleuron/fleuronlaw4.RulesEach", spec := "rulesEach", inPlace := ["internal/abi.NoEscape", "internal/bytealg.IndexByteString", "internal/bytealg.IndexString"], unfollowed := true, recurses := true, named := ["unicode/utf8.first", "unicode/utf8.acceptRanges", "internal/bytealg.MaxLen"], apart := false, laid := [("unicode/utf8.acceptRanges", laid_unicode_utf8_acceptRanges), ("unicode/utf8.first", laid_unicode_utf8_first)] }
def RulesEachSaid : Prop := rulesEachRow.holds Tryz.pinned (OpenSpec.ofChange rulesEachSpec)

/-- ITS FALSE NEIGHBOUR: 'it returns false'. Refute it at one input. -/
def rulesEachWrong : ChangeSpec := { name := "rulesEach", fn := fun _ => fun
  | [d1, d2] => { results := [.lit (.bool false)], args := [d1, d2] }
  | _ => none }
def RulesEachWrongFalsely : Prop := rulesEachRow.holds Tryz.pinned (OpenSpec.ofChange rulesEachWrong)

/-- 'fleuronlaw4.RulesLimits': WHATEVER THE INPUT: true; the input reads as it did. -/
def rulesLimitsSpec : ChangeSpec := { name := "rulesLimits", fn := fun _ => fun
  | [d1, d2, d3] => { results := [.lit (.bool true)], args := [d1, d2, d3] }
  | _ => none }
def rulesLimitsRow : OpenClaim := { program := "ytiolnmfaeenlmaagreatdoor", sum := "fff5757be43a604d161e9890d767b897df9e6e3adceb449be1f1206379fc106f", func := "fleuron/fleuronlaw4.RulesLimits", spec := "rulesLimits", inPlace := ["internal/abi.NoEscape", "internal/bytealg.IndexByteString", "internal/bytealg.IndexString"], unfollowed := true, recurses := true, named := ["unicode/utf8.first", "unicode/utf8.acceptRanges", "internal/bytealg.MaxLen"], apart := false, laid := [("unicode/utf8.acceptRanges", laid_unicode_utf8_acceptRanges), ("unicode/utf8.first", laid_unicode_utf8_first)] }
def RulesLimitsSaid : Prop := rulesLimitsRow.holds Tryz.pinned (OpenSpec.ofChange rulesLimitsSpec)

/-- ITS FALSE NEIGHBOUR: 'it returns false'. Refute it at one input. -/
def rulesLimitsWrong : ChangeSpec := { name := "rulesLimits", fn := fun _ => fun
  | [d1, d2, d3] => { results := [.lit (.bool false)], args := [d1, d2, d3] }
  | _ => none }
def RulesLimitsWrongFalsely : Prop := rulesLimitsRow.holds Tryz.pinned (OpenSpec.ofChange rulesLimitsWrong)

/-- 'fleuronlaw4.RulesImportant': WHATEVER THE INPUT: true; the input reads as it did. -/
def rulesImportantSpec : ChangeSpec := { name := "rulesImportant", fn := fun _ => fun
  | [d1, d2, d3] => { results := [.lit (.bool true)], args := [d1, d2, d3] }
  | _ => none }
def rulesImportantRow : OpenClaim := { program := "ytiolnmfaeenlmaagreatdoor", sum := "fff5757be43a604d161e9890d767b897df9e6e3adceb449be1f1206379fc106f", func := "fleuron/fleuronlaw4.RulesImportant", spec := "rulesImportant", inPlace := ["internal/abi.NoEscape", "internal/bytealg.IndexByteString", "internal/bytealg.IndexString"], unfollowed := true, recurses := true, named := ["unicode/utf8.first", "unicode/utf8.acceptRanges", "internal/bytealg.MaxLen"], apart := false, laid := [("unicode/utf8.acceptRanges", laid_unicode_utf8_acceptRanges), ("unicode/utf8.first", laid_unicode_utf8_first)] }
def RulesImportantSaid : Prop := rulesImportantRow.holds Tryz.pinned (OpenSpec.ofChange rulesImportantSpec)

/-- ITS FALSE NEIGHBOUR: 'it returns false'. Refute it at one input. -/
def rulesImportantWrong : ChangeSpec := { name := "rulesImportant", fn := fun _ => fun
  | [d1, d2, d3] => { results := [.lit (.bool false)], args := [d1, d2, d3] }
  | _ => none }
def RulesImportantWrongFalsely : Prop := rulesImportantRow.holds Tryz.pinned (OpenSpec.ofChange rulesImportantWrong)

/-- 'fleuronlaw4.RulesAts': WHATEVER THE INPUT: true; the input reads as it did. -/
def rulesAtsSpec : ChangeSpec := { name := "rulesAts", fn := fun _ => fun
  | [d1, d2, d3] => { results := [.lit (.bool true)], args := [d1, d2, d3] }
  | _ => none }
def rulesAtsRow : OpenClaim := { program := "ytiolnmfaeenlmaagreatdoor", sum := "fff5757be43a604d161e9890d767b897df9e6e3adceb449be1f1206379fc106f", func := "fleuron/fleuronlaw4.RulesAts", spec := "rulesAts", inPlace := ["internal/abi.NoEscape", "internal/bytealg.IndexByteString", "internal/bytealg.IndexString"], unfollowed := true, recurses := true, named := ["unicode/utf8.first", "unicode/utf8.acceptRanges", "internal/bytealg.MaxLen"], apart := false, laid := [("unicode/utf8.acceptRanges", laid_unicode_utf8_acceptRanges), ("unicode/utf8.first", laid_unicode_utf8_first)] }
def RulesAtsSaid : Prop := rulesAtsRow.holds Tryz.pinned (OpenSpec.ofChange rulesAtsSpec)

/-- ITS FALSE NEIGHBOUR: 'it returns false'. Refute it at one input. -/
def rulesAtsWrong : ChangeSpec := { name := "rulesAts", fn := fun _ => fun
  | [d1, d2, d3] => { results := [.lit (.bool false)], args := [d1, d2, d3] }
  | _ => none }
def RulesAtsWrongFalsely : Prop := rulesAtsRow.holds Tryz.pinned (OpenSpec.ofChange rulesAtsWrong)

/-- 'fleuronlaw4.RulesDecls': WHATEVER THE INPUT: true; the input reads as it did. -/
def rulesDeclsSpec : ChangeSpec := { name := "rulesDecls", fn := fun _ => fun
  | [d] => { results := [.lit (.bool true)], args := [d] }
  | _ => none }
def rulesDeclsRow : OpenClaim := { program := "ytiolnmfaeenlmaagreatdoor", sum := "fff5757be43a604d161e9890d767b897df9e6e3adceb449be1f1206379fc106f", func := "fleuron/fleuronlaw4.RulesDecls", spec := "rulesDecls", inPlace := ["internal/abi.NoEscape", "internal/bytealg.IndexByteString", "internal/bytealg.IndexString"], unfollowed := true, recurses := true, named := ["unicode/utf8.first", "unicode/utf8.acceptRanges", "internal/bytealg.MaxLen"], apart := false, laid := [("unicode/utf8.acceptRanges", laid_unicode_utf8_acceptRanges), ("unicode/utf8.first", laid_unicode_utf8_first)] }
def RulesDeclsSaid : Prop := rulesDeclsRow.holds Tryz.pinned (OpenSpec.ofChange rulesDeclsSpec)

/-- ITS FALSE NEIGHBOUR: 'it returns false'. Refute it at one input. -/
def rulesDeclsWrong : ChangeSpec := { name := "rulesDecls", fn := fun _ => fun
  | [d] => { results := [.lit (.bool false)], args := [d] }
  | _ => none }
def RulesDeclsWrongFalsely : Prop := rulesDeclsRow.holds Tryz.pinned (OpenSpec.ofChange rulesDeclsWrong)

/-- 'fleuronlaw21.AgentSays': WHATEVER THE INPUT: true; the input reads as it did. -/
def agentSaysSpec : ChangeSpec := { name := "agentSays", fn := fun _ => fun
  | [d] => { results := [.lit (.bool true)], args := [d] }
  | _ => none }
def agentSaysRow : OpenClaim := { program := "ytiolnmfaeenlmaagreatdoor", sum := "fff5757be43a604d161e9890d767b897df9e6e3adceb449be1f1206379fc106f", func := "fleuron/fleuronlaw21.AgentSays", spec := "agentSays", inPlace := ["internal/abi.NoEscape", "internal/bytealg.IndexByteString", "internal/bytealg.IndexString"], unfollowed := true, recurses := true, named := ["unicode/utf8.first", "unicode/utf8.acceptRanges", "internal/bytealg.MaxLen"], apart := false, laid := [("unicode/utf8.acceptRanges", laid_unicode_utf8_acceptRanges), ("unicode/utf8.first", laid_unicode_utf8_first)] }
def AgentSaysSaid : Prop := agentSaysRow.holds Tryz.pinned (OpenSpec.ofChange agentSaysSpec)

/-- ITS FALSE NEIGHBOUR: 'it returns false'. Refute it at one input. -/
def agentSaysWrong : ChangeSpec := { name := "agentSays", fn := fun _ => fun
  | [d] => { results := [.lit (.bool false)], args := [d] }
  | _ => none }
def AgentSaysWrongFalsely : Prop := agentSaysRow.holds Tryz.pinned (OpenSpec.ofChange agentSaysWrong)

/-- 'fleuronlaw21.AgentShows': WHATEVER THE INPUT: true; the input reads as it did. -/
def agentShowsSpec : ChangeSpec := { name := "agentShows", fn := fun _ => fun
  | [d] => { results := [.lit (.bool true)], args := [d] }
  | _ => none }
def agentShowsRow : OpenClaim := { program := "ytiolnmfaeenlmaagreatdoor", sum := "fff5757be43a604d161e9890d767b897df9e6e3adceb449be1f1206379fc106f", func := "fleuron/fleuronlaw21.AgentShows", spec := "agentShows", inPlace := ["internal/abi.NoEscape", "internal/bytealg.IndexByteString", "internal/bytealg.IndexString"], unfollowed := true, recurses := true, named := ["unicode/utf8.first", "unicode/utf8.acceptRanges", "internal/bytealg.MaxLen"], apart := false, laid := [("unicode/utf8.acceptRanges", laid_unicode_utf8_acceptRanges), ("unicode/utf8.first", laid_unicode_utf8_first)] }
def AgentShowsSaid : Prop := agentShowsRow.holds Tryz.pinned (OpenSpec.ofChange agentShowsSpec)

/-- ITS FALSE NEIGHBOUR: 'it returns false'. Refute it at one input. -/
def agentShowsWrong : ChangeSpec := { name := "agentShows", fn := fun _ => fun
  | [d] => { results := [.lit (.bool false)], args := [d] }
  | _ => none }
def AgentShowsWrongFalsely : Prop := agentShowsRow.holds Tryz.pinned (OpenSpec.ofChange agentShowsWrong)

/- THE SECOND FORM. 'bulk': how many values and letters a reading holds, each counted each time it is reached (what is shared counts as often as it is met; a slice's spare places count too). A statement '..UptoSaid' is the law's where the arguments, and the package variables that the reading takes, are together of bulk at most 1048576: NARROWER than '..Said'. Prove '..Said' where nothing that the law and all that it calls make is longer than what came in: it says more and counts as full. Else prove '..UptoSaid'. A law counts once. -/
mutual
def uptoBulk {H : Type} : DataW H → Nat
  | .lit (.string bytes) => bytes.length + 1
  | .lit _ => 1
  | .nil => 1
  | .ptr d => uptoBulk d + 1
  | .slice elems spare => uptoBulkAll elems + uptoBulkAll spare + 1
  | .agg parts => uptoBulkAll parts + 1
  | .iface _ d => uptoBulk d + 1
  | .map entries => uptoBulkEntries entries + 1
  | .held _ => 1
def uptoBulkAll {H : Type} : List (DataW H) → Nat
  | [] => 0
  | d :: r => uptoBulk d + uptoBulkAll r
def uptoBulkEntries {H : Type} : List (Lit × DataW H) → Nat
  | [] => 0
  | x :: r => uptoBulkEntry x + uptoBulkEntries r
def uptoBulkEntry {H : Type} : Lit × DataW H → Nat
  | (.string bytes, d) => bytes.length + uptoBulk d + 1
  | (_, d) => uptoBulk d + 1
 end
def uptoSmall : (H : Type) → List (DataW H) → Bool := fun _ ds => decide (uptoBulkAll ds ≤ 1048576)
def OpenSpec.upto (s : _root_.Go.ChangeSpec) : _root_.Go.OpenSpec := { _root_.Go.OpenSpec.ofChange s with cond := some uptoSmall }

/-- 'fleuronlaw4.RulesRead', WHERE WHAT IT READS IS OF BULK AT MOST 1048576: true; the input reads as it did. -/
def rulesReadUptoRow : OpenClaim := { program := "ytiolnmfaeenlmaagreatdoor", sum := "fff5757be43a604d161e9890d767b897df9e6e3adceb449be1f1206379fc106f", func := "fleuron/fleuronlaw4.RulesRead", spec := "rulesRead", inPlace := ["internal/abi.NoEscape", "internal/bytealg.IndexByteString", "internal/bytealg.IndexString"], unfollowed := true, recurses := true, named := ["unicode/utf8.first", "unicode/utf8.acceptRanges", "internal/bytealg.MaxLen"], apart := false, laid := [("unicode/utf8.acceptRanges", laid_unicode_utf8_acceptRanges), ("unicode/utf8.first", laid_unicode_utf8_first)], narrowed := true }
def RulesReadUptoSaid : Prop := rulesReadUptoRow.holds Tryz.pinned (OpenSpec.upto rulesReadSpec)

/-- 'fleuronlaw4.RulesEach', WHERE WHAT IT READS IS OF BULK AT MOST 1048576: true; the input reads as it did. -/
def rulesEachUptoRow : OpenClaim := { program := "ytiolnmfaeenlmaagreatdoor", sum := "fff5757be43a604d161e9890d767b897df9e6e3adceb449be1f1206379fc106f", func := "fleuron/fleuronlaw4.RulesEach", spec := "rulesEach", inPlace := ["internal/abi.NoEscape", "internal/bytealg.IndexByteString", "internal/bytealg.IndexString"], unfollowed := true, recurses := true, named := ["unicode/utf8.first", "unicode/utf8.acceptRanges", "internal/bytealg.MaxLen"], apart := false, laid := [("unicode/utf8.acceptRanges", laid_unicode_utf8_acceptRanges), ("unicode/utf8.first", laid_unicode_utf8_first)], narrowed := true }
def RulesEachUptoSaid : Prop := rulesEachUptoRow.holds Tryz.pinned (OpenSpec.upto rulesEachSpec)

/-- 'fleuronlaw4.RulesLimits', WHERE WHAT IT READS IS OF BULK AT MOST 1048576: true; the input reads as it did. -/
def rulesLimitsUptoRow : OpenClaim := { program := "ytiolnmfaeenlmaagreatdoor", sum := "fff5757be43a604d161e9890d767b897df9e6e3adceb449be1f1206379fc106f", func := "fleuron/fleuronlaw4.RulesLimits", spec := "rulesLimits", inPlace := ["internal/abi.NoEscape", "internal/bytealg.IndexByteString", "internal/bytealg.IndexString"], unfollowed := true, recurses := true, named := ["unicode/utf8.first", "unicode/utf8.acceptRanges", "internal/bytealg.MaxLen"], apart := false, laid := [("unicode/utf8.acceptRanges", laid_unicode_utf8_acceptRanges), ("unicode/utf8.first", laid_unicode_utf8_first)], narrowed := true }
def RulesLimitsUptoSaid : Prop := rulesLimitsUptoRow.holds Tryz.pinned (OpenSpec.upto rulesLimitsSpec)

/-- 'fleuronlaw4.RulesImportant', WHERE WHAT IT READS IS OF BULK AT MOST 1048576: true; the input reads as it did. -/
def rulesImportantUptoRow : OpenClaim := { program := "ytiolnmfaeenlmaagreatdoor", sum := "fff5757be43a604d161e9890d767b897df9e6e3adceb449be1f1206379fc106f", func := "fleuron/fleuronlaw4.RulesImportant", spec := "rulesImportant", inPlace := ["internal/abi.NoEscape", "internal/bytealg.IndexByteString", "internal/bytealg.IndexString"], unfollowed := true, recurses := true, named := ["unicode/utf8.first", "unicode/utf8.acceptRanges", "internal/bytealg.MaxLen"], apart := false, laid := [("unicode/utf8.acceptRanges", laid_unicode_utf8_acceptRanges), ("unicode/utf8.first", laid_unicode_utf8_first)], narrowed := true }
def RulesImportantUptoSaid : Prop := rulesImportantUptoRow.holds Tryz.pinned (OpenSpec.upto rulesImportantSpec)

/-- 'fleuronlaw4.RulesAts', WHERE WHAT IT READS IS OF BULK AT MOST 1048576: true; the input reads as it did. -/
def rulesAtsUptoRow : OpenClaim := { program := "ytiolnmfaeenlmaagreatdoor", sum := "fff5757be43a604d161e9890d767b897df9e6e3adceb449be1f1206379fc106f", func := "fleuron/fleuronlaw4.RulesAts", spec := "rulesAts", inPlace := ["internal/abi.NoEscape", "internal/bytealg.IndexByteString", "internal/bytealg.IndexString"], unfollowed := true, recurses := true, named := ["unicode/utf8.first", "unicode/utf8.acceptRanges", "internal/bytealg.MaxLen"], apart := false, laid := [("unicode/utf8.acceptRanges", laid_unicode_utf8_acceptRanges), ("unicode/utf8.first", laid_unicode_utf8_first)], narrowed := true }
def RulesAtsUptoSaid : Prop := rulesAtsUptoRow.holds Tryz.pinned (OpenSpec.upto rulesAtsSpec)

/-- 'fleuronlaw4.RulesDecls', WHERE WHAT IT READS IS OF BULK AT MOST 1048576: true; the input reads as it did. -/
def rulesDeclsUptoRow : OpenClaim := { program := "ytiolnmfaeenlmaagreatdoor", sum := "fff5757be43a604d161e9890d767b897df9e6e3adceb449be1f1206379fc106f", func := "fleuron/fleuronlaw4.RulesDecls", spec := "rulesDecls", inPlace := ["internal/abi.NoEscape", "internal/bytealg.IndexByteString", "internal/bytealg.IndexString"], unfollowed := true, recurses := true, named := ["unicode/utf8.first", "unicode/utf8.acceptRanges", "internal/bytealg.MaxLen"], apart := false, laid := [("unicode/utf8.acceptRanges", laid_unicode_utf8_acceptRanges), ("unicode/utf8.first", laid_unicode_utf8_first)], narrowed := true }
def RulesDeclsUptoSaid : Prop := rulesDeclsUptoRow.holds Tryz.pinned (OpenSpec.upto rulesDeclsSpec)

/-- 'fleuronlaw21.AgentSays', WHERE WHAT IT READS IS OF BULK AT MOST 1048576: true; the input reads as it did. -/
def agentSaysUptoRow : OpenClaim := { program := "ytiolnmfaeenlmaagreatdoor", sum := "fff5757be43a604d161e9890d767b897df9e6e3adceb449be1f1206379fc106f", func := "fleuron/fleuronlaw21.AgentSays", spec := "agentSays", inPlace := ["internal/abi.NoEscape", "internal/bytealg.IndexByteString", "internal/bytealg.IndexString"], unfollowed := true, recurses := true, named := ["unicode/utf8.first", "unicode/utf8.acceptRanges", "internal/bytealg.MaxLen"], apart := false, laid := [("unicode/utf8.acceptRanges", laid_unicode_utf8_acceptRanges), ("unicode/utf8.first", laid_unicode_utf8_first)], narrowed := true }
def AgentSaysUptoSaid : Prop := agentSaysUptoRow.holds Tryz.pinned (OpenSpec.upto agentSaysSpec)

/-- 'fleuronlaw21.AgentShows', WHERE WHAT IT READS IS OF BULK AT MOST 1048576: true; the input reads as it did. -/
def agentShowsUptoRow : OpenClaim := { program := "ytiolnmfaeenlmaagreatdoor", sum := "fff5757be43a604d161e9890d767b897df9e6e3adceb449be1f1206379fc106f", func := "fleuron/fleuronlaw21.AgentShows", spec := "agentShows", inPlace := ["internal/abi.NoEscape", "internal/bytealg.IndexByteString", "internal/bytealg.IndexString"], unfollowed := true, recurses := true, named := ["unicode/utf8.first", "unicode/utf8.acceptRanges", "internal/bytealg.MaxLen"], apart := false, laid := [("unicode/utf8.acceptRanges", laid_unicode_utf8_acceptRanges), ("unicode/utf8.first", laid_unicode_utf8_first)], narrowed := true }
def AgentShowsUptoSaid : Prop := agentShowsUptoRow.holds Tryz.pinned (OpenSpec.upto agentShowsSpec)

end Rows
end Go.Proofs.YtiolnmfaeenlmaaGreatDoor
