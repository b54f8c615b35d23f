/-
  NARROWER THAN 'FOR EVERY INPUT', by the rows' own cells (each row's printed sentence says how): TokenTells: laid · TokenJoins: laid · TokenNames: laid · TokenNumbers: laid · TokenStrings: laid · TokenURLs: laid · TokenComments: laid · TokenSigns: laid · TokenHashes: laid.
  DERIVED. THE GIVEN ROWS OF THIS SEAT. 9 by the template 'for every input the law returns true; each argument reads behind the call as it read before'; 0 by the template 'total and deterministic' (their statements: YtbjinibmkkmhkaaDoorTotals.lean).
  GIVEN WITH THE SEED: the statements are not yours to turn. If you find one false, say at which input.
  Laid BY PROGRAM, IN A SANDBOX (cutbox-rows.mjs): the forced cells as the released guide's own fill.sh prints them over the translation 820c3c7ed9d6345d… (all of the seat's roots in one cut). By AI agents, Wed Nov 11 2026. No macro, syntax, notation, axiom, sorry.
-/
import Derived.Test.YtbjinibmkkmhkaaDoorChecked
import GoSem.PinnedTables
import GoSem.Claim
import GoSem.ClaimJoined
import GoSem.ClaimMapViews
import Derived.JoinedTies
import Derived.KernelRfl
namespace Go.Proofs.YtbjinibmkkmhkaaDoor
/- THE CELL 'sum', in the pinned program and in every row, IS THE sha256 OF THE DUMP (.gsa) THAT YtbjinibmkkmhkaaDoorProg.lean LOADS. Nothing in Lean hashes anything: it is a label: what it is worth is what the hold of that sum in a sandbox is worth. -/
noncomputable def Tryd.pinned : Pinned := { name := "ytbjinibmkkmhkaadoor", sum := "820c3c7ed9d6345dc4d92a00e8eb735cec22989db16d068daaf167d6b4bdbe3e", checked := Tryd.checked }
namespace Rows
def none {H : Type} : Left H := { results := [], args := [] }

/- WHAT THE LISTED PACKAGE-LEVEL VARIABLES READ AS WHEN THE CALL BEGINS. Each datum BY PROGRAM (the guide's laid-datum.mjs) off the statement by which the dump's own 'gosem.cut.vars' lays the variable. In a bare row this is a premise. The card (YtbjinibmkkmhkaaDoorCards.lean) ties it to the program's text. -/
def laid_unicode_utf8_acceptRanges {H : Type} : DataW H := .agg [.agg [.lit (.int .u8 128), .lit (.int .u8 191)], .agg [.lit (.int .u8 160), .lit (.int .u8 191)], .agg [.lit (.int .u8 128), .lit (.int .u8 159)], .agg [.lit (.int .u8 144), .lit (.int .u8 191)], .agg [.lit (.int .u8 128), .lit (.int .u8 143)], .agg [.lit (.int .u8 0), .lit (.int .u8 0)], .agg [.lit (.int .u8 0), .lit (.int .u8 0)], .agg [.lit (.int .u8 0), .lit (.int .u8 0)], .agg [.lit (.int .u8 0), .lit (.int .u8 0)], .agg [.lit (.int .u8 0), .lit (.int .u8 0)], .agg [.lit (.int .u8 0), .lit (.int .u8 0)], .agg [.lit (.int .u8 0), .lit (.int .u8 0)], .agg [.lit (.int .u8 0), .lit (.int .u8 0)], .agg [.lit (.int .u8 0), .lit (.int .u8 0)], .agg [.lit (.int .u8 0), .lit (.int .u8 0)], .agg [.lit (.int .u8 0), .lit (.int .u8 0)]]
/-- One of Go's own tables, pinned by name: the form's constant. -/
def laid_unicode_utf8_first : DataW Unit := Go.Pinned.utf8First

/-- 'fleuronlaw2.TokenTells': WHATEVER THE INPUT: true; the input reads as it did. -/
def tokenTellsSpec : ChangeSpec := { name := "tokenTells", fn := fun _ => fun
  | [d1, d2] => { results := [.lit (.bool true)], args := [d1, d2] }
  | _ => none }
def tokenTellsRow : OpenClaim := { program := "ytbjinibmkkmhkaadoor", sum := "820c3c7ed9d6345dc4d92a00e8eb735cec22989db16d068daaf167d6b4bdbe3e", func := "fleuron/fleuronlaw2.TokenTells", spec := "tokenTells", inPlace := ["internal/abi.NoEscape", "internal/bytealg.IndexByteString", "internal/bytealg.IndexString"], named := ["unicode/utf8.first", "unicode/utf8.acceptRanges", "internal/bytealg.MaxLen"], apart := false, laid := [("unicode/utf8.acceptRanges", laid_unicode_utf8_acceptRanges), ("unicode/utf8.first", laid_unicode_utf8_first)] }
def TokenTellsSaid : Prop := tokenTellsRow.holds Tryd.pinned (OpenSpec.ofChange tokenTellsSpec)

/-- ITS FALSE NEIGHBOUR: 'it returns false'. Refute it at one input. -/
def tokenTellsWrong : ChangeSpec := { name := "tokenTells", fn := fun _ => fun
  | [d1, d2] => { results := [.lit (.bool false)], args := [d1, d2] }
  | _ => none }
def TokenTellsWrongFalsely : Prop := tokenTellsRow.holds Tryd.pinned (OpenSpec.ofChange tokenTellsWrong)

/-- 'fleuronlaw2.TokenJoins': WHATEVER THE INPUT: true; the input reads as it did. -/
def tokenJoinsSpec : ChangeSpec := { name := "tokenJoins", fn := fun _ => fun
  | [d1, d2] => { results := [.lit (.bool true)], args := [d1, d2] }
  | _ => none }
def tokenJoinsRow : OpenClaim := { program := "ytbjinibmkkmhkaadoor", sum := "820c3c7ed9d6345dc4d92a00e8eb735cec22989db16d068daaf167d6b4bdbe3e", func := "fleuron/fleuronlaw2.TokenJoins", spec := "tokenJoins", inPlace := ["internal/abi.NoEscape", "internal/bytealg.IndexByteString", "internal/bytealg.IndexString"], named := ["unicode/utf8.first", "unicode/utf8.acceptRanges", "internal/bytealg.MaxLen"], apart := false, laid := [("unicode/utf8.acceptRanges", laid_unicode_utf8_acceptRanges), ("unicode/utf8.first", laid_unicode_utf8_first)] }
def TokenJoinsSaid : Prop := tokenJoinsRow.holds Tryd.pinned (OpenSpec.ofChange tokenJoinsSpec)

/-- ITS FALSE NEIGHBOUR: 'it returns false'. Refute it at one input. -/
def tokenJoinsWrong : ChangeSpec := { name := "tokenJoins", fn := fun _ => fun
  | [d1, d2] => { results := [.lit (.bool false)], args := [d1, d2] }
  | _ => none }
def TokenJoinsWrongFalsely : Prop := tokenJoinsRow.holds Tryd.pinned (OpenSpec.ofChange tokenJoinsWrong)

/-- 'fleuronlaw2.TokenNames': WHATEVER THE INPUT: true; the input reads as it did. -/
def tokenNamesSpec : ChangeSpec := { name := "tokenNames", fn := fun _ => fun
  | [d1, d2] => { results := [.lit (.bool true)], args := [d1, d2] }
  | _ => none }
def tokenNamesRow : OpenClaim := { program := "ytbjinibmkkmhkaadoor", sum := "820c3c7ed9d6345dc4d92a00e8eb735cec22989db16d068daaf167d6b4bdbe3e", func := "fleuron/fleuronlaw2.TokenNames", spec := "tokenNames", inPlace := ["internal/abi.NoEscape", "internal/bytealg.IndexByteString", "internal/bytealg.IndexString"], named := ["unicode/utf8.first", "unicode/utf8.acceptRanges", "internal/bytealg.MaxLen"], apart := false, laid := [("unicode/utf8.acceptRanges", laid_unicode_utf8_acceptRanges), ("unicode/utf8.first", laid_unicode_utf8_first)] }
def TokenNamesSaid : Prop := tokenNamesRow.holds Tryd.pinned (OpenSpec.ofChange tokenNamesSpec)

/-- ITS FALSE NEIGHBOUR: 'it returns false'. Refute it at one input. -/
def tokenNamesWrong : ChangeSpec := { name := "tokenNames", fn := fun _ => fun
  | [d1, d2] => { results := [.lit (.bool false)], args := [d1, d2] }
  | _ => none }
def TokenNamesWrongFalsely : Prop := tokenNamesRow.holds Tryd.pinned (OpenSpec.ofChange tokenNamesWrong)

/-- 'fleuronlaw2.TokenNumbers': WHATEVER THE INPUT: true; the input reads as it did. -/
def tokenNumbersSpec : ChangeSpec := { name := "tokenNumbers", fn := fun _ => fun
  | [d1, d2, d3] => { results := [.lit (.bool true)], args := [d1, d2, d3] }
  | _ => none }
def tokenNumbersRow : OpenClaim := { program := "ytbjinibmkkmhkaadoor", sum := "820c3c7ed9d6345dc4d92a00e8eb735cec22989db16d068daaf167d6b4bdbe3e", func := "fleuron/fleuronlaw2.TokenNumbers", spec := "tokenNumbers", inPlace := ["internal/bytealg.IndexByteString", "internal/bytealg.IndexString", "internal/abi.NoEscape"], named := ["unicode/utf8.first", "unicode/utf8.acceptRanges", "internal/bytealg.MaxLen"], apart := false, laid := [("unicode/utf8.acceptRanges", laid_unicode_utf8_acceptRanges), ("unicode/utf8.first", laid_unicode_utf8_first)] }
def TokenNumbersSaid : Prop := tokenNumbersRow.holds Tryd.pinned (OpenSpec.ofChange tokenNumbersSpec)

/-- ITS FALSE NEIGHBOUR: 'it returns false'. Refute it at one input. -/
def tokenNumbersWrong : ChangeSpec := { name := "tokenNumbers", fn := fun _ => fun
  | [d1, d2, d3] => { results := [.lit (.bool false)], args := [d1, d2, d3] }
  | _ => none }
def TokenNumbersWrongFalsely : Prop := tokenNumbersRow.holds Tryd.pinned (OpenSpec.ofChange tokenNumbersWrong)

/-- 'fleuronlaw2.TokenStrings': WHATEVER THE INPUT: true; the input reads as it did. -/
def tokenStringsSpec : ChangeSpec := { name := "tokenStrings", fn := fun _ => fun
  | [d1, d2, d3] => { results := [.lit (.bool true)], args := [d1, d2, d3] }
  | _ => none }
def tokenStringsRow : OpenClaim := { program := "ytbjinibmkkmhkaadoor", sum := "820c3c7ed9d6345dc4d92a00e8eb735cec22989db16d068daaf167d6b4bdbe3e", func := "fleuron/fleuronlaw2.TokenStrings", spec := "tokenStrings", inPlace := ["internal/abi.NoEscape", "internal/bytealg.IndexByteString", "internal/bytealg.IndexString"], named := ["unicode/utf8.first", "unicode/utf8.acceptRanges", "internal/bytealg.MaxLen"], apart := false, laid := [("unicode/utf8.acceptRanges", laid_unicode_utf8_acceptRanges), ("unicode/utf8.first", laid_unicode_utf8_first)] }
def TokenStringsSaid : Prop := tokenStringsRow.holds Tryd.pinned (OpenSpec.ofChange tokenStringsSpec)

/-- ITS FALSE NEIGHBOUR: 'it returns false'. Refute it at one input. -/
def tokenStringsWrong : ChangeSpec := { name := "tokenStrings", fn := fun _ => fun
  | [d1, d2, d3] => { results := [.lit (.bool false)], args := [d1, d2, d3] }
  | _ => none }
def TokenStringsWrongFalsely : Prop := tokenStringsRow.holds Tryd.pinned (OpenSpec.ofChange tokenStringsWrong)

/-- 'fleuronlaw2.TokenURLs': WHATEVER THE INPUT: true; the input reads as it did. -/
def tokenURLsSpec : ChangeSpec := { name := "tokenURLs", fn := fun _ => fun
  | [d1, d2, d3] => { results := [.lit (.bool true)], args := [d1, d2, d3] }
  | _ => none }
def tokenURLsRow : OpenClaim := { program := "ytbjinibmkkmhkaadoor", sum := "820c3c7ed9d6345dc4d92a00e8eb735cec22989db16d068daaf167d6b4bdbe3e", func := "fleuron/fleuronlaw2.TokenURLs", spec := "tokenURLs", inPlace := ["internal/abi.NoEscape", "internal/bytealg.IndexByteString", "internal/bytealg.IndexString"], named := ["unicode/utf8.first", "unicode/utf8.acceptRanges", "internal/bytealg.MaxLen"], apart := false, laid := [("unicode/utf8.acceptRanges", laid_unicode_utf8_acceptRanges), ("unicode/utf8.first", laid_unicode_utf8_first)] }
def TokenURLsSaid : Prop := tokenURLsRow.holds Tryd.pinned (OpenSpec.ofChange tokenURLsSpec)

/-- ITS FALSE NEIGHBOUR: 'it returns false'. Refute it at one input. -/
def tokenURLsWrong : ChangeSpec := { name := "tokenURLs", fn := fun _ => fun
  | [d1, d2, d3] => { results := [.lit (.bool false)], args := [d1, d2, d3] }
  | _ => none }
def TokenURLsWrongFalsely : Prop := tokenURLsRow.holds Tryd.pinned (OpenSpec.ofChange tokenURLsWrong)

/-- 'fleuronlaw2.TokenComments': WHATEVER THE INPUT: true; the input reads as it did. -/
def tokenCommentsSpec : ChangeSpec := { name := "tokenComments", fn := fun _ => fun
  | [d1, d2] => { results := [.lit (.bool true)], args := [d1, d2] }
  | _ => none }
def tokenCommentsRow : OpenClaim := { program := "ytbjinibmkkmhkaadoor", sum := "820c3c7ed9d6345dc4d92a00e8eb735cec22989db16d068daaf167d6b4bdbe3e", func := "fleuron/fleuronlaw2.TokenComments", spec := "tokenComments", inPlace := ["internal/abi.NoEscape", "internal/bytealg.IndexByteString", "internal/bytealg.IndexString"], named := ["unicode/utf8.first", "unicode/utf8.acceptRanges", "internal/bytealg.MaxLen"], apart := false, laid := [("unicode/utf8.acceptRanges", laid_unicode_utf8_acceptRanges), ("unicode/utf8.first", laid_unicode_utf8_first)] }
def TokenCommentsSaid : Prop := tokenCommentsRow.holds Tryd.pinned (OpenSpec.ofChange tokenCommentsSpec)

/-- ITS FALSE NEIGHBOUR: 'it returns false'. Refute it at one input. -/
def tokenCommentsWrong : ChangeSpec := { name := "tokenComments", fn := fun _ => fun
  | [d1, d2] => { results := [.lit (.bool false)], args := [d1, d2] }
  | _ => none }
def TokenCommentsWrongFalsely : Prop := tokenCommentsRow.holds Tryd.pinned (OpenSpec.ofChange tokenCommentsWrong)

/-- 'fleuronlaw2.TokenSigns': WHATEVER THE INPUT: true; the input reads as it did. -/
def tokenSignsSpec : ChangeSpec := { name := "tokenSigns", fn := fun _ => fun
  | [d] => { results := [.lit (.bool true)], args := [d] }
  | _ => none }
def tokenSignsRow : OpenClaim := { program := "ytbjinibmkkmhkaadoor", sum := "820c3c7ed9d6345dc4d92a00e8eb735cec22989db16d068daaf167d6b4bdbe3e", func := "fleuron/fleuronlaw2.TokenSigns", spec := "tokenSigns", inPlace := ["internal/abi.NoEscape", "internal/bytealg.IndexByteString", "internal/bytealg.IndexString"], named := ["unicode/utf8.first", "unicode/utf8.acceptRanges", "internal/bytealg.MaxLen"], apart := false, laid := [("unicode/utf8.acceptRanges", laid_unicode_utf8_acceptRanges), ("unicode/utf8.first", laid_unicode_utf8_first)] }
def TokenSignsSaid : Prop := tokenSignsRow.holds Tryd.pinned (OpenSpec.ofChange tokenSignsSpec)

/-- ITS FALSE NEIGHBOUR: 'it returns false'. Refute it at one input. -/
def tokenSignsWrong : ChangeSpec := { name := "tokenSigns", fn := fun _ => fun
  | [d] => { results := [.lit (.bool false)], args := [d] }
  | _ => none }
def TokenSignsWrongFalsely : Prop := tokenSignsRow.holds Tryd.pinned (OpenSpec.ofChange tokenSignsWrong)

/-- 'fleuronlaw2.TokenHashes': WHATEVER THE INPUT: true; the input reads as it did. -/
def tokenHashesSpec : ChangeSpec := { name := "tokenHashes", fn := fun _ => fun
  | [d] => { results := [.lit (.bool true)], args := [d] }
  | _ => none }
def tokenHashesRow : OpenClaim := { program := "ytbjinibmkkmhkaadoor", sum := "820c3c7ed9d6345dc4d92a00e8eb735cec22989db16d068daaf167d6b4bdbe3e", func := "fleuron/fleuronlaw2.TokenHashes", spec := "tokenHashes", inPlace := ["internal/abi.NoEscape", "internal/bytealg.IndexByteString", "internal/bytealg.IndexString"], named := ["unicode/utf8.first", "unicode/utf8.acceptRanges", "internal/bytealg.MaxLen"], apart := false, laid := [("unicode/utf8.acceptRanges", laid_unicode_utf8_acceptRanges), ("unicode/utf8.first", laid_unicode_utf8_first)] }
def TokenHashesSaid : Prop := tokenHashesRow.holds Tryd.pinned (OpenSpec.ofChange tokenHashesSpec)

/-- ITS FALSE NEIGHBOUR: 'it returns false'. Refute it at one input. -/
def tokenHashesWrong : ChangeSpec := { name := "tokenHashes", fn := fun _ => fun
  | [d] => { results := [.lit (.bool false)], args := [d] }
  | _ => none }
def TokenHashesWrongFalsely : Prop := tokenHashesRow.holds Tryd.pinned (OpenSpec.ofChange tokenHashesWrong)

/- THE SECOND FORM. 'bulk': how many values and letters a reading holds, each counted each time it is reached (what is shared counts as often as it is met; a slice's spare places count too). A statement '..UptoSaid' is the law's where the arguments, and the package variables that the reading takes, are together of bulk at most 1048576: NARROWER than '..Said'. Prove '..Said' where nothing that the law and all that it calls make is longer than what came in: it says more and counts as full. Else prove '..UptoSaid'. A law counts once. -/
mutual
def uptoBulk {H : Type} : DataW H → Nat
  | .lit (.string bytes) => bytes.length + 1
  | .lit _ => 1
  | .nil => 1
  | .ptr d => uptoBulk d + 1
  | .slice elems spare => uptoBulkAll elems + uptoBulkAll spare + 1
  | .agg parts => uptoBulkAll parts + 1
  | .iface _ d => uptoBulk d + 1
  | .map entries => uptoBulkEntries entries + 1
  | .held _ => 1
def uptoBulkAll {H : Type} : List (DataW H) → Nat
  | [] => 0
  | d :: r => uptoBulk d + uptoBulkAll r
def uptoBulkEntries {H : Type} : List (Lit × DataW H) → Nat
  | [] => 0
  | x :: r => uptoBulkEntry x + uptoBulkEntries r
def uptoBulkEntry {H : Type} : Lit × DataW H → Nat
  | (.string bytes, d) => bytes.length + uptoBulk d + 1
  | (_, d) => uptoBulk d + 1
 end
def uptoSmall : (H : Type) → List (DataW H) → Bool := fun _ ds => decide (uptoBulkAll ds ≤ 1048576)
def OpenSpec.upto (s : _root_.Go.ChangeSpec) : _root_.Go.OpenSpec := { _root_.Go.OpenSpec.ofChange s with cond := some uptoSmall }

/-- 'fleuronlaw2.TokenTells', WHERE WHAT IT READS IS OF BULK AT MOST 1048576: true; the input reads as it did. -/
def tokenTellsUptoRow : OpenClaim := { program := "ytbjinibmkkmhkaadoor", sum := "820c3c7ed9d6345dc4d92a00e8eb735cec22989db16d068daaf167d6b4bdbe3e", func := "fleuron/fleuronlaw2.TokenTells", spec := "tokenTells", inPlace := ["internal/abi.NoEscape", "internal/bytealg.IndexByteString", "internal/bytealg.IndexString"], named := ["unicode/utf8.first", "unicode/utf8.acceptRanges", "internal/bytealg.MaxLen"], apart := false, laid := [("unicode/utf8.acceptRanges", laid_unicode_utf8_acceptRanges), ("unicode/utf8.first", laid_unicode_utf8_first)], narrowed := true }
def TokenTellsUptoSaid : Prop := tokenTellsUptoRow.holds Tryd.pinned (OpenSpec.upto tokenTellsSpec)

/-- 'fleuronlaw2.TokenJoins', WHERE WHAT IT READS IS OF BULK AT MOST 1048576: true; the input reads as it did. -/
def tokenJoinsUptoRow : OpenClaim := { program := "ytbjinibmkkmhkaadoor", sum := "820c3c7ed9d6345dc4d92a00e8eb735cec22989db16d068daaf167d6b4bdbe3e", func := "fleuron/fleuronlaw2.TokenJoins", spec := "tokenJoins", inPlace := ["internal/abi.NoEscape", "internal/bytealg.IndexByteString", "internal/bytealg.IndexString"], named := ["unicode/utf8.first", "unicode/utf8.acceptRanges", "internal/bytealg.MaxLen"], apart := false, laid := [("unicode/utf8.acceptRanges", laid_unicode_utf8_acceptRanges), ("unicode/utf8.first", laid_unicode_utf8_first)], narrowed := true }
def TokenJoinsUptoSaid : Prop := tokenJoinsUptoRow.holds Tryd.pinned (OpenSpec.upto tokenJoinsSpec)

/-- 'fleuronlaw2.TokenNames', WHERE WHAT IT READS IS OF BULK AT MOST 1048576: true; the input reads as it did. -/
def tokenNamesUptoRow : OpenClaim := { program := "ytbjinibmkkmhkaadoor", sum := "820c3c7ed9d6345dc4d92a00e8eb735cec22989db16d068daaf167d6b4bdbe3e", func := "fleuron/fleuronlaw2.TokenNames", spec := "tokenNames", inPlace := ["internal/abi.NoEscape", "internal/bytealg.IndexByteString", "internal/bytealg.IndexString"], named := ["unicode/utf8.first", "unicode/utf8.acceptRanges", "internal/bytealg.MaxLen"], apart := false, laid := [("unicode/utf8.acceptRanges", laid_unicode_utf8_acceptRanges), ("unicode/utf8.first", laid_unicode_utf8_first)], narrowed := true }
def TokenNamesUptoSaid : Prop := tokenNamesUptoRow.holds Tryd.pinned (OpenSpec.upto tokenNamesSpec)

/-- 'fleuronlaw2.TokenNumbers', WHERE WHAT IT READS IS OF BULK AT MOST 1048576: true; the input reads as it did. -/
def tokenNumbersUptoRow : OpenClaim := { program := "ytbjinibmkkmhkaadoor", sum := "820c3c7ed9d6345dc4d92a00e8eb735cec22989db16d068daaf167d6b4bdbe3e", func := "fleuron/fleuronlaw2.TokenNumbers", spec := "tokenNumbers", inPlace := ["internal/bytealg.IndexByteString", "internal/bytealg.IndexString", "internal/abi.NoEscape"], named := ["unicode/utf8.first", "unicode/utf8.acceptRanges", "internal/bytealg.MaxLen"], apart := false, laid := [("unicode/utf8.acceptRanges", laid_unicode_utf8_acceptRanges), ("unicode/utf8.first", laid_unicode_utf8_first)], narrowed := true }
def TokenNumbersUptoSaid : Prop := tokenNumbersUptoRow.holds Tryd.pinned (OpenSpec.upto tokenNumbersSpec)

/-- 'fleuronlaw2.TokenStrings', WHERE WHAT IT READS IS OF BULK AT MOST 1048576: true; the input reads as it did. -/
def tokenStringsUptoRow : OpenClaim := { program := "ytbjinibmkkmhkaadoor", sum := "820c3c7ed9d6345dc4d92a00e8eb735cec22989db16d068daaf167d6b4bdbe3e", func := "fleuron/fleuronlaw2.TokenStrings", spec := "tokenStrings", inPlace := ["internal/abi.NoEscape", "internal/bytealg.IndexByteString", "internal/bytealg.IndexString"], named := ["unicode/utf8.first", "unicode/utf8.acceptRanges", "internal/bytealg.MaxLen"], apart := false, laid := [("unicode/utf8.acceptRanges", laid_unicode_utf8_acceptRanges), ("unicode/utf8.first", laid_unicode_utf8_first)], narrowed := true }
def TokenStringsUptoSaid : Prop := tokenStringsUptoRow.holds Tryd.pinned (OpenSpec.upto tokenStringsSpec)

/-- 'fleuronlaw2.TokenURLs', WHERE WHAT IT READS IS OF BULK AT MOST 1048576: true; the input reads as it did. -/
def tokenURLsUptoRow : OpenClaim := { program := "ytbjinibmkkmhkaadoor", sum := "820c3c7ed9d6345dc4d92a00e8eb735cec22989db16d068daaf167d6b4bdbe3e", func := "fleuron/fleuronlaw2.TokenURLs", spec := "tokenURLs", inPlace := ["internal/abi.NoEscape", "internal/bytealg.IndexByteString", "internal/bytealg.IndexString"], named := ["unicode/utf8.first", "unicode/utf8.acceptRanges", "internal/bytealg.MaxLen"], apart := false, laid := [("unicode/utf8.acceptRanges", laid_unicode_utf8_acceptRanges), ("unicode/utf8.first", laid_unicode_utf8_first)], narrowed := true }
def TokenURLsUptoSaid : Prop := tokenURLsUptoRow.holds Tryd.pinned (OpenSpec.upto tokenURLsSpec)

/-- 'fleuronlaw2.TokenComments', WHERE WHAT IT READS IS OF BULK AT MOST 1048576: true; the input reads as it did. -/
def tokenCommentsUptoRow : OpenClaim := { program := "ytbjinibmkkmhkaadoor", sum := "820c3c7ed9d6345dc4d92a00e8eb735cec22989db16d068daaf167d6b4bdbe3e", func := "fleuron/fleuronlaw2.TokenComments", spec := "tokenComments", inPlace := ["internal/abi.NoEscape", "internal/bytealg.IndexByteString", "internal/bytealg.IndexString"], named := ["unicode/utf8.first", "unicode/utf8.acceptRanges", "internal/bytealg.MaxLen"], apart := false, laid := [("unicode/utf8.acceptRanges", laid_unicode_utf8_acceptRanges), ("unicode/utf8.first", laid_unicode_utf8_first)], narrowed := true }
def TokenCommentsUptoSaid : Prop := tokenCommentsUptoRow.holds Tryd.pinned (OpenSpec.upto tokenCommentsSpec)

/-- 'fleuronlaw2.TokenSigns', WHERE WHAT IT READS IS OF BULK AT MOST 1048576: true; the input reads as it did. -/
def tokenSignsUptoRow : OpenClaim := { program := "ytbjinibmkkmhkaadoor", sum := "820c3c7ed9d6345dc4d92a00e8eb735cec22989db16d068daaf167d6b4bdbe3e", func := "fleuron/fleuronlaw2.TokenSigns", spec := "tokenSigns", inPlace := ["internal/abi.NoEscape", "internal/bytealg.IndexByteString", "internal/bytealg.IndexString"], named := ["unicode/utf8.first", "unicode/utf8.acceptRanges", "internal/bytealg.MaxLen"], apart := false, laid := [("unicode/utf8.acceptRanges", laid_unicode_utf8_acceptRanges), ("unicode/utf8.first", laid_unicode_utf8_first)], narrowed := true }
def TokenSignsUptoSaid : Prop := tokenSignsUptoRow.holds Tryd.pinned (OpenSpec.upto tokenSignsSpec)

/-- 'fleuronlaw2.TokenHashes', WHERE WHAT IT READS IS OF BULK AT MOST 1048576: true; the input reads as it did. -/
def tokenHashesUptoRow : OpenClaim := { program := "ytbjinibmkkmhkaadoor", sum := "820c3c7ed9d6345dc4d92a00e8eb735cec22989db16d068daaf167d6b4bdbe3e", func := "fleuron/fleuronlaw2.TokenHashes", spec := "tokenHashes", inPlace := ["internal/abi.NoEscape", "internal/bytealg.IndexByteString", "internal/bytealg.IndexString"], named := ["unicode/utf8.first", "unicode/utf8.acceptRanges", "internal/bytealg.MaxLen"], apart := false, laid := [("unicode/utf8.acceptRanges", laid_unicode_utf8_acceptRanges), ("unicode/utf8.first", laid_unicode_utf8_first)], narrowed := true }
def TokenHashesUptoSaid : Prop := tokenHashesUptoRow.holds Tryd.pinned (OpenSpec.upto tokenHashesSpec)

end Rows
end Go.Proofs.YtbjinibmkkmhkaaDoor
