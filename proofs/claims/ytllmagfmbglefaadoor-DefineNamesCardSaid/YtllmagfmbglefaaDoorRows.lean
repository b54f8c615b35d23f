/-
  NARROWER THAN 'FOR EVERY INPUT', by the rows' own cells (each row's printed sentence says how): PropWides: laid · PropQuotes: laid · PropTakes: laid · DefineLast: laid · DefineSystems: laid · DefineNames: laid · DefineRanges: laid.
  DERIVED. THE GIVEN ROWS OF THIS SEAT. 7 by the template 'for every input the law returns true; each argument reads behind the call as it read before'; 0 by the template 'total and deterministic' (their statements: YtllmagfmbglefaaDoorTotals.lean).
  GIVEN WITH THE SEED: the statements are not yours to turn. If you find one false, say at which input.
  Laid BY PROGRAM, IN A SANDBOX (cutbox-rows.mjs): the forced cells as the released guide's own fill.sh prints them over the translation e2667bd6318ccc44… (all of the seat's roots in one cut). By AI agents, Wed Nov 11 2026. No macro, syntax, notation, axiom, sorry.
-/
import Derived.Test.YtllmagfmbglefaaDoorChecked
import GoSem.Claim
import GoSem.ClaimJoined
import GoSem.ClaimMapViews
import Derived.JoinedTies
import Derived.KernelRfl
namespace Go.Proofs.YtllmagfmbglefaaDoor
/- THE CELL 'sum', in the pinned program and in every row, IS THE sha256 OF THE DUMP (.gsa) THAT YtllmagfmbglefaaDoorProg.lean LOADS. Nothing in Lean hashes anything: it is a label: what it is worth is what the hold of that sum in a sandbox is worth. -/
noncomputable def Tryd.pinned : Pinned := { name := "ytllmagfmbglefaadoor", sum := "e2667bd6318ccc441e7ca372cbd78971c713b2c160189cff9de8982cb5fb35d3", checked := Tryd.checked }
namespace Rows
def none {H : Type} : Left H := { results := [], args := [] }

/- WHAT THE LISTED PACKAGE-LEVEL VARIABLES READ AS WHEN THE CALL BEGINS. Each datum BY PROGRAM (the guide's laid-datum.mjs) off the statement by which the dump's own 'gosem.cut.vars' lays the variable. In a bare row this is a premise. The card (YtllmagfmbglefaaDoorCards.lean) ties it to the program's text. -/
def laid_unicode_White_Space {H : Type} : DataW H := .ptr (.agg [.slice [.agg [.lit (.int .u16 9), .lit (.int .u16 13), .lit (.int .u16 1)], .agg [.lit (.int .u16 32), .lit (.int .u16 133), .lit (.int .u16 101)], .agg [.lit (.int .u16 160), .lit (.int .u16 5760), .lit (.int .u16 5600)], .agg [.lit (.int .u16 8192), .lit (.int .u16 8202), .lit (.int .u16 1)], .agg [.lit (.int .u16 8232), .lit (.int .u16 8233), .lit (.int .u16 1)], .agg [.lit (.int .u16 8239), .lit (.int .u16 8287), .lit (.int .u16 48)], .agg [.lit (.int .u16 12288), .lit (.int .u16 12288), .lit (.int .u16 1)]] [], .nil, .lit (.int .i64 2)])
def laid_strings_asciiSpace {H : Type} : DataW H := .agg [.lit (.int .u8 0), .lit (.int .u8 0), .lit (.int .u8 0), .lit (.int .u8 0), .lit (.int .u8 0), .lit (.int .u8 0), .lit (.int .u8 0), .lit (.int .u8 0), .lit (.int .u8 0), .lit (.int .u8 1), .lit (.int .u8 1), .lit (.int .u8 1), .lit (.int .u8 1), .lit (.int .u8 1), .lit (.int .u8 0), .lit (.int .u8 0), .lit (.int .u8 0), .lit (.int .u8 0), .lit (.int .u8 0), .lit (.int .u8 0), .lit (.int .u8 0), .lit (.int .u8 0), .lit (.int .u8 0), .lit (.int .u8 0), .lit (.int .u8 0), .lit (.int .u8 0), .lit (.int .u8 0), .lit (.int .u8 0), .lit (.int .u8 0), .lit (.int .u8 0), .lit (.int .u8 0), .lit (.int .u8 0), .lit (.int .u8 1), .lit (.int .u8 0), .lit (.int .u8 0), .lit (.int .u8 0), .lit (.int .u8 0), .lit (.int .u8 0), .lit (.int .u8 0), .lit (.int .u8 0), .lit (.int .u8 0), .lit (.int .u8 0), .lit (.int .u8 0), .lit (.int .u8 0), .lit (.int .u8 0), .lit (.int .u8 0), .lit (.int .u8 0), .lit (.int .u8 0), .lit (.int .u8 0), .lit (.int .u8 0), .lit (.int .u8 0), .lit (.int .u8 0), .lit (.int .u8 0), .lit (.int .u8 0), .lit (.int .u8 0), .lit (.int .u8 0), .lit (.int .u8 0), .lit (.int .u8 0), .lit (.int .u8 0), .lit (.int .u8 0), .lit (.int .u8 0), .lit (.int .u8 0), .lit (.int .u8 0), .lit (.int .u8 0), .lit (.int .u8 0), .lit (.int .u8 0), .lit (.int .u8 0), .lit (.int .u8 0), .lit (.int .u8 0), .lit (.int .u8 0), .lit (.int .u8 0), .lit (.int .u8 0), .lit (.int .u8 0), .lit (.int .u8 0), .lit (.int .u8 0), .lit (.int .u8 0), .lit (.int .u8 0), .lit (.int .u8 0), .lit (.int .u8 0), .lit (.int .u8 0), .lit (.int .u8 0), .lit (.int .u8 0), .lit (.int .u8 0), .lit (.int .u8 0), .lit (.int .u8 0), .lit (.int .u8 0), .lit (.int .u8 0), .lit (.int .u8 0), .lit (.int .u8 0), .lit (.int .u8 0), .lit (.int .u8 0), .lit (.int .u8 0), .lit (.int .u8 0), .lit (.int .u8 0), .lit (.int .u8 0), .lit (.int .u8 0), .lit (.int .u8 0), .lit (.int .u8 0), .lit (.int .u8 0), .lit (.int .u8 0), .lit (.int .u8 0), .lit (.int .u8 0), .lit (.int .u8 0), .lit (.int .u8 0), .lit (.int .u8 0), .lit (.int .u8 0), .lit (.int .u8 0), .lit (.int .u8 0), .lit (.int .u8 0), .lit (.int .u8 0), .lit (.int .u8 0), .lit (.int .u8 0), .lit (.int .u8 0), .lit (.int .u8 0), .lit (.int .u8 0), .lit (.int .u8 0), .lit (.int .u8 0), .lit (.int .u8 0), .lit (.int .u8 0), .lit (.int .u8 0), .lit (.int .u8 0), .lit (.int .u8 0), .lit (.int .u8 0), .lit (.int .u8 0), .lit (.int .u8 0), .lit (.int .u8 0), .lit (.int .u8 0), .lit (.int .u8 0), .lit (.int .u8 0), .lit (.int .u8 0), .lit (.int .u8 0), .lit (.int .u8 0), .lit (.int .u8 0), .lit (.int .u8 0), .lit (.int .u8 0), .lit (.int .u8 0), .lit (.int .u8 0), .lit (.int .u8 0), .lit (.int .u8 0), .lit (.int .u8 0), .lit (.int .u8 0), .lit (.int .u8 0), .lit (.int .u8 0), .lit (.int .u8 0), .lit (.int .u8 0), .lit (.int .u8 0), .lit (.int .u8 0), .lit (.int .u8 0), .lit (.int .u8 0), .lit (.int .u8 0), .lit (.int .u8 0), .lit (.int .u8 0), .lit (.int .u8 0), .lit (.int .u8 0), .lit (.int .u8 0), .lit (.int .u8 0), .lit (.int .u8 0), .lit (.int .u8 0), .lit (.int .u8 0), .lit (.int .u8 0), .lit (.int .u8 0), .lit (.int .u8 0), .lit (.int .u8 0), .lit (.int .u8 0), .lit (.int .u8 0), .lit (.int .u8 0), .lit (.int .u8 0), .lit (.int .u8 0), .lit (.int .u8 0), .lit (.int .u8 0), .lit (.int .u8 0), .lit (.int .u8 0), .lit (.int .u8 0), .lit (.int .u8 0), .lit (.int .u8 0), .lit (.int .u8 0), .lit (.int .u8 0), .lit (.int .u8 0), .lit (.int .u8 0), .lit (.int .u8 0), .lit (.int .u8 0), .lit (.int .u8 0), .lit (.int .u8 0), .lit (.int .u8 0), .lit (.int .u8 0), .lit (.int .u8 0), .lit (.int .u8 0), .lit (.int .u8 0), .lit (.int .u8 0), .lit (.int .u8 0), .lit (.int .u8 0), .lit (.int .u8 0), .lit (.int .u8 0), .lit (.int .u8 0), .lit (.int .u8 0), .lit (.int .u8 0), .lit (.int .u8 0), .lit (.int .u8 0), .lit (.int .u8 0), .lit (.int .u8 0), .lit (.int .u8 0), .lit (.int .u8 0), .lit (.int .u8 0), .lit (.int .u8 0), .lit (.int .u8 0), .lit (.int .u8 0), .lit (.int .u8 0), .lit (.int .u8 0), .lit (.int .u8 0), .lit (.int .u8 0), .lit (.int .u8 0), .lit (.int .u8 0), .lit (.int .u8 0), .lit (.int .u8 0), .lit (.int .u8 0), .lit (.int .u8 0), .lit (.int .u8 0), .lit (.int .u8 0), .lit (.int .u8 0), .lit (.int .u8 0), .lit (.int .u8 0), .lit (.int .u8 0), .lit (.int .u8 0), .lit (.int .u8 0), .lit (.int .u8 0), .lit (.int .u8 0), .lit (.int .u8 0), .lit (.int .u8 0), .lit (.int .u8 0), .lit (.int .u8 0), .lit (.int .u8 0), .lit (.int .u8 0), .lit (.int .u8 0), .lit (.int .u8 0), .lit (.int .u8 0), .lit (.int .u8 0), .lit (.int .u8 0), .lit (.int .u8 0), .lit (.int .u8 0), .lit (.int .u8 0), .lit (.int .u8 0), .lit (.int .u8 0), .lit (.int .u8 0), .lit (.int .u8 0), .lit (.int .u8 0), .lit (.int .u8 0), .lit (.int .u8 0), .lit (.int .u8 0), .lit (.int .u8 0), .lit (.int .u8 0), .lit (.int .u8 0), .lit (.int .u8 0), .lit (.int .u8 0), .lit (.int .u8 0), .lit (.int .u8 0), .lit (.int .u8 0)]

/-- 'fleuronlaw12.PropWides': WHATEVER THE INPUT: true; the input reads as it did. -/
def propWidesSpec : ChangeSpec := { name := "propWides", fn := fun _ => fun
  | [d1, d2, d3] => { results := [.lit (.bool true)], args := [d1, d2, d3] }
  | _ => none }
def propWidesRow : OpenClaim := { program := "ytllmagfmbglefaadoor", sum := "e2667bd6318ccc441e7ca372cbd78971c713b2c160189cff9de8982cb5fb35d3", func := "fleuron/fleuronlaw12.PropWides", spec := "propWides", inPlace := ["internal/abi.NoEscape"], unfollowed := true, recurses := true, named := ["strings.asciiSpace", "unicode.White_Space"], apart := false, laid := [("unicode.White_Space", laid_unicode_White_Space), ("strings.asciiSpace", laid_strings_asciiSpace)] }
def PropWidesSaid : Prop := propWidesRow.holds Tryd.pinned (OpenSpec.ofChange propWidesSpec)

/-- ITS FALSE NEIGHBOUR: 'it returns false'. Refute it at one input. -/
def propWidesWrong : ChangeSpec := { name := "propWides", fn := fun _ => fun
  | [d1, d2, d3] => { results := [.lit (.bool false)], args := [d1, d2, d3] }
  | _ => none }
def PropWidesWrongFalsely : Prop := propWidesRow.holds Tryd.pinned (OpenSpec.ofChange propWidesWrong)

/-- 'fleuronlaw12.PropQuotes': WHATEVER THE INPUT: true; the input reads as it did. -/
def propQuotesSpec : ChangeSpec := { name := "propQuotes", fn := fun _ => fun
  | [d1, d2] => { results := [.lit (.bool true)], args := [d1, d2] }
  | _ => none }
def propQuotesRow : OpenClaim := { program := "ytllmagfmbglefaadoor", sum := "e2667bd6318ccc441e7ca372cbd78971c713b2c160189cff9de8982cb5fb35d3", func := "fleuron/fleuronlaw12.PropQuotes", spec := "propQuotes", inPlace := ["internal/abi.NoEscape"], unfollowed := true, recurses := true, named := ["strings.asciiSpace", "unicode.White_Space"], apart := false, laid := [("unicode.White_Space", laid_unicode_White_Space), ("strings.asciiSpace", laid_strings_asciiSpace)] }
def PropQuotesSaid : Prop := propQuotesRow.holds Tryd.pinned (OpenSpec.ofChange propQuotesSpec)

/-- ITS FALSE NEIGHBOUR: 'it returns false'. Refute it at one input. -/
def propQuotesWrong : ChangeSpec := { name := "propQuotes", fn := fun _ => fun
  | [d1, d2] => { results := [.lit (.bool false)], args := [d1, d2] }
  | _ => none }
def PropQuotesWrongFalsely : Prop := propQuotesRow.holds Tryd.pinned (OpenSpec.ofChange propQuotesWrong)

/-- 'fleuronlaw12.PropTakes': WHATEVER THE INPUT: true; the input reads as it did. -/
def propTakesSpec : ChangeSpec := { name := "propTakes", fn := fun _ => fun
  | [d1, d2, d3] => { results := [.lit (.bool true)], args := [d1, d2, d3] }
  | _ => none }
def propTakesRow : OpenClaim := { program := "ytllmagfmbglefaadoor", sum := "e2667bd6318ccc441e7ca372cbd78971c713b2c160189cff9de8982cb5fb35d3", func := "fleuron/fleuronlaw12.PropTakes", spec := "propTakes", inPlace := ["internal/abi.NoEscape"], unfollowed := true, recurses := true, named := ["strings.asciiSpace", "unicode.White_Space"], apart := false, laid := [("unicode.White_Space", laid_unicode_White_Space), ("strings.asciiSpace", laid_strings_asciiSpace)] }
def PropTakesSaid : Prop := propTakesRow.holds Tryd.pinned (OpenSpec.ofChange propTakesSpec)

/-- ITS FALSE NEIGHBOUR: 'it returns false'. Refute it at one input. -/
def propTakesWrong : ChangeSpec := { name := "propTakes", fn := fun _ => fun
  | [d1, d2, d3] => { results := [.lit (.bool false)], args := [d1, d2, d3] }
  | _ => none }
def PropTakesWrongFalsely : Prop := propTakesRow.holds Tryd.pinned (OpenSpec.ofChange propTakesWrong)

/-- 'fleuronlaw10.DefineLast': WHATEVER THE INPUT: true; the input reads as it did. -/
def defineLastSpec : ChangeSpec := { name := "defineLast", fn := fun _ => fun
  | [d] => { results := [.lit (.bool true)], args := [d] }
  | _ => none }
def defineLastRow : OpenClaim := { program := "ytllmagfmbglefaadoor", sum := "e2667bd6318ccc441e7ca372cbd78971c713b2c160189cff9de8982cb5fb35d3", func := "fleuron/fleuronlaw10.DefineLast", spec := "defineLast", inPlace := ["internal/abi.NoEscape"], unfollowed := true, recurses := true, named := ["strings.asciiSpace", "unicode.White_Space"], apart := false, laid := [("unicode.White_Space", laid_unicode_White_Space), ("strings.asciiSpace", laid_strings_asciiSpace)] }
def DefineLastSaid : Prop := defineLastRow.holds Tryd.pinned (OpenSpec.ofChange defineLastSpec)

/-- ITS FALSE NEIGHBOUR: 'it returns false'. Refute it at one input. -/
def defineLastWrong : ChangeSpec := { name := "defineLast", fn := fun _ => fun
  | [d] => { results := [.lit (.bool false)], args := [d] }
  | _ => none }
def DefineLastWrongFalsely : Prop := defineLastRow.holds Tryd.pinned (OpenSpec.ofChange defineLastWrong)

/-- 'fleuronlaw10.DefineSystems': WHATEVER THE INPUT: true; the input reads as it did. -/
def defineSystemsSpec : ChangeSpec := { name := "defineSystems", fn := fun _ => fun
  | [d1, d2, d3] => { results := [.lit (.bool true)], args := [d1, d2, d3] }
  | _ => none }
def defineSystemsRow : OpenClaim := { program := "ytllmagfmbglefaadoor", sum := "e2667bd6318ccc441e7ca372cbd78971c713b2c160189cff9de8982cb5fb35d3", func := "fleuron/fleuronlaw10.DefineSystems", spec := "defineSystems", inPlace := ["internal/abi.NoEscape"], unfollowed := true, recurses := true, named := ["strings.asciiSpace", "unicode.White_Space"], apart := false, laid := [("unicode.White_Space", laid_unicode_White_Space), ("strings.asciiSpace", laid_strings_asciiSpace)] }
def DefineSystemsSaid : Prop := defineSystemsRow.holds Tryd.pinned (OpenSpec.ofChange defineSystemsSpec)

/-- ITS FALSE NEIGHBOUR: 'it returns false'. Refute it at one input. -/
def defineSystemsWrong : ChangeSpec := { name := "defineSystems", fn := fun _ => fun
  | [d1, d2, d3] => { results := [.lit (.bool false)], args := [d1, d2, d3] }
  | _ => none }
def DefineSystemsWrongFalsely : Prop := defineSystemsRow.holds Tryd.pinned (OpenSpec.ofChange defineSystemsWrong)

/-- 'fleuronlaw10.DefineNames': WHATEVER THE INPUT: true; the input reads as it did. -/
def defineNamesSpec : ChangeSpec := { name := "defineNames", fn := fun _ => fun
  | [d1, d2] => { results := [.lit (.bool true)], args := [d1, d2] }
  | _ => none }
def defineNamesRow : OpenClaim := { program := "ytllmagfmbglefaadoor", sum := "e2667bd6318ccc441e7ca372cbd78971c713b2c160189cff9de8982cb5fb35d3", func := "fleuron/fleuronlaw10.DefineNames", spec := "defineNames", inPlace := ["internal/abi.NoEscape"], unfollowed := true, recurses := true, named := ["strings.asciiSpace", "unicode.White_Space"], apart := false, laid := [("unicode.White_Space", laid_unicode_White_Space), ("strings.asciiSpace", laid_strings_asciiSpace)] }
def DefineNamesSaid : Prop := defineNamesRow.holds Tryd.pinned (OpenSpec.ofChange defineNamesSpec)

/-- ITS FALSE NEIGHBOUR: 'it returns false'. Refute it at one input. -/
def defineNamesWrong : ChangeSpec := { name := "defineNames", fn := fun _ => fun
  | [d1, d2] => { results := [.lit (.bool false)], args := [d1, d2] }
  | _ => none }
def DefineNamesWrongFalsely : Prop := defineNamesRow.holds Tryd.pinned (OpenSpec.ofChange defineNamesWrong)

/-- 'fleuronlaw10.DefineRanges': WHATEVER THE INPUT: true; the input reads as it did. -/
def defineRangesSpec : ChangeSpec := { name := "defineRanges", fn := fun _ => fun
  | [d1, d2, d3] => { results := [.lit (.bool true)], args := [d1, d2, d3] }
  | _ => none }
def defineRangesRow : OpenClaim := { program := "ytllmagfmbglefaadoor", sum := "e2667bd6318ccc441e7ca372cbd78971c713b2c160189cff9de8982cb5fb35d3", func := "fleuron/fleuronlaw10.DefineRanges", spec := "defineRanges", inPlace := ["internal/abi.NoEscape"], unfollowed := true, recurses := true, named := ["strings.asciiSpace", "unicode.White_Space"], apart := false, laid := [("unicode.White_Space", laid_unicode_White_Space), ("strings.asciiSpace", laid_strings_asciiSpace)] }
def DefineRangesSaid : Prop := defineRangesRow.holds Tryd.pinned (OpenSpec.ofChange defineRangesSpec)

/-- ITS FALSE NEIGHBOUR: 'it returns false'. Refute it at one input. -/
def defineRangesWrong : ChangeSpec := { name := "defineRanges", fn := fun _ => fun
  | [d1, d2, d3] => { results := [.lit (.bool false)], args := [d1, d2, d3] }
  | _ => none }
def DefineRangesWrongFalsely : Prop := defineRangesRow.holds Tryd.pinned (OpenSpec.ofChange defineRangesWrong)

/- THE SECOND FORM. 'bulk': how many values and letters a reading holds, each counted each time it is reached (what is shared counts as often as it is met; a slice's spare places count too). A statement '..UptoSaid' is the law's where the arguments, and the package variables that the reading takes, are together of bulk at most 1048576: NARROWER than '..Said'. Prove '..Said' where nothing that the law and all that it calls make is longer than what came in: it says more and counts as full. Else prove '..UptoSaid'. A law counts once. -/
mutual
def uptoBulk {H : Type} : DataW H → Nat
  | .lit (.string bytes) => bytes.length + 1
  | .lit _ => 1
  | .nil => 1
  | .ptr d => uptoBulk d + 1
  | .slice elems spare => uptoBulkAll elems + uptoBulkAll spare + 1
  | .agg parts => uptoBulkAll parts + 1
  | .iface _ d => uptoBulk d + 1
  | .map entries => uptoBulkEntries entries + 1
  | .held _ => 1
def uptoBulkAll {H : Type} : List (DataW H) → Nat
  | [] => 0
  | d :: r => uptoBulk d + uptoBulkAll r
def uptoBulkEntries {H : Type} : List (Lit × DataW H) → Nat
  | [] => 0
  | x :: r => uptoBulkEntry x + uptoBulkEntries r
def uptoBulkEntry {H : Type} : Lit × DataW H → Nat
  | (.string bytes, d) => bytes.length + uptoBulk d + 1
  | (_, d) => uptoBulk d + 1
 end
def uptoSmall : (H : Type) → List (DataW H) → Bool := fun _ ds => decide (uptoBulkAll ds ≤ 1048576)
def OpenSpec.upto (s : _root_.Go.ChangeSpec) : _root_.Go.OpenSpec := { _root_.Go.OpenSpec.ofChange s with cond := some uptoSmall }

/-- 'fleuronlaw12.PropWides', WHERE WHAT IT READS IS OF BULK AT MOST 1048576: true; the input reads as it did. -/
def propWidesUptoRow : OpenClaim := { program := "ytllmagfmbglefaadoor", sum := "e2667bd6318ccc441e7ca372cbd78971c713b2c160189cff9de8982cb5fb35d3", func := "fleuron/fleuronlaw12.PropWides", spec := "propWides", inPlace := ["internal/abi.NoEscape"], unfollowed := true, recurses := true, named := ["strings.asciiSpace", "unicode.White_Space"], apart := false, laid := [("unicode.White_Space", laid_unicode_White_Space), ("strings.asciiSpace", laid_strings_asciiSpace)], narrowed := true }
def PropWidesUptoSaid : Prop := propWidesUptoRow.holds Tryd.pinned (OpenSpec.upto propWidesSpec)

/-- 'fleuronlaw12.PropQuotes', WHERE WHAT IT READS IS OF BULK AT MOST 1048576: true; the input reads as it did. -/
def propQuotesUptoRow : OpenClaim := { program := "ytllmagfmbglefaadoor", sum := "e2667bd6318ccc441e7ca372cbd78971c713b2c160189cff9de8982cb5fb35d3", func := "fleuron/fleuronlaw12.PropQuotes", spec := "propQuotes", inPlace := ["internal/abi.NoEscape"], unfollowed := true, recurses := true, named := ["strings.asciiSpace", "unicode.White_Space"], apart := false, laid := [("unicode.White_Space", laid_unicode_White_Space), ("strings.asciiSpace", laid_strings_asciiSpace)], narrowed := true }
def PropQuotesUptoSaid : Prop := propQuotesUptoRow.holds Tryd.pinned (OpenSpec.upto propQuotesSpec)

/-- 'fleuronlaw12.PropTakes', WHERE WHAT IT READS IS OF BULK AT MOST 1048576: true; the input reads as it did. -/
def propTakesUptoRow : OpenClaim := { program := "ytllmagfmbglefaadoor", sum := "e2667bd6318ccc441e7ca372cbd78971c713b2c160189cff9de8982cb5fb35d3", func := "fleuron/fleuronlaw12.PropTakes", spec := "propTakes", inPlace := ["internal/abi.NoEscape"], unfollowed := true, recurses := true, named := ["strings.asciiSpace", "unicode.White_Space"], apart := false, laid := [("unicode.White_Space", laid_unicode_White_Space), ("strings.asciiSpace", laid_strings_asciiSpace)], narrowed := true }
def PropTakesUptoSaid : Prop := propTakesUptoRow.holds Tryd.pinned (OpenSpec.upto propTakesSpec)

/-- 'fleuronlaw10.DefineLast', WHERE WHAT IT READS IS OF BULK AT MOST 1048576: true; the input reads as it did. -/
def defineLastUptoRow : OpenClaim := { program := "ytllmagfmbglefaadoor", sum := "e2667bd6318ccc441e7ca372cbd78971c713b2c160189cff9de8982cb5fb35d3", func := "fleuron/fleuronlaw10.DefineLast", spec := "defineLast", inPlace := ["internal/abi.NoEscape"], unfollowed := true, recurses := true, named := ["strings.asciiSpace", "unicode.White_Space"], apart := false, laid := [("unicode.White_Space", laid_unicode_White_Space), ("strings.asciiSpace", laid_strings_asciiSpace)], narrowed := true }
def DefineLastUptoSaid : Prop := defineLastUptoRow.holds Tryd.pinned (OpenSpec.upto defineLastSpec)

/-- 'fleuronlaw10.DefineSystems', WHERE WHAT IT READS IS OF BULK AT MOST 1048576: true; the input reads as it did. -/
def defineSystemsUptoRow : OpenClaim := { program := "ytllmagfmbglefaadoor", sum := "e2667bd6318ccc441e7ca372cbd78971c713b2c160189cff9de8982cb5fb35d3", func := "fleuron/fleuronlaw10.DefineSystems", spec := "defineSystems", inPlace := ["internal/abi.NoEscape"], unfollowed := true, recurses := true, named := ["strings.asciiSpace", "unicode.White_Space"], apart := false, laid := [("unicode.White_Space", laid_unicode_White_Space), ("strings.asciiSpace", laid_strings_asciiSpace)], narrowed := true }
def DefineSystemsUptoSaid : Prop := defineSystemsUptoRow.holds Tryd.pinned (OpenSpec.upto defineSystemsSpec)

/-- 'fleuronlaw10.DefineNames', WHERE WHAT IT READS IS OF BULK AT MOST 1048576: true; the input reads as it did. -/
def defineNamesUptoRow : OpenClaim := { program := "ytllmagfmbglefaadoor", sum := "e2667bd6318ccc441e7ca372cbd78971c713b2c160189cff9de8982cb5fb35d3", func := "fleuron/fleuronlaw10.DefineNames", spec := "defineNames", inPlace := ["internal/abi.NoEscape"], unfollowed := true, recurses := true, named := ["strings.asciiSpace", "unicode.White_Space"], apart := false, laid := [("unicode.White_Space", laid_unicode_White_Space), ("strings.asciiSpace", laid_strings_asciiSpace)], narrowed := true }
def DefineNamesUptoSaid : Prop := defineNamesUptoRow.holds Tryd.pinned (OpenSpec.upto defineNamesSpec)

/-- 'fleuronlaw10.DefineRanges', WHERE WHAT IT READS IS OF BULK AT MOST 1048576: true; the input reads as it did. -/
def defineRangesUptoRow : OpenClaim := { program := "ytllmagfmbglefaadoor", sum := "e2667bd6318ccc441e7ca372cbd78971c713b2c160189cff9de8982cb5fb35d3", func := "fleuron/fleuronlaw10.DefineRanges", spec := "defineRanges", inPlace := ["internal/abi.NoEscape"], unfollowed := true, recurses := true, named := ["strings.asciiSpace", "unicode.White_Space"], apart := false, laid := [("unicode.White_Space", laid_unicode_White_Space), ("strings.asciiSpace", laid_strings_asciiSpace)], narrowed := true }
def DefineRangesUptoSaid : Prop := defineRangesUptoRow.holds Tryd.pinned (OpenSpec.upto defineRangesSpec)

end Rows
end Go.Proofs.YtllmagfmbglefaaDoor
