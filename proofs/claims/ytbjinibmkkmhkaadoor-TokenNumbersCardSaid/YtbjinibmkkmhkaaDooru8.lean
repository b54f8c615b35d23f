/- Urls: what stands between the parentheses. -/
import Derived.Test.YtbjinibmkkmhkaaDooru6
namespace Go.Proofs.YtbjinibmkkmhkaaDoor
open Go Go.RowKit
set_option maxRecDepth 20000

def blF (n : Nat) : List UInt8 := [32, 10, 9, 32].take n
def urlB : List UInt8 := [117, 114, 108, 40]
def UrLB : List UInt8 := [85, 114, 76, 40]
/-- Bytes that are their own signs: their tokens. -/
theorem toks_pl (l : List UInt8) (h : l.all plB = true) : toks ⟨l.toArray⟩ = toksL (l.map bI) := by rw [toks, read_pl l h, ← toks_L]
section
variable (n : Nat) (w : List UInt8) (h : w.all ltB = true)
include h
end
end Go.Proofs.YtbjinibmkkmhkaaDoor
