/- The law TokenComments. -/
import Derived.Test.YtbjinibmkkmhkaaDooru2
import Derived.Test.YtbjinibmkkmhkaaDoorr7
namespace Go.Proofs.YtbjinibmkkmhkaaDoor
open Go Go.RowKit
set_option maxRecDepth 20000

def ltB (c : UInt8) : Bool := decide (97 ≤ c.toNat) && decide (c.toNat ≤ 122)
def wdB (w : List UInt8) : Bool := !w.isEmpty && w.all ltB
def comB (l : List UInt8) : List UInt8 := 47 :: 42 :: (l ++ [42, 47])
def comS (l : List UInt8) (ws : List (List UInt8)) : List UInt8 := comB l ++ ws.flatMap fun w => w ++ comB l
def csD' (s : ByteArray) : D := .val (.string s)
theorem cat_l (a b : List UInt8) : (⟨a.toArray⟩ : ByteArray) ++ (⟨b.toArray⟩ : ByteArray) = ⟨(a ++ b).toArray⟩ := bytes_cat a b
def wsL (l : List ByteArray) : List (List UInt8) := l.map fun s => s.data.toList
end Go.Proofs.YtbjinibmkkmhkaaDoor
