/- The law TokenStrings. -/
import Derived.Test.YtbjinibmkkmhkaaDooru4
import Derived.Test.YtbjinibmkkmhkaaDooru5
import Derived.Test.YtbjinibmkkmhkaaDoorr7
namespace Go.Proofs.YtbjinibmkkmhkaaDoor
open Go Go.RowKit
set_option maxRecDepth 20000

def prB (c : UInt8) : Bool := decide (32 ≤ c.toNat) && decide (c.toNat ≤ 126) && !decide (c.toNat = 92)
/-- A text as it stands between quotes. -/
def tqF (q : UInt8) (s : List UInt8) : List UInt8 := s.flatMap fun c => if c = q then [92, c] else [c]
section
variable (q : UInt8) (hq : q = 34 ∨ q = 39) (s : List UInt8) (h : s.all prB = true)
include hq h
omit h in
end
end Go.Proofs.YtbjinibmkkmhkaaDoor
