/- The laws TokenTells, TokenHashes. -/
import Derived.Test.YtbjinibmkkmhkaaDooru1
import Derived.Test.YtbjinibmkkmhkaaDoorP
namespace Go.Proofs.YtbjinibmkkmhkaaDoor
open Go Go.RowKit
set_option maxRecDepth 20000

theorem eqtoks_self (a : List Tk) (ha : a.length ≤ 1099511627776) : PCalls Tryd.prog 14 [.sl 6 (a.map tD), .sl 6 (a.map tD)] (.val (.bool true)) := by
  have := eqtoks_ok a a ha ha
  rwa [decide_eq_true rfl] at this
end Go.Proofs.YtbjinibmkkmhkaaDoor
