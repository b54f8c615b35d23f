/- The laws TokenTells, TokenHashes. -/
import Derived.Test.YtbjinibmkkmhkaaDooru1
import Derived.Test.YtbjinibmkkmhkaaDoorP
namespace Go.Proofs.YtbjinibmkkmhkaaDoor
open Go Go.RowKit
set_option maxRecDepth 20000

end Go.Proofs.YtbjinibmkkmhkaaDoor
