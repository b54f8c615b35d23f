/- The law TokenStrings, walked. -/
import Derived.Test.YtbjinibmkkmhkaaDooru6
namespace Go.Proofs.YtbjinibmkkmhkaaDoor
open Go Go.RowKit
set_option maxRecDepth 20000

end Go.Proofs.YtbjinibmkkmhkaaDoor
