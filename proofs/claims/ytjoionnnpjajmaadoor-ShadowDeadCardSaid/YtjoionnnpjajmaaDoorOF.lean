/- The tape: Table. -/
import Derived.Test.YtjoionnnpjajmaaDoorOC
import Derived.Test.YtjoionnnpjajmaaDoorMB
namespace Go.Proofs.YtjoionnnpjajmaaDoor
open Go.RowKit
set_option maxRecDepth 100000
end Go.Proofs.YtjoionnnpjajmaaDoor
