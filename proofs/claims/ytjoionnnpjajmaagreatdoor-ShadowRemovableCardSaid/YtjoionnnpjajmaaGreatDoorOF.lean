/- The tape: Table. -/
import Derived.Test.YtjoionnnpjajmaaGreatDoorOC
import Derived.Test.YtjoionnnpjajmaaGreatDoorMB
namespace Go.Proofs.YtjoionnnpjajmaaGreatDoor
open Go.RowKit
set_option maxRecDepth 100000
end Go.Proofs.YtjoionnnpjajmaaGreatDoor
