/- The reference's Contains; the law's examples (ssh, sane). -/
import Derived.Test.YtjoionnnpjajmaaGreatDoorOE
import Derived.Test.YtjoionnnpjajmaaGreatDoorOD
import Derived.Test.YtjoionnnpjajmaaGreatDoorOC
import Derived.Test.YtjoionnnpjajmaaGreatDoorMV
namespace Go.Proofs.YtjoionnnpjajmaaGreatDoor
open Go.RowKit
set_option maxRecDepth 100000
end Go.Proofs.YtjoionnnpjajmaaGreatDoor
