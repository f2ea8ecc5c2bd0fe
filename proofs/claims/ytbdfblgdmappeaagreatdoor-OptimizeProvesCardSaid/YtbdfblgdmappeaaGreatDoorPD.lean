/- The reference of findings: Without, Removable, meet, overlap, dead, redundant. -/
import Derived.Test.YtbdfblgdmappeaaGreatDoorPA
import Derived.Test.YtbdfblgdmappeaaGreatDoorOE
import Derived.Test.YtbdfblgdmappeaaGreatDoorMV
import Derived.Test.YtbdfblgdmappeaaGreatDoorMB
import Derived.Test.YtbdfblgdmappeaaGreatDoorPC
namespace Go.Proofs.YtbdfblgdmappeaaGreatDoor
open Go.RowKit
set_option maxRecDepth 100000
end Go.Proofs.YtbdfblgdmappeaaGreatDoor
