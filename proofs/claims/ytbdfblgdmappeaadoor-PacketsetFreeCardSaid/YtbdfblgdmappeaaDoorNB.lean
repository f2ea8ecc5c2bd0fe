/- The reference of packet sets: rests is the canonical form of an operation. -/
import Derived.Test.YtbdfblgdmappeaaDoorNA
import Derived.Test.YtbdfblgdmappeaaDoorMO
import Derived.Test.YtbdfblgdmappeaaDoorMV
namespace Go.Proofs.YtbdfblgdmappeaaDoor
open Go.RowKit
set_option maxRecDepth 100000
end Go.Proofs.YtbdfblgdmappeaaDoor
