/- The reference of packet sets: rests is the canonical form of an operation. -/
import Derived.Test.YtmcbbepfakfehaaDoorNA
import Derived.Test.YtmcbbepfakfehaaDoorMO
import Derived.Test.YtmcbbepfakfehaaDoorMV
namespace Go.Proofs.YtmcbbepfakfehaaDoor
open Go.RowKit
set_option maxRecDepth 100000
end Go.Proofs.YtmcbbepfakfehaaDoor
