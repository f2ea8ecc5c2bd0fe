/- The reference of packet sets: Union, Intersect, Subtract. -/
import Derived.Test.YtmcbbepfakfehaaDoorNJ
namespace Go.Proofs.YtmcbbepfakfehaaDoor
open Go.RowKit
set_option maxRecDepth 100000
end Go.Proofs.YtmcbbepfakfehaaDoor
