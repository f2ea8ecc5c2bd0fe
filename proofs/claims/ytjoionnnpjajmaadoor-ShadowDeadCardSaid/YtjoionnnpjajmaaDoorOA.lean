/- The reference of packet sets: Union, Intersect, Subtract. -/
import Derived.Test.YtjoionnnpjajmaaDoorNJ
namespace Go.Proofs.YtjoionnnpjajmaaDoor
open Go.RowKit
set_option maxRecDepth 100000
end Go.Proofs.YtjoionnnpjajmaaDoor
