/- The reference's Contains; the law's examples (ssh, sane). -/
import Derived.Test.YtjoionnnpjajmaaDoorOE
import Derived.Test.YtjoionnnpjajmaaDoorOD
import Derived.Test.YtjoionnnpjajmaaDoorOC
import Derived.Test.YtjoionnnpjajmaaDoorMV
namespace Go.Proofs.YtjoionnnpjajmaaDoor
open Go.RowKit
set_option maxRecDepth 100000
end Go.Proofs.YtjoionnnpjajmaaDoor
