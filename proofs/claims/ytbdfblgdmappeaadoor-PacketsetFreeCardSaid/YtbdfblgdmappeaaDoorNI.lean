/- The reference of packet sets: alike. -/
import Derived.Test.YtbdfblgdmappeaaDoorMQ
import Derived.Test.YtbdfblgdmappeaaDoorMV
import Derived.Test.YtbdfblgdmappeaaDoorNC
namespace Go.Proofs.YtbdfblgdmappeaaDoor
open Go.RowKit
set_option maxRecDepth 100000
theorem run_neq_rg {w : World} (r s : Rg) : (binOp .neq 43 (.agg #[.int .u32 r.lo, .int .u32 r.hi]) (.agg #[.int .u32 s.lo, .int .u32 s.hi])).run Tryd.prog w = .ok (.bool (!decide (r = s))) w := by
 rw [run_neq_struct]
 rw [show (10000 : Nat) = 9998 + 1 + 1 from rfl, eq_rg, Result.andThen_ok]
attribute [go_sem high] run_neq_rg
end Go.Proofs.YtbdfblgdmappeaaDoor
