/- OptimizeApplies: the walk. -/
import Derived.Deep.CutRange
import Derived.Deep.DeepCutAuto
import Derived.Test.YtbdfblgdmappeaaGreatDoorQM
import Derived.Test.YtbdfblgdmappeaaGreatDoorQK
import Derived.Test.YtbdfblgdmappeaaGreatDoorQB
import Derived.Test.YtbdfblgdmappeaaGreatDoorMB
namespace Go.Proofs.YtbdfblgdmappeaaGreatDoor
open Go.RowKit
set_option maxRecDepth 100000
theorem same8_self (v u : Value) (l : List Rul) (w : World) (hv : IsTable w v l) (hu : IsTable w u l) (hm : l.length ≤ 20) :
  Calls Tryz.prog 16 #[v, u] w fun e w' => e = .returned (.bool true) ∧ Below w.heap.size w w' := by
 have h := rSame8_any v u l l w hv hu (by omega) (by omega)
 rw [decide_eq_true rfl] at h
 exact h
end Go.Proofs.YtbdfblgdmappeaaGreatDoor
