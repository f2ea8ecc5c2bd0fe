/- The two listed tables. -/
import Derived.Stop.LaidErr
import Derived.Test.YtbdfblgdmappeaaGreatDoorQB
namespace Go.Proofs.YtbdfblgdmappeaaGreatDoor
open Go.ChangeShapes Go.WideShapes Go.ChangeAt Go.RowKit
set_option maxRecDepth 100000
theorem wids_of {W : World} (h : laidMetH Tryz.prog [("netsegment/box.tops", Rows.laid_netsegment_box_tops), ("netsegment/expand.widths", Rows.laid_netsegment_expand_widths)] W) : Tops W ∧ Wid W := by
 have h' : laidMet Tryz.prog [("netsegment/box.tops", Rows.laid_netsegment_box_tops), ("netsegment/expand.widths", Rows.laid_netsegment_expand_widths)] W := h
 have ht : Lib.TabIs Tryz.prog W "netsegment/box.tops" .u32 [4294967295, 4294967295, 255, 65535, 65535] :=
  Lib.tabIs_of_head (rest := [("netsegment/expand.widths", Rows.laid_netsegment_expand_widths)]) (show (Tryz.prog).globalNamed "netsegment/box.tops" = some 0 by kernel_rfl) (show ((Tryz.prog).globals[0]?).map (·.type) = some 158 by kernel_rfl) Tryz.underlying158 Tryz.underlying45 (by kernel_rfl) (by kernel_rfl) h'
 have hw : Lib.TabIs Tryz.prog W "netsegment/expand.widths" .i64 [32, 32, 8, 16, 16] :=
  Lib.tabIs_of_head (rest := []) (show (Tryz.prog).globalNamed "netsegment/expand.widths" = some 1 by kernel_rfl) (show ((Tryz.prog).globals[1]?).map (·.type) = some 207 by kernel_rfl) Tryz.underlying207 Tryz.underlying3 (by kernel_rfl) (by kernel_rfl) (laidMet.tail h')
 refine ⟨fun k hk => ?_, fun k hk => ?_⟩
 ·rcases five hk with rfl | rfl | rfl | rfl | rfl <;> exact ht.cell (by kernel_rfl) _ (by decide)
 ·rcases five hk with rfl | rfl | rfl | rfl | rfl <;> exact hw.cell (by kernel_rfl) _ (by decide)
end Go.Proofs.YtbdfblgdmappeaaGreatDoor
