/-
  DERIVED. GIVEN WITH THE SEED: THE PROGRAM's TIES (one call each: nine closed facts by the kernel) AND EACH ROW's TIE, after the 31st guide's Derived/Test/Toyas{Tie, Card}.lean. No idea stands in it: it is a product of the set-up. Laid BY PROGRAM, IN A SANDBOX (cutbox-door.mjs). By AI agents, Wed Nov 11 2026. No macro, syntax, notation, axiom, sorry.
-/
import Derived.Test.YtbdfblgdmappeaaGreatDoorRows
import Derived.LaidByTextLater
import Derived.SevenTiedAt
import Derived.LaidSub
import Derived.LaidOnce
namespace Go.Proofs.YtbdfblgdmappeaaGreatDoor
open Go
set_option maxRecDepth 100000
theorem seatTie1 : Tryz.prog.laidByTextLater [("netsegment/box.tops", Rows.laid_netsegment_box_tops), ("netsegment/expand.widths", Rows.laid_netsegment_expand_widths)] [.data, .data] true :=
  Program.laidByTextLater_by_one 19 8 6 (by kernel_rfl) (by kernel_rfl) (by kernel_rfl) (by kernel_rfl) (by kernel_rfl) (by kernel_rfl) (fun _ _ => by kernel_rfl)
theorem noOwnUnsafe : Tryz.pinned.checked.prog.headLifts.contains "ownunsafe" = false := by kernel_rfl
theorem tie : Tryz.prog.laidByTextLater [("netsegment/box.tops", Rows.laid_netsegment_box_tops), ("netsegment/expand.widths", Rows.laid_netsegment_expand_widths)] [.data, .data] true :=
  Program.laidByTextLater.sub seatTie1 ["netsegment/box.tops", "netsegment/expand.widths"] (by kernel_rfl) (by kernel_rfl)
theorem optimizeApplies_row_tie : Rows.optimizeAppliesRow.laidByTextAt .later Tryz.pinned [.data, .data] true :=
  OpenClaim.laidByTextAt_later rfl rfl tie noOwnUnsafe
theorem optimizeFinds_row_tie : Rows.optimizeFindsRow.laidByTextAt .later Tryz.pinned [.data, .data] true :=
  OpenClaim.laidByTextAt_later rfl rfl tie noOwnUnsafe
theorem optimizeReplays_row_tie : Rows.optimizeReplaysRow.laidByTextAt .later Tryz.pinned [.data, .data] true :=
  OpenClaim.laidByTextAt_later rfl rfl tie noOwnUnsafe
theorem optimizeKeeps_row_tie : Rows.optimizeKeepsRow.laidByTextAt .later Tryz.pinned [.data, .data] true :=
  OpenClaim.laidByTextAt_later rfl rfl tie noOwnUnsafe
theorem optimizeProves_row_tie : Rows.optimizeProvesRow.laidByTextAt .later Tryz.pinned [.data, .data] true :=
  OpenClaim.laidByTextAt_later rfl rfl tie noOwnUnsafe
theorem optimizeFits_row_tie : Rows.optimizeFitsRow.laidByTextAt .later Tryz.pinned [.data, .data] true :=
  OpenClaim.laidByTextAt_later rfl rfl tie noOwnUnsafe
theorem tie2 : Tryz.prog.laidByTextLater [("netsegment/box.tops", Rows.laid_netsegment_box_tops)] [.data] true :=
  Program.laidByTextLater.sub seatTie1 ["netsegment/box.tops"] (by kernel_rfl) (by kernel_rfl)
theorem packetsetCombines_row_tie : Rows.packetsetCombinesRow.laidByTextAt .later Tryz.pinned [.data] true :=
  OpenClaim.laidByTextAt_later rfl rfl tie2 noOwnUnsafe
theorem packetsetMakes_row_tie : Rows.packetsetMakesRow.laidByTextAt .later Tryz.pinned [.data] true :=
  OpenClaim.laidByTextAt_later rfl rfl tie2 noOwnUnsafe
theorem optimizeAppliesUpto_row_tie : Rows.optimizeAppliesUptoRow.laidByTextAt .later Tryz.pinned [.data, .data] true :=
  OpenClaim.laidByTextAt_later rfl rfl tie noOwnUnsafe
theorem optimizeFindsUpto_row_tie : Rows.optimizeFindsUptoRow.laidByTextAt .later Tryz.pinned [.data, .data] true :=
  OpenClaim.laidByTextAt_later rfl rfl tie noOwnUnsafe
theorem optimizeReplaysUpto_row_tie : Rows.optimizeReplaysUptoRow.laidByTextAt .later Tryz.pinned [.data, .data] true :=
  OpenClaim.laidByTextAt_later rfl rfl tie noOwnUnsafe
theorem optimizeKeepsUpto_row_tie : Rows.optimizeKeepsUptoRow.laidByTextAt .later Tryz.pinned [.data, .data] true :=
  OpenClaim.laidByTextAt_later rfl rfl tie noOwnUnsafe
theorem optimizeProvesUpto_row_tie : Rows.optimizeProvesUptoRow.laidByTextAt .later Tryz.pinned [.data, .data] true :=
  OpenClaim.laidByTextAt_later rfl rfl tie noOwnUnsafe
theorem optimizeFitsUpto_row_tie : Rows.optimizeFitsUptoRow.laidByTextAt .later Tryz.pinned [.data, .data] true :=
  OpenClaim.laidByTextAt_later rfl rfl tie noOwnUnsafe
theorem packetsetCombinesUpto_row_tie : Rows.packetsetCombinesUptoRow.laidByTextAt .later Tryz.pinned [.data] true :=
  OpenClaim.laidByTextAt_later rfl rfl tie2 noOwnUnsafe
theorem packetsetMakesUpto_row_tie : Rows.packetsetMakesUptoRow.laidByTextAt .later Tryz.pinned [.data] true :=
  OpenClaim.laidByTextAt_later rfl rfl tie2 noOwnUnsafe
end Go.Proofs.YtbdfblgdmappeaaGreatDoor
