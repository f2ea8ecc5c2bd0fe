/-
  DERIVED. GIVEN WITH THE SEED: THE CARDS: each row of YtbdfblgdmappeaaGreatDoorRows.lean that lists a variable, with what it lists TIED to the program's text (the seventh form; the later family's looks); each row that meets fmt, with fmt's text TOLD by the authors' own Lean function (tested against real Go, not proved from fmt's source: count such statements apart). THE CARD IS WHAT COUNTS. Prove the row's statement (the work); the ties are given (YtbdfblgdmappeaaGreatDoorTie.lean); close each card by the builder's one call (the guide's Derived/Test/ToyasCard.lean, 'card_holds'). Laid BY PROGRAM, IN A SANDBOX (cutbox-door.mjs). By AI agents, Wed Nov 11 2026. No macro, syntax, notation, axiom, sorry.
-/
import Derived.Test.YtbdfblgdmappeaaGreatDoorRows
import GoSem.ClaimSeven
namespace Go.Proofs.YtbdfblgdmappeaaGreatDoor
namespace Rows

/-- THE TIED CARD OF 'nsglaw36.OptimizeApplies'. -/
def optimizeAppliesCard : Claim7 := { stood := { row := optimizeAppliesRow, standIns := [], harness := (true, "bb949b53e9b7229e55355001f8b78c639a4a15188348ab23639b9ba13f36d107"), looks := false }, kinds := [], alts := [], laidByText := true, laidKinds := [.data, .data], laidTests := true, laidLooks := .later }
def OptimizeAppliesCardSaid : Prop := Claim7.holds Tryz.pinned (.plain (OpenSpec.ofChange optimizeAppliesSpec)) optimizeAppliesCard

/-- THE TIED CARD OF 'nsglaw36.OptimizeFinds'. -/
def optimizeFindsCard : Claim7 := { stood := { row := optimizeFindsRow, standIns := [], harness := (true, "bb949b53e9b7229e55355001f8b78c639a4a15188348ab23639b9ba13f36d107"), looks := false }, kinds := [], alts := [], laidByText := true, laidKinds := [.data, .data], laidTests := true, laidLooks := .later }
def OptimizeFindsCardSaid : Prop := Claim7.holds Tryz.pinned (.plain (OpenSpec.ofChange optimizeFindsSpec)) optimizeFindsCard

/-- THE TIED CARD OF 'nsglaw36.OptimizeReplays'. -/
def optimizeReplaysCard : Claim7 := { stood := { row := optimizeReplaysRow, standIns := [], harness := (true, "bb949b53e9b7229e55355001f8b78c639a4a15188348ab23639b9ba13f36d107"), looks := false }, kinds := [], alts := [], laidByText := true, laidKinds := [.data, .data], laidTests := true, laidLooks := .later }
def OptimizeReplaysCardSaid : Prop := Claim7.holds Tryz.pinned (.plain (OpenSpec.ofChange optimizeReplaysSpec)) optimizeReplaysCard

/-- THE TIED CARD OF 'nsglaw36.OptimizeKeeps'. -/
def optimizeKeepsCard : Claim7 := { stood := { row := optimizeKeepsRow, standIns := [], harness := (true, "bb949b53e9b7229e55355001f8b78c639a4a15188348ab23639b9ba13f36d107"), looks := false }, kinds := [], alts := [], laidByText := true, laidKinds := [.data, .data], laidTests := true, laidLooks := .later }
def OptimizeKeepsCardSaid : Prop := Claim7.holds Tryz.pinned (.plain (OpenSpec.ofChange optimizeKeepsSpec)) optimizeKeepsCard

/-- THE TIED CARD OF 'nsglaw36.OptimizeProves'. -/
def optimizeProvesCard : Claim7 := { stood := { row := optimizeProvesRow, standIns := [], harness := (true, "bb949b53e9b7229e55355001f8b78c639a4a15188348ab23639b9ba13f36d107"), looks := false }, kinds := [], alts := [], laidByText := true, laidKinds := [.data, .data], laidTests := true, laidLooks := .later }
def OptimizeProvesCardSaid : Prop := Claim7.holds Tryz.pinned (.plain (OpenSpec.ofChange optimizeProvesSpec)) optimizeProvesCard

/-- THE TIED CARD OF 'nsglaw36.OptimizeFits'. -/
def optimizeFitsCard : Claim7 := { stood := { row := optimizeFitsRow, standIns := [], harness := (true, "bb949b53e9b7229e55355001f8b78c639a4a15188348ab23639b9ba13f36d107"), looks := false }, kinds := [], alts := [], laidByText := true, laidKinds := [.data, .data], laidTests := true, laidLooks := .later }
def OptimizeFitsCardSaid : Prop := Claim7.holds Tryz.pinned (.plain (OpenSpec.ofChange optimizeFitsSpec)) optimizeFitsCard

/-- THE TIED CARD OF 'nsglaw4.PacketsetCombines'. -/
def packetsetCombinesCard : Claim7 := { stood := { row := packetsetCombinesRow, standIns := [], harness := (true, "bb949b53e9b7229e55355001f8b78c639a4a15188348ab23639b9ba13f36d107"), looks := false }, kinds := [], alts := [], laidByText := true, laidKinds := [.data], laidTests := true, laidLooks := .later }
def PacketsetCombinesCardSaid : Prop := Claim7.holds Tryz.pinned (.plain (OpenSpec.ofChange packetsetCombinesSpec)) packetsetCombinesCard

/-- THE TIED CARD OF 'nsglaw4.PacketsetMakes'. -/
def packetsetMakesCard : Claim7 := { stood := { row := packetsetMakesRow, standIns := [], harness := (true, "bb949b53e9b7229e55355001f8b78c639a4a15188348ab23639b9ba13f36d107"), looks := false }, kinds := [], alts := [], laidByText := true, laidKinds := [.data], laidTests := true, laidLooks := .later }
def PacketsetMakesCardSaid : Prop := Claim7.holds Tryz.pinned (.plain (OpenSpec.ofChange packetsetMakesSpec)) packetsetMakesCard

/-- THE SECOND FORM's CARD OF 'nsglaw36.OptimizeApplies'. -/
def optimizeAppliesUptoCard : Claim7 := { stood := { row := optimizeAppliesUptoRow, standIns := [], harness := (true, "bb949b53e9b7229e55355001f8b78c639a4a15188348ab23639b9ba13f36d107"), looks := false }, kinds := [], alts := [], laidByText := true, laidKinds := [.data, .data], laidTests := true, laidLooks := .later }
def OptimizeAppliesUptoCardSaid : Prop := Claim7.holds Tryz.pinned (.plain (OpenSpec.upto optimizeAppliesSpec)) optimizeAppliesUptoCard

/-- THE SECOND FORM's CARD OF 'nsglaw36.OptimizeFinds'. -/
def optimizeFindsUptoCard : Claim7 := { stood := { row := optimizeFindsUptoRow, standIns := [], harness := (true, "bb949b53e9b7229e55355001f8b78c639a4a15188348ab23639b9ba13f36d107"), looks := false }, kinds := [], alts := [], laidByText := true, laidKinds := [.data, .data], laidTests := true, laidLooks := .later }
def OptimizeFindsUptoCardSaid : Prop := Claim7.holds Tryz.pinned (.plain (OpenSpec.upto optimizeFindsSpec)) optimizeFindsUptoCard

/-- THE SECOND FORM's CARD OF 'nsglaw36.OptimizeReplays'. -/
def optimizeReplaysUptoCard : Claim7 := { stood := { row := optimizeReplaysUptoRow, standIns := [], harness := (true, "bb949b53e9b7229e55355001f8b78c639a4a15188348ab23639b9ba13f36d107"), looks := false }, kinds := [], alts := [], laidByText := true, laidKinds := [.data, .data], laidTests := true, laidLooks := .later }
def OptimizeReplaysUptoCardSaid : Prop := Claim7.holds Tryz.pinned (.plain (OpenSpec.upto optimizeReplaysSpec)) optimizeReplaysUptoCard

/-- THE SECOND FORM's CARD OF 'nsglaw36.OptimizeKeeps'. -/
def optimizeKeepsUptoCard : Claim7 := { stood := { row := optimizeKeepsUptoRow, standIns := [], harness := (true, "bb949b53e9b7229e55355001f8b78c639a4a15188348ab23639b9ba13f36d107"), looks := false }, kinds := [], alts := [], laidByText := true, laidKinds := [.data, .data], laidTests := true, laidLooks := .later }
def OptimizeKeepsUptoCardSaid : Prop := Claim7.holds Tryz.pinned (.plain (OpenSpec.upto optimizeKeepsSpec)) optimizeKeepsUptoCard

/-- THE SECOND FORM's CARD OF 'nsglaw36.OptimizeProves'. -/
def optimizeProvesUptoCard : Claim7 := { stood := { row := optimizeProvesUptoRow, standIns := [], harness := (true, "bb949b53e9b7229e55355001f8b78c639a4a15188348ab23639b9ba13f36d107"), looks := false }, kinds := [], alts := [], laidByText := true, laidKinds := [.data, .data], laidTests := true, laidLooks := .later }
def OptimizeProvesUptoCardSaid : Prop := Claim7.holds Tryz.pinned (.plain (OpenSpec.upto optimizeProvesSpec)) optimizeProvesUptoCard

/-- THE SECOND FORM's CARD OF 'nsglaw36.OptimizeFits'. -/
def optimizeFitsUptoCard : Claim7 := { stood := { row := optimizeFitsUptoRow, standIns := [], harness := (true, "bb949b53e9b7229e55355001f8b78c639a4a15188348ab23639b9ba13f36d107"), looks := false }, kinds := [], alts := [], laidByText := true, laidKinds := [.data, .data], laidTests := true, laidLooks := .later }
def OptimizeFitsUptoCardSaid : Prop := Claim7.holds Tryz.pinned (.plain (OpenSpec.upto optimizeFitsSpec)) optimizeFitsUptoCard

/-- THE SECOND FORM's CARD OF 'nsglaw4.PacketsetCombines'. -/
def packetsetCombinesUptoCard : Claim7 := { stood := { row := packetsetCombinesUptoRow, standIns := [], harness := (true, "bb949b53e9b7229e55355001f8b78c639a4a15188348ab23639b9ba13f36d107"), looks := false }, kinds := [], alts := [], laidByText := true, laidKinds := [.data], laidTests := true, laidLooks := .later }
def PacketsetCombinesUptoCardSaid : Prop := Claim7.holds Tryz.pinned (.plain (OpenSpec.upto packetsetCombinesSpec)) packetsetCombinesUptoCard

/-- THE SECOND FORM's CARD OF 'nsglaw4.PacketsetMakes'. -/
def packetsetMakesUptoCard : Claim7 := { stood := { row := packetsetMakesUptoRow, standIns := [], harness := (true, "bb949b53e9b7229e55355001f8b78c639a4a15188348ab23639b9ba13f36d107"), looks := false }, kinds := [], alts := [], laidByText := true, laidKinds := [.data], laidTests := true, laidLooks := .later }
def PacketsetMakesUptoCardSaid : Prop := Claim7.holds Tryz.pinned (.plain (OpenSpec.upto packetsetMakesSpec)) packetsetMakesUptoCard
end Rows
end Go.Proofs.YtbdfblgdmappeaaGreatDoor
