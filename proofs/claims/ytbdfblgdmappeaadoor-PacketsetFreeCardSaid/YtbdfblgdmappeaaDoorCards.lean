/-
  DERIVED. GIVEN WITH THE SEED: THE CARDS: each row of YtbdfblgdmappeaaDoorRows.lean that lists a variable, with what it lists TIED to the program's text (the seventh form; the later family's looks); each row that meets fmt, with fmt's text TOLD by the authors' own Lean function (tested against real Go, not proved from fmt's source: count such statements apart). THE CARD IS WHAT COUNTS. Prove the row's statement (the work); the ties are given (YtbdfblgdmappeaaDoorTie.lean); close each card by the builder's one call (the guide's Derived/Test/ToyasCard.lean, 'card_holds'). Laid BY PROGRAM, IN A SANDBOX (cutbox-door.mjs). By AI agents, Wed Nov 11 2026. No macro, syntax, notation, axiom, sorry.
-/
import Derived.Test.YtbdfblgdmappeaaDoorRows
import GoSem.ClaimSeven
namespace Go.Proofs.YtbdfblgdmappeaaDoor
namespace Rows

/-- THE TIED CARD OF 'nsglaw4.PacketsetFree'. -/
def packetsetFreeCard : Claim7 := { stood := { row := packetsetFreeRow, standIns := [], harness := (true, "126f37d05873442663d5cc824c415ed29d6242354c9c07d549b40718fb9829b2"), looks := false }, kinds := [], alts := [], laidByText := true, laidKinds := [.data], laidTests := true, laidLooks := .later }
def PacketsetFreeCardSaid : Prop := Claim7.holds Tryd.pinned (.plain (OpenSpec.ofChange packetsetFreeSpec)) packetsetFreeCard

/-- THE SECOND FORM's CARD OF 'nsglaw4.PacketsetFree'. -/
def packetsetFreeUptoCard : Claim7 := { stood := { row := packetsetFreeUptoRow, standIns := [], harness := (true, "126f37d05873442663d5cc824c415ed29d6242354c9c07d549b40718fb9829b2"), looks := false }, kinds := [], alts := [], laidByText := true, laidKinds := [.data], laidTests := true, laidLooks := .later }
def PacketsetFreeUptoCardSaid : Prop := Claim7.holds Tryd.pinned (.plain (OpenSpec.upto packetsetFreeSpec)) packetsetFreeUptoCard
end Rows
end Go.Proofs.YtbdfblgdmappeaaDoor
