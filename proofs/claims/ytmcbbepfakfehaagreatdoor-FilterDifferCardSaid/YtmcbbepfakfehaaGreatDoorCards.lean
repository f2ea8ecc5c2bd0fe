/-
  DERIVED. GIVEN WITH THE SEED: THE CARDS: each row of YtmcbbepfakfehaaGreatDoorRows.lean that lists a variable, with what it lists TIED to the program's text (the seventh form; the later family's looks); each row that meets fmt, with fmt's text TOLD by the authors' own Lean function (tested against real Go, not proved from fmt's source: count such statements apart). THE CARD IS WHAT COUNTS. Prove the row's statement (the work); the ties are given (YtmcbbepfakfehaaGreatDoorTie.lean); close each card by the builder's one call (the guide's Derived/Test/ToyasCard.lean, 'card_holds'). Laid BY PROGRAM, IN A SANDBOX (cutbox-door.mjs). By AI agents, Wed Nov 11 2026. No macro, syntax, notation, axiom, sorry.
-/
import Derived.Test.YtmcbbepfakfehaaGreatDoorRows
import GoSem.ClaimSeven
namespace Go.Proofs.YtmcbbepfakfehaaGreatDoor
namespace Rows

/-- THE TIED CARD OF 'nsglaw8.FilterDiffer'. -/
def filterDifferCard : Claim7 := { stood := { row := filterDifferRow, standIns := [], harness := (true, "5125046aef6b520a94d5f9468da387ffb1ea6b350f42eeb24e95a696e2b35e03"), looks := false }, kinds := [], alts := [], laidByText := true, laidKinds := [.data], laidTests := true, laidLooks := .later }
def FilterDifferCardSaid : Prop := Claim7.holds Tryz.pinned (.plain (OpenSpec.ofChange filterDifferSpec)) filterDifferCard

/-- THE SECOND FORM's CARD OF 'nsglaw8.FilterDiffer'. -/
def filterDifferUptoCard : Claim7 := { stood := { row := filterDifferUptoRow, standIns := [], harness := (true, "5125046aef6b520a94d5f9468da387ffb1ea6b350f42eeb24e95a696e2b35e03"), looks := false }, kinds := [], alts := [], laidByText := true, laidKinds := [.data], laidTests := true, laidLooks := .later }
def FilterDifferUptoCardSaid : Prop := Claim7.holds Tryz.pinned (.plain (OpenSpec.upto filterDifferSpec)) filterDifferUptoCard
end Rows
end Go.Proofs.YtmcbbepfakfehaaGreatDoor
