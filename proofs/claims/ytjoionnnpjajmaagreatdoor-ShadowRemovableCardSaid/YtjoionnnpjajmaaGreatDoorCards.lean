/-
  DERIVED. GIVEN WITH THE SEED: THE CARDS: each row of YtjoionnnpjajmaaGreatDoorRows.lean that lists a variable, with what it lists TIED to the program's text (the seventh form; the later family's looks); each row that meets fmt, with fmt's text TOLD by the authors' own Lean function (tested against real Go, not proved from fmt's source: count such statements apart). THE CARD IS WHAT COUNTS. Prove the row's statement (the work); the ties are given (YtjoionnnpjajmaaGreatDoorTie.lean); close each card by the builder's one call (the guide's Derived/Test/ToyasCard.lean, 'card_holds'). Laid BY PROGRAM, IN A SANDBOX (cutbox-door.mjs). By AI agents, Wed Nov 11 2026. No macro, syntax, notation, axiom, sorry.
-/
import Derived.Test.YtjoionnnpjajmaaGreatDoorRows
import GoSem.ClaimSeven
namespace Go.Proofs.YtjoionnnpjajmaaGreatDoor
namespace Rows

/-- THE TIED CARD OF 'nsglaw32.ShadowFinds'. -/
def shadowFindsCard : Claim7 := { stood := { row := shadowFindsRow, standIns := [], harness := (true, "c8234fc1a132ed522b988143d09919b8e14ca89eed9385a3dd803ffe9907b230"), looks := false }, kinds := [], alts := [], laidByText := true, laidKinds := [.data], laidTests := true, laidLooks := .later }
def ShadowFindsCardSaid : Prop := Claim7.holds Tryz.pinned (.plain (OpenSpec.ofChange shadowFindsSpec)) shadowFindsCard

/-- THE TIED CARD OF 'nsglaw32.ShadowRemovable'. -/
def shadowRemovableCard : Claim7 := { stood := { row := shadowRemovableRow, standIns := [], harness := (true, "c8234fc1a132ed522b988143d09919b8e14ca89eed9385a3dd803ffe9907b230"), looks := false }, kinds := [], alts := [], laidByText := true, laidKinds := [.data], laidTests := true, laidLooks := .later }
def ShadowRemovableCardSaid : Prop := Claim7.holds Tryz.pinned (.plain (OpenSpec.ofChange shadowRemovableSpec)) shadowRemovableCard

/-- THE SECOND FORM's CARD OF 'nsglaw32.ShadowFinds'. -/
def shadowFindsUptoCard : Claim7 := { stood := { row := shadowFindsUptoRow, standIns := [], harness := (true, "c8234fc1a132ed522b988143d09919b8e14ca89eed9385a3dd803ffe9907b230"), looks := false }, kinds := [], alts := [], laidByText := true, laidKinds := [.data], laidTests := true, laidLooks := .later }
def ShadowFindsUptoCardSaid : Prop := Claim7.holds Tryz.pinned (.plain (OpenSpec.upto shadowFindsSpec)) shadowFindsUptoCard

/-- THE SECOND FORM's CARD OF 'nsglaw32.ShadowRemovable'. -/
def shadowRemovableUptoCard : Claim7 := { stood := { row := shadowRemovableUptoRow, standIns := [], harness := (true, "c8234fc1a132ed522b988143d09919b8e14ca89eed9385a3dd803ffe9907b230"), looks := false }, kinds := [], alts := [], laidByText := true, laidKinds := [.data], laidTests := true, laidLooks := .later }
def ShadowRemovableUptoCardSaid : Prop := Claim7.holds Tryz.pinned (.plain (OpenSpec.upto shadowRemovableSpec)) shadowRemovableUptoCard
end Rows
end Go.Proofs.YtjoionnnpjajmaaGreatDoor
