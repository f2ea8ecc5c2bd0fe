/-
  DERIVED. GIVEN WITH THE SEED: THE CARDS: each row of YtmcbbepfakfehaaDoorRows.lean that lists a variable, with what it lists TIED to the program's text (the seventh form; the later family's looks); each row that meets fmt, with fmt's text TOLD by the authors' own Lean function (tested against real Go, not proved from fmt's source: count such statements apart). THE CARD IS WHAT COUNTS. Prove the row's statement (the work); the ties are given (YtmcbbepfakfehaaDoorTie.lean); close each card by the builder's one call (the guide's Derived/Test/ToyasCard.lean, 'card_holds'). Laid BY PROGRAM, IN A SANDBOX (cutbox-door.mjs). By AI agents, Wed Nov 11 2026. No macro, syntax, notation, axiom, sorry.
-/
import Derived.Test.YtmcbbepfakfehaaDoorRows
import GoSem.ClaimSeven
namespace Go.Proofs.YtmcbbepfakfehaaDoor
namespace Rows

/-- THE TIED CARD OF 'nsglaw8.FilterSets'. -/
def filterSetsCard : Claim7 := { stood := { row := filterSetsRow, standIns := [], harness := (true, "8e51acbfda3e128d88dc5093d4240dc8c92f3ff5bbe5857096bcc2048573f38e"), looks := false }, kinds := [], alts := [], laidByText := true, laidKinds := [.data], laidTests := true, laidLooks := .later }
def FilterSetsCardSaid : Prop := Claim7.holds Tryd.pinned (.plain (OpenSpec.ofChange filterSetsSpec)) filterSetsCard

/-- THE TIED CARD OF 'nsglaw8.FilterPoints'. -/
def filterPointsCard : Claim7 := { stood := { row := filterPointsRow, standIns := [], harness := (true, "8e51acbfda3e128d88dc5093d4240dc8c92f3ff5bbe5857096bcc2048573f38e"), looks := false }, kinds := [], alts := [], laidByText := true, laidKinds := [.data], laidTests := true, laidLooks := .later }
def FilterPointsCardSaid : Prop := Claim7.holds Tryd.pinned (.plain (OpenSpec.ofChange filterPointsSpec)) filterPointsCard

/-- THE TIED CARD OF 'nsglaw8.FilterDecides'. -/
def filterDecidesCard : Claim7 := { stood := { row := filterDecidesRow, standIns := [], harness := (true, "8e51acbfda3e128d88dc5093d4240dc8c92f3ff5bbe5857096bcc2048573f38e"), looks := false }, kinds := [], alts := [], laidByText := true, laidKinds := [.data], laidTests := true, laidLooks := .later }
def FilterDecidesCardSaid : Prop := Claim7.holds Tryd.pinned (.plain (OpenSpec.ofChange filterDecidesSpec)) filterDecidesCard

/-- THE TIED CARD OF 'nsglaw8.FilterOf'. -/
def filterOfCard : Claim7 := { stood := { row := filterOfRow, standIns := [], harness := (true, "8e51acbfda3e128d88dc5093d4240dc8c92f3ff5bbe5857096bcc2048573f38e"), looks := false }, kinds := [], alts := [], laidByText := true, laidKinds := [.data], laidTests := true, laidLooks := .later }
def FilterOfCardSaid : Prop := Claim7.holds Tryd.pinned (.plain (OpenSpec.ofChange filterOfSpec)) filterOfCard

/-- THE TIED CARD OF 'nsglaw8.FilterPrunes'. -/
def filterPrunesCard : Claim7 := { stood := { row := filterPrunesRow, standIns := [], harness := (true, "8e51acbfda3e128d88dc5093d4240dc8c92f3ff5bbe5857096bcc2048573f38e"), looks := false }, kinds := [], alts := [], laidByText := true, laidKinds := [.data], laidTests := true, laidLooks := .later }
def FilterPrunesCardSaid : Prop := Claim7.holds Tryd.pinned (.plain (OpenSpec.ofChange filterPrunesSpec)) filterPrunesCard

/-- THE TIED CARD OF 'nsglaw8.FilterSwaps'. -/
def filterSwapsCard : Claim7 := { stood := { row := filterSwapsRow, standIns := [], harness := (true, "8e51acbfda3e128d88dc5093d4240dc8c92f3ff5bbe5857096bcc2048573f38e"), looks := false }, kinds := [], alts := [], laidByText := true, laidKinds := [.data], laidTests := true, laidLooks := .later }
def FilterSwapsCardSaid : Prop := Claim7.holds Tryd.pinned (.plain (OpenSpec.ofChange filterSwapsSpec)) filterSwapsCard

/-- THE SECOND FORM's CARD OF 'nsglaw8.FilterSets'. -/
def filterSetsUptoCard : Claim7 := { stood := { row := filterSetsUptoRow, standIns := [], harness := (true, "8e51acbfda3e128d88dc5093d4240dc8c92f3ff5bbe5857096bcc2048573f38e"), looks := false }, kinds := [], alts := [], laidByText := true, laidKinds := [.data], laidTests := true, laidLooks := .later }
def FilterSetsUptoCardSaid : Prop := Claim7.holds Tryd.pinned (.plain (OpenSpec.upto filterSetsSpec)) filterSetsUptoCard

/-- THE SECOND FORM's CARD OF 'nsglaw8.FilterPoints'. -/
def filterPointsUptoCard : Claim7 := { stood := { row := filterPointsUptoRow, standIns := [], harness := (true, "8e51acbfda3e128d88dc5093d4240dc8c92f3ff5bbe5857096bcc2048573f38e"), looks := false }, kinds := [], alts := [], laidByText := true, laidKinds := [.data], laidTests := true, laidLooks := .later }
def FilterPointsUptoCardSaid : Prop := Claim7.holds Tryd.pinned (.plain (OpenSpec.upto filterPointsSpec)) filterPointsUptoCard

/-- THE SECOND FORM's CARD OF 'nsglaw8.FilterDecides'. -/
def filterDecidesUptoCard : Claim7 := { stood := { row := filterDecidesUptoRow, standIns := [], harness := (true, "8e51acbfda3e128d88dc5093d4240dc8c92f3ff5bbe5857096bcc2048573f38e"), looks := false }, kinds := [], alts := [], laidByText := true, laidKinds := [.data], laidTests := true, laidLooks := .later }
def FilterDecidesUptoCardSaid : Prop := Claim7.holds Tryd.pinned (.plain (OpenSpec.upto filterDecidesSpec)) filterDecidesUptoCard

/-- THE SECOND FORM's CARD OF 'nsglaw8.FilterOf'. -/
def filterOfUptoCard : Claim7 := { stood := { row := filterOfUptoRow, standIns := [], harness := (true, "8e51acbfda3e128d88dc5093d4240dc8c92f3ff5bbe5857096bcc2048573f38e"), looks := false }, kinds := [], alts := [], laidByText := true, laidKinds := [.data], laidTests := true, laidLooks := .later }
def FilterOfUptoCardSaid : Prop := Claim7.holds Tryd.pinned (.plain (OpenSpec.upto filterOfSpec)) filterOfUptoCard

/-- THE SECOND FORM's CARD OF 'nsglaw8.FilterPrunes'. -/
def filterPrunesUptoCard : Claim7 := { stood := { row := filterPrunesUptoRow, standIns := [], harness := (true, "8e51acbfda3e128d88dc5093d4240dc8c92f3ff5bbe5857096bcc2048573f38e"), looks := false }, kinds := [], alts := [], laidByText := true, laidKinds := [.data], laidTests := true, laidLooks := .later }
def FilterPrunesUptoCardSaid : Prop := Claim7.holds Tryd.pinned (.plain (OpenSpec.upto filterPrunesSpec)) filterPrunesUptoCard

/-- THE SECOND FORM's CARD OF 'nsglaw8.FilterSwaps'. -/
def filterSwapsUptoCard : Claim7 := { stood := { row := filterSwapsUptoRow, standIns := [], harness := (true, "8e51acbfda3e128d88dc5093d4240dc8c92f3ff5bbe5857096bcc2048573f38e"), looks := false }, kinds := [], alts := [], laidByText := true, laidKinds := [.data], laidTests := true, laidLooks := .later }
def FilterSwapsUptoCardSaid : Prop := Claim7.holds Tryd.pinned (.plain (OpenSpec.upto filterSwapsSpec)) filterSwapsUptoCard
end Rows
end Go.Proofs.YtmcbbepfakfehaaDoor
