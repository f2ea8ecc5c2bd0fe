/-
  DERIVED. GIVEN WITH THE SEED: THE CARDS: each row of YtnhjcbmlplfpmaaDoorRows.lean that lists a variable, with what it lists TIED to the program's text (the seventh form; the later family's looks); each row that meets fmt, with fmt's text TOLD by the authors' own Lean function (tested against real Go, not proved from fmt's source: count such statements apart). THE CARD IS WHAT COUNTS. Prove the row's statement (the work); the ties are given (YtnhjcbmlplfpmaaDoorTie.lean); close each card by the builder's one call (the guide's Derived/Test/ToyasCard.lean, 'card_holds'). Laid BY PROGRAM, IN A SANDBOX (cutbox-door.mjs). By AI agents, Wed Nov 11 2026. No macro, syntax, notation, axiom, sorry.
-/
import Derived.Test.YtnhjcbmlplfpmaaDoorRows
import GoSem.ClaimSeven
namespace Go.Proofs.YtnhjcbmlplfpmaaDoor
namespace Rows

/-- THE TIED CARD OF 'nsglaw3.BoxMembers'. -/
def boxMembersCard : Claim7 := { stood := { row := boxMembersRow, standIns := [], harness := (true, "c280d6555577868753ad1c0e16ca64d052a4a646420f9ed7a5a6aa27761441d4"), looks := false }, kinds := [], alts := [], laidByText := true, laidKinds := [.data], laidTests := true, laidLooks := .later }
def BoxMembersCardSaid : Prop := Claim7.holds Tryd.pinned (.plain (OpenSpec.ofChange boxMembersSpec)) boxMembersCard

/-- THE TIED CARD OF 'nsglaw3.BoxSubtracts'. -/
def boxSubtractsCard : Claim7 := { stood := { row := boxSubtractsRow, standIns := [], harness := (true, "c280d6555577868753ad1c0e16ca64d052a4a646420f9ed7a5a6aa27761441d4"), looks := false }, kinds := [], alts := [], laidByText := true, laidKinds := [.data], laidTests := true, laidLooks := .later }
def BoxSubtractsCardSaid : Prop := Claim7.holds Tryd.pinned (.plain (OpenSpec.ofChange boxSubtractsSpec)) boxSubtractsCard

/-- THE TIED CARD OF 'nsglaw3.BoxReads'. -/
def boxReadsCard : Claim7 := { stood := { row := boxReadsRow, standIns := [], harness := (true, "c280d6555577868753ad1c0e16ca64d052a4a646420f9ed7a5a6aa27761441d4"), looks := false }, kinds := [], alts := [], laidByText := true, laidKinds := [.data], laidTests := true, laidLooks := .later }
def BoxReadsCardSaid : Prop := Claim7.holds Tryd.pinned (.plain (OpenSpec.ofChange boxReadsSpec)) boxReadsCard

/-- THE TIED CARD OF 'nsglaw3.BoxFields'. -/
def boxFieldsCard : Claim7 := { stood := { row := boxFieldsRow, standIns := [], harness := (true, "c280d6555577868753ad1c0e16ca64d052a4a646420f9ed7a5a6aa27761441d4"), looks := false }, kinds := [], alts := [], laidByText := true, laidKinds := [.data], laidTests := true, laidLooks := .later }
def BoxFieldsCardSaid : Prop := Claim7.holds Tryd.pinned (.plain (OpenSpec.ofChange boxFieldsSpec)) boxFieldsCard

/-- THE TIED CARD OF 'nsglaw3.BoxHull'. -/
def boxHullCard : Claim7 := { stood := { row := boxHullRow, standIns := [], harness := (true, "c280d6555577868753ad1c0e16ca64d052a4a646420f9ed7a5a6aa27761441d4"), looks := false }, kinds := [], alts := [], laidByText := true, laidKinds := [.data], laidTests := true, laidLooks := .later }
def BoxHullCardSaid : Prop := Claim7.holds Tryd.pinned (.plain (OpenSpec.ofChange boxHullSpec)) boxHullCard

/-- THE TIED CARD OF 'nsglaw3.BoxOrder'. -/
def boxOrderCard : Claim7 := { stood := { row := boxOrderRow, standIns := [], harness := (true, "c280d6555577868753ad1c0e16ca64d052a4a646420f9ed7a5a6aa27761441d4"), looks := false }, kinds := [], alts := [], laidByText := true, laidKinds := [.data], laidTests := true, laidLooks := .later }
def BoxOrderCardSaid : Prop := Claim7.holds Tryd.pinned (.plain (OpenSpec.ofChange boxOrderSpec)) boxOrderCard

/-- THE TIED CARD OF 'nsglaw3.BoxCombines'. -/
def boxCombinesCard : Claim7 := { stood := { row := boxCombinesRow, standIns := [], harness := (true, "c280d6555577868753ad1c0e16ca64d052a4a646420f9ed7a5a6aa27761441d4"), looks := false }, kinds := [], alts := [], laidByText := true, laidKinds := [.data], laidTests := true, laidLooks := .later }
def BoxCombinesCardSaid : Prop := Claim7.holds Tryd.pinned (.plain (OpenSpec.ofChange boxCombinesSpec)) boxCombinesCard

/-- THE SECOND FORM's CARD OF 'nsglaw3.BoxMembers'. -/
def boxMembersUptoCard : Claim7 := { stood := { row := boxMembersUptoRow, standIns := [], harness := (true, "c280d6555577868753ad1c0e16ca64d052a4a646420f9ed7a5a6aa27761441d4"), looks := false }, kinds := [], alts := [], laidByText := true, laidKinds := [.data], laidTests := true, laidLooks := .later }
def BoxMembersUptoCardSaid : Prop := Claim7.holds Tryd.pinned (.plain (OpenSpec.upto boxMembersSpec)) boxMembersUptoCard

/-- THE SECOND FORM's CARD OF 'nsglaw3.BoxSubtracts'. -/
def boxSubtractsUptoCard : Claim7 := { stood := { row := boxSubtractsUptoRow, standIns := [], harness := (true, "c280d6555577868753ad1c0e16ca64d052a4a646420f9ed7a5a6aa27761441d4"), looks := false }, kinds := [], alts := [], laidByText := true, laidKinds := [.data], laidTests := true, laidLooks := .later }
def BoxSubtractsUptoCardSaid : Prop := Claim7.holds Tryd.pinned (.plain (OpenSpec.upto boxSubtractsSpec)) boxSubtractsUptoCard

/-- THE SECOND FORM's CARD OF 'nsglaw3.BoxReads'. -/
def boxReadsUptoCard : Claim7 := { stood := { row := boxReadsUptoRow, standIns := [], harness := (true, "c280d6555577868753ad1c0e16ca64d052a4a646420f9ed7a5a6aa27761441d4"), looks := false }, kinds := [], alts := [], laidByText := true, laidKinds := [.data], laidTests := true, laidLooks := .later }
def BoxReadsUptoCardSaid : Prop := Claim7.holds Tryd.pinned (.plain (OpenSpec.upto boxReadsSpec)) boxReadsUptoCard

/-- THE SECOND FORM's CARD OF 'nsglaw3.BoxFields'. -/
def boxFieldsUptoCard : Claim7 := { stood := { row := boxFieldsUptoRow, standIns := [], harness := (true, "c280d6555577868753ad1c0e16ca64d052a4a646420f9ed7a5a6aa27761441d4"), looks := false }, kinds := [], alts := [], laidByText := true, laidKinds := [.data], laidTests := true, laidLooks := .later }
def BoxFieldsUptoCardSaid : Prop := Claim7.holds Tryd.pinned (.plain (OpenSpec.upto boxFieldsSpec)) boxFieldsUptoCard

/-- THE SECOND FORM's CARD OF 'nsglaw3.BoxHull'. -/
def boxHullUptoCard : Claim7 := { stood := { row := boxHullUptoRow, standIns := [], harness := (true, "c280d6555577868753ad1c0e16ca64d052a4a646420f9ed7a5a6aa27761441d4"), looks := false }, kinds := [], alts := [], laidByText := true, laidKinds := [.data], laidTests := true, laidLooks := .later }
def BoxHullUptoCardSaid : Prop := Claim7.holds Tryd.pinned (.plain (OpenSpec.upto boxHullSpec)) boxHullUptoCard

/-- THE SECOND FORM's CARD OF 'nsglaw3.BoxOrder'. -/
def boxOrderUptoCard : Claim7 := { stood := { row := boxOrderUptoRow, standIns := [], harness := (true, "c280d6555577868753ad1c0e16ca64d052a4a646420f9ed7a5a6aa27761441d4"), looks := false }, kinds := [], alts := [], laidByText := true, laidKinds := [.data], laidTests := true, laidLooks := .later }
def BoxOrderUptoCardSaid : Prop := Claim7.holds Tryd.pinned (.plain (OpenSpec.upto boxOrderSpec)) boxOrderUptoCard

/-- THE SECOND FORM's CARD OF 'nsglaw3.BoxCombines'. -/
def boxCombinesUptoCard : Claim7 := { stood := { row := boxCombinesUptoRow, standIns := [], harness := (true, "c280d6555577868753ad1c0e16ca64d052a4a646420f9ed7a5a6aa27761441d4"), looks := false }, kinds := [], alts := [], laidByText := true, laidKinds := [.data], laidTests := true, laidLooks := .later }
def BoxCombinesUptoCardSaid : Prop := Claim7.holds Tryd.pinned (.plain (OpenSpec.upto boxCombinesSpec)) boxCombinesUptoCard
end Rows
end Go.Proofs.YtnhjcbmlplfpmaaDoor
