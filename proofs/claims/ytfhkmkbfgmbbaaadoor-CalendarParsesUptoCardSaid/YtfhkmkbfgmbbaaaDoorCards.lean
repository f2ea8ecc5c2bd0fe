/-
  DERIVED. GIVEN WITH THE SEED: THE CARDS: each row of YtfhkmkbfgmbbaaaDoorRows.lean that lists a variable, with what it lists TIED to the program's text (the seventh form; the later family's looks); each row that meets fmt, with fmt's text TOLD by the authors' own Lean function (tested against real Go, not proved from fmt's source: count such statements apart). THE CARD IS WHAT COUNTS. Prove the row's statement (the work); the ties are given (YtfhkmkbfgmbbaaaDoorTie.lean); close each card by the builder's one call (the guide's Derived/Test/ToyasCard.lean, 'card_holds'). Laid BY PROGRAM, IN A SANDBOX (cutbox-door.mjs). By AI agents, Wed Nov 11 2026. No macro, syntax, notation, axiom, sorry.
-/
import Derived.Test.YtfhkmkbfgmbbaaaDoorRows
import GoSem.ClaimSeven
namespace Go.Proofs.YtfhkmkbfgmbbaaaDoor
namespace Rows

/-- THE TIED CARD OF 'nsglaw9.CalendarMoments'. -/
def calendarMomentsCard : Claim7 := { stood := { row := calendarMomentsRow, standIns := [], harness := (true, "c8260b0966d090707f0cdd442f7e45ece01da17799811b6d598485d115605f15"), looks := false }, kinds := [], alts := [], laidByText := true, laidKinds := [.widerDeep], laidTests := true, laidLooks := .later }
def CalendarMomentsCardSaid : Prop := Claim7.holds Tryd.pinned (.plain (OpenSpec.ofChange calendarMomentsSpec)) calendarMomentsCard

/-- THE TIED CARD OF 'nsglaw9.CalendarParses'. -/
def calendarParsesCard : Claim7 := { stood := { row := calendarParsesRow, standIns := [], harness := (true, "c8260b0966d090707f0cdd442f7e45ece01da17799811b6d598485d115605f15"), looks := false }, kinds := [], alts := [], laidByText := true, laidKinds := [.widerDeep], laidTests := true, laidLooks := .later }
def CalendarParsesCardSaid : Prop := Claim7.holds Tryd.pinned (.plain (OpenSpec.ofChange calendarParsesSpec)) calendarParsesCard

/-- THE TIED CARD OF 'nsglaw9.CalendarRoundTrip'. -/
def calendarRoundTripCard : Claim7 := { stood := { row := calendarRoundTripRow, standIns := [], harness := (true, "c8260b0966d090707f0cdd442f7e45ece01da17799811b6d598485d115605f15"), looks := false }, kinds := [], alts := [], laidByText := true, laidKinds := [.widerDeep], laidTests := true, laidLooks := .later }
def CalendarRoundTripCardSaid : Prop := Claim7.holds Tryd.pinned (.plain (OpenSpec.ofChange calendarRoundTripSpec)) calendarRoundTripCard

/-- THE TIED CARD OF 'nsglaw9.CalendarItems'. -/
def calendarItemsCard : Claim7 := { stood := { row := calendarItemsRow, standIns := [], harness := (true, "c8260b0966d090707f0cdd442f7e45ece01da17799811b6d598485d115605f15"), looks := false }, kinds := [], alts := [], laidByText := true, laidKinds := [.widerDeep], laidTests := true, laidLooks := .later }
def CalendarItemsCardSaid : Prop := Claim7.holds Tryd.pinned (.plain (OpenSpec.ofChange calendarItemsSpec)) calendarItemsCard

/-- THE TIED CARD OF 'nsglaw9.CalendarSegments'. -/
def calendarSegmentsCard : Claim7 := { stood := { row := calendarSegmentsRow, standIns := [], harness := (true, "c8260b0966d090707f0cdd442f7e45ece01da17799811b6d598485d115605f15"), looks := false }, kinds := [], alts := [], laidByText := true, laidKinds := [.widerDeep], laidTests := true, laidLooks := .later }
def CalendarSegmentsCardSaid : Prop := Claim7.holds Tryd.pinned (.plain (OpenSpec.ofChange calendarSegmentsSpec)) calendarSegmentsCard

/-- THE SECOND FORM's CARD OF 'nsglaw9.CalendarMoments'. -/
def calendarMomentsUptoCard : Claim7 := { stood := { row := calendarMomentsUptoRow, standIns := [], harness := (true, "c8260b0966d090707f0cdd442f7e45ece01da17799811b6d598485d115605f15"), looks := false }, kinds := [], alts := [], laidByText := true, laidKinds := [.widerDeep], laidTests := true, laidLooks := .later }
def CalendarMomentsUptoCardSaid : Prop := Claim7.holds Tryd.pinned (.plain (OpenSpec.upto calendarMomentsSpec)) calendarMomentsUptoCard

/-- THE SECOND FORM's CARD OF 'nsglaw9.CalendarParses'. -/
def calendarParsesUptoCard : Claim7 := { stood := { row := calendarParsesUptoRow, standIns := [], harness := (true, "c8260b0966d090707f0cdd442f7e45ece01da17799811b6d598485d115605f15"), looks := false }, kinds := [], alts := [], laidByText := true, laidKinds := [.widerDeep], laidTests := true, laidLooks := .later }
def CalendarParsesUptoCardSaid : Prop := Claim7.holds Tryd.pinned (.plain (OpenSpec.upto calendarParsesSpec)) calendarParsesUptoCard

/-- THE SECOND FORM's CARD OF 'nsglaw9.CalendarRoundTrip'. -/
def calendarRoundTripUptoCard : Claim7 := { stood := { row := calendarRoundTripUptoRow, standIns := [], harness := (true, "c8260b0966d090707f0cdd442f7e45ece01da17799811b6d598485d115605f15"), looks := false }, kinds := [], alts := [], laidByText := true, laidKinds := [.widerDeep], laidTests := true, laidLooks := .later }
def CalendarRoundTripUptoCardSaid : Prop := Claim7.holds Tryd.pinned (.plain (OpenSpec.upto calendarRoundTripSpec)) calendarRoundTripUptoCard

/-- THE SECOND FORM's CARD OF 'nsglaw9.CalendarItems'. -/
def calendarItemsUptoCard : Claim7 := { stood := { row := calendarItemsUptoRow, standIns := [], harness := (true, "c8260b0966d090707f0cdd442f7e45ece01da17799811b6d598485d115605f15"), looks := false }, kinds := [], alts := [], laidByText := true, laidKinds := [.widerDeep], laidTests := true, laidLooks := .later }
def CalendarItemsUptoCardSaid : Prop := Claim7.holds Tryd.pinned (.plain (OpenSpec.upto calendarItemsSpec)) calendarItemsUptoCard

/-- THE SECOND FORM's CARD OF 'nsglaw9.CalendarSegments'. -/
def calendarSegmentsUptoCard : Claim7 := { stood := { row := calendarSegmentsUptoRow, standIns := [], harness := (true, "c8260b0966d090707f0cdd442f7e45ece01da17799811b6d598485d115605f15"), looks := false }, kinds := [], alts := [], laidByText := true, laidKinds := [.widerDeep], laidTests := true, laidLooks := .later }
def CalendarSegmentsUptoCardSaid : Prop := Claim7.holds Tryd.pinned (.plain (OpenSpec.upto calendarSegmentsSpec)) calendarSegmentsUptoCard
end Rows
end Go.Proofs.YtfhkmkbfgmbbaaaDoor
