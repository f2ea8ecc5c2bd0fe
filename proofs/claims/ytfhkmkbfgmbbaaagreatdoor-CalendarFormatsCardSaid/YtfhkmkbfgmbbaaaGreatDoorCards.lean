/-
  DERIVED. GIVEN WITH THE SEED: THE CARDS: each row of YtfhkmkbfgmbbaaaGreatDoorRows.lean that lists a variable, with what it lists TIED to the program's text (the seventh form; the later family's looks); each row that meets fmt, with fmt's text TOLD by the authors' own Lean function (tested against real Go, not proved from fmt's source: count such statements apart). THE CARD IS WHAT COUNTS. Prove the row's statement (the work); the ties are given (YtfhkmkbfgmbbaaaGreatDoorTie.lean); close each card by the builder's one call (the guide's Derived/Test/ToyasCard.lean, 'card_holds'). Laid BY PROGRAM, IN A SANDBOX (cutbox-door.mjs). By AI agents, Wed Nov 11 2026. No macro, syntax, notation, axiom, sorry.
-/
import Derived.Test.YtfhkmkbfgmbbaaaGreatDoorRows
import GoSem.ClaimSeven
namespace Go.Proofs.YtfhkmkbfgmbbaaaGreatDoor
namespace Rows

/-- THE TIED CARD OF 'nsglaw9.CalendarFormats'. -/
def calendarFormatsCard : Claim7 := { stood := { row := calendarFormatsRow, standIns := [], harness := (true, "63ddae7a707598835dbe9d445336c154a2caebd3d16b97d8a851ddb96d48e509"), looks := false }, kinds := [], alts := [], laidByText := true, laidKinds := [.widerDeep], laidTests := true, laidLooks := .later }
def CalendarFormatsCardSaid : Prop := Claim7.holds Tryz.pinned (.plain (OpenSpec.ofChange calendarFormatsSpec)) calendarFormatsCard

/-- THE SECOND FORM's CARD OF 'nsglaw9.CalendarFormats'. -/
def calendarFormatsUptoCard : Claim7 := { stood := { row := calendarFormatsUptoRow, standIns := [], harness := (true, "63ddae7a707598835dbe9d445336c154a2caebd3d16b97d8a851ddb96d48e509"), looks := false }, kinds := [], alts := [], laidByText := true, laidKinds := [.widerDeep], laidTests := true, laidLooks := .later }
def CalendarFormatsUptoCardSaid : Prop := Claim7.holds Tryz.pinned (.plain (OpenSpec.upto calendarFormatsSpec)) calendarFormatsUptoCard
end Rows
end Go.Proofs.YtfhkmkbfgmbbaaaGreatDoor
