/-
  DERIVED. GIVEN WITH THE SEED: THE CARDS: each row of YtjoionnnpjajmaaDoorRows.lean that lists a variable, with what it lists TIED to the program's text (the seventh form; the later family's looks); each row that meets fmt, with fmt's text TOLD by the authors' own Lean function (tested against real Go, not proved from fmt's source: count such statements apart). THE CARD IS WHAT COUNTS. Prove the row's statement (the work); the ties are given (YtjoionnnpjajmaaDoorTie.lean); close each card by the builder's one call (the guide's Derived/Test/ToyasCard.lean, 'card_holds'). Laid BY PROGRAM, IN A SANDBOX (cutbox-door.mjs). By AI agents, Wed Nov 11 2026. No macro, syntax, notation, axiom, sorry.
-/
import Derived.Test.YtjoionnnpjajmaaDoorRows
import GoSem.ClaimSeven
namespace Go.Proofs.YtjoionnnpjajmaaDoor
namespace Rows

/-- THE TIED CARD OF 'nsglaw32.ShadowCleans'. -/
def shadowCleansCard : Claim7 := { stood := { row := shadowCleansRow, standIns := [], harness := (true, "2a21681038a505b1ea2f77529bc59482be60045dd007a3f2722642e0a3f14fae"), looks := false }, kinds := [], alts := [], laidByText := true, laidKinds := [.data], laidTests := true, laidLooks := .later }
def ShadowCleansCardSaid : Prop := Claim7.holds Tryd.pinned (.plain (OpenSpec.ofChange shadowCleansSpec)) shadowCleansCard

/-- THE TIED CARD OF 'nsglaw32.ShadowDead'. -/
def shadowDeadCard : Claim7 := { stood := { row := shadowDeadRow, standIns := [], harness := (true, "2a21681038a505b1ea2f77529bc59482be60045dd007a3f2722642e0a3f14fae"), looks := false }, kinds := [], alts := [], laidByText := true, laidKinds := [.data], laidTests := true, laidLooks := .later }
def ShadowDeadCardSaid : Prop := Claim7.holds Tryd.pinned (.plain (OpenSpec.ofChange shadowDeadSpec)) shadowDeadCard

/-- THE TIED CARD OF 'nsglaw32.ShadowRemovesNothing'. -/
def shadowRemovesNothingCard : Claim7 := { stood := { row := shadowRemovesNothingRow, standIns := [], harness := (true, "2a21681038a505b1ea2f77529bc59482be60045dd007a3f2722642e0a3f14fae"), looks := false }, kinds := [], alts := [], laidByText := true, laidKinds := [.data], laidTests := true, laidLooks := .later }
def ShadowRemovesNothingCardSaid : Prop := Claim7.holds Tryd.pinned (.plain (OpenSpec.ofChange shadowRemovesNothingSpec)) shadowRemovesNothingCard

/-- THE SECOND FORM's CARD OF 'nsglaw32.ShadowCleans'. -/
def shadowCleansUptoCard : Claim7 := { stood := { row := shadowCleansUptoRow, standIns := [], harness := (true, "2a21681038a505b1ea2f77529bc59482be60045dd007a3f2722642e0a3f14fae"), looks := false }, kinds := [], alts := [], laidByText := true, laidKinds := [.data], laidTests := true, laidLooks := .later }
def ShadowCleansUptoCardSaid : Prop := Claim7.holds Tryd.pinned (.plain (OpenSpec.upto shadowCleansSpec)) shadowCleansUptoCard

/-- THE SECOND FORM's CARD OF 'nsglaw32.ShadowDead'. -/
def shadowDeadUptoCard : Claim7 := { stood := { row := shadowDeadUptoRow, standIns := [], harness := (true, "2a21681038a505b1ea2f77529bc59482be60045dd007a3f2722642e0a3f14fae"), looks := false }, kinds := [], alts := [], laidByText := true, laidKinds := [.data], laidTests := true, laidLooks := .later }
def ShadowDeadUptoCardSaid : Prop := Claim7.holds Tryd.pinned (.plain (OpenSpec.upto shadowDeadSpec)) shadowDeadUptoCard

/-- THE SECOND FORM's CARD OF 'nsglaw32.ShadowRemovesNothing'. -/
def shadowRemovesNothingUptoCard : Claim7 := { stood := { row := shadowRemovesNothingUptoRow, standIns := [], harness := (true, "2a21681038a505b1ea2f77529bc59482be60045dd007a3f2722642e0a3f14fae"), looks := false }, kinds := [], alts := [], laidByText := true, laidKinds := [.data], laidTests := true, laidLooks := .later }
def ShadowRemovesNothingUptoCardSaid : Prop := Claim7.holds Tryd.pinned (.plain (OpenSpec.upto shadowRemovesNothingSpec)) shadowRemovesNothingUptoCard
end Rows
end Go.Proofs.YtjoionnnpjajmaaDoor
