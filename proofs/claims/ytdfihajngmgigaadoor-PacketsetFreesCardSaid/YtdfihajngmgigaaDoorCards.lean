/-
  DERIVED. GIVEN WITH THE SEED: THE CARDS: each row of YtdfihajngmgigaaDoorRows.lean that lists a variable, with what it lists TIED to the program's text (the seventh form; the later family's looks); each row that meets fmt, with fmt's text TOLD by the authors' own Lean function (tested against real Go, not proved from fmt's source: count such statements apart). THE CARD IS WHAT COUNTS. Prove the row's statement (the work); the ties are given (YtdfihajngmgigaaDoorTie.lean); close each card by the builder's one call (the guide's Derived/Test/ToyasCard.lean, 'card_holds'). Laid BY PROGRAM, IN A SANDBOX (cutbox-door.mjs). By AI agents, Wed Nov 11 2026. No macro, syntax, notation, axiom, sorry.
-/
import Derived.Test.YtdfihajngmgigaaDoorRows
import GoSem.ClaimSeven
namespace Go.Proofs.YtdfihajngmgigaaDoor
namespace Rows

/-- THE TIED CARD OF 'nsglaw4.PacketsetInitial'. -/
def packetsetInitialCard : Claim7 := { stood := { row := packetsetInitialRow, standIns := [], harness := (true, "47410018e878fd9765eb0b93334ef79f2cb17501f033caf5753d2c632452d036"), looks := false }, kinds := [], alts := [], laidByText := true, laidKinds := [.data], laidTests := true, laidLooks := .later }
def PacketsetInitialCardSaid : Prop := Claim7.holds Tryd.pinned (.plain (OpenSpec.ofChange packetsetInitialSpec)) packetsetInitialCard

/-- THE TIED CARD OF 'nsglaw4.PacketsetMembers'. -/
def packetsetMembersCard : Claim7 := { stood := { row := packetsetMembersRow, standIns := [], harness := (true, "47410018e878fd9765eb0b93334ef79f2cb17501f033caf5753d2c632452d036"), looks := false }, kinds := [], alts := [], laidByText := true, laidKinds := [.data], laidTests := true, laidLooks := .later }
def PacketsetMembersCardSaid : Prop := Claim7.holds Tryd.pinned (.plain (OpenSpec.ofChange packetsetMembersSpec)) packetsetMembersCard

/-- THE TIED CARD OF 'nsglaw4.PacketsetAlgebra'. -/
def packetsetAlgebraCard : Claim7 := { stood := { row := packetsetAlgebraRow, standIns := [], harness := (true, "47410018e878fd9765eb0b93334ef79f2cb17501f033caf5753d2c632452d036"), looks := false }, kinds := [], alts := [], laidByText := true, laidKinds := [.data], laidTests := true, laidLooks := .later }
def PacketsetAlgebraCardSaid : Prop := Claim7.holds Tryd.pinned (.plain (OpenSpec.ofChange packetsetAlgebraSpec)) packetsetAlgebraCard

/-- THE TIED CARD OF 'nsglaw4.PacketsetFrees'. -/
def packetsetFreesCard : Claim7 := { stood := { row := packetsetFreesRow, standIns := [], harness := (true, "47410018e878fd9765eb0b93334ef79f2cb17501f033caf5753d2c632452d036"), looks := false }, kinds := [], alts := [], laidByText := true, laidKinds := [.data], laidTests := true, laidLooks := .later }
def PacketsetFreesCardSaid : Prop := Claim7.holds Tryd.pinned (.plain (OpenSpec.ofChange packetsetFreesSpec)) packetsetFreesCard

/-- THE TIED CARD OF 'nsglaw4.PacketsetCanonical'. -/
def packetsetCanonicalCard : Claim7 := { stood := { row := packetsetCanonicalRow, standIns := [], harness := (true, "47410018e878fd9765eb0b93334ef79f2cb17501f033caf5753d2c632452d036"), looks := false }, kinds := [], alts := [], laidByText := true, laidKinds := [.data], laidTests := true, laidLooks := .later }
def PacketsetCanonicalCardSaid : Prop := Claim7.holds Tryd.pinned (.plain (OpenSpec.ofChange packetsetCanonicalSpec)) packetsetCanonicalCard

/-- THE TIED CARD OF 'nsglaw4.PacketsetDiffer'. -/
def packetsetDifferCard : Claim7 := { stood := { row := packetsetDifferRow, standIns := [], harness := (true, "47410018e878fd9765eb0b93334ef79f2cb17501f033caf5753d2c632452d036"), looks := false }, kinds := [], alts := [], laidByText := true, laidKinds := [.data], laidTests := true, laidLooks := .later }
def PacketsetDifferCardSaid : Prop := Claim7.holds Tryd.pinned (.plain (OpenSpec.ofChange packetsetDifferSpec)) packetsetDifferCard

/-- THE TIED CARD OF 'nsglaw4.PacketsetFree'. -/
def packetsetFreeCard : Claim7 := { stood := { row := packetsetFreeRow, standIns := [], harness := (true, "47410018e878fd9765eb0b93334ef79f2cb17501f033caf5753d2c632452d036"), looks := false }, kinds := [], alts := [], laidByText := true, laidKinds := [.data], laidTests := true, laidLooks := .later }
def PacketsetFreeCardSaid : Prop := Claim7.holds Tryd.pinned (.plain (OpenSpec.ofChange packetsetFreeSpec)) packetsetFreeCard

/-- THE SECOND FORM's CARD OF 'nsglaw4.PacketsetInitial'. -/
def packetsetInitialUptoCard : Claim7 := { stood := { row := packetsetInitialUptoRow, standIns := [], harness := (true, "47410018e878fd9765eb0b93334ef79f2cb17501f033caf5753d2c632452d036"), looks := false }, kinds := [], alts := [], laidByText := true, laidKinds := [.data], laidTests := true, laidLooks := .later }
def PacketsetInitialUptoCardSaid : Prop := Claim7.holds Tryd.pinned (.plain (OpenSpec.upto packetsetInitialSpec)) packetsetInitialUptoCard

/-- THE SECOND FORM's CARD OF 'nsglaw4.PacketsetMembers'. -/
def packetsetMembersUptoCard : Claim7 := { stood := { row := packetsetMembersUptoRow, standIns := [], harness := (true, "47410018e878fd9765eb0b93334ef79f2cb17501f033caf5753d2c632452d036"), looks := false }, kinds := [], alts := [], laidByText := true, laidKinds := [.data], laidTests := true, laidLooks := .later }
def PacketsetMembersUptoCardSaid : Prop := Claim7.holds Tryd.pinned (.plain (OpenSpec.upto packetsetMembersSpec)) packetsetMembersUptoCard

/-- THE SECOND FORM's CARD OF 'nsglaw4.PacketsetAlgebra'. -/
def packetsetAlgebraUptoCard : Claim7 := { stood := { row := packetsetAlgebraUptoRow, standIns := [], harness := (true, "47410018e878fd9765eb0b93334ef79f2cb17501f033caf5753d2c632452d036"), looks := false }, kinds := [], alts := [], laidByText := true, laidKinds := [.data], laidTests := true, laidLooks := .later }
def PacketsetAlgebraUptoCardSaid : Prop := Claim7.holds Tryd.pinned (.plain (OpenSpec.upto packetsetAlgebraSpec)) packetsetAlgebraUptoCard

/-- THE SECOND FORM's CARD OF 'nsglaw4.PacketsetFrees'. -/
def packetsetFreesUptoCard : Claim7 := { stood := { row := packetsetFreesUptoRow, standIns := [], harness := (true, "47410018e878fd9765eb0b93334ef79f2cb17501f033caf5753d2c632452d036"), looks := false }, kinds := [], alts := [], laidByText := true, laidKinds := [.data], laidTests := true, laidLooks := .later }
def PacketsetFreesUptoCardSaid : Prop := Claim7.holds Tryd.pinned (.plain (OpenSpec.upto packetsetFreesSpec)) packetsetFreesUptoCard

/-- THE SECOND FORM's CARD OF 'nsglaw4.PacketsetCanonical'. -/
def packetsetCanonicalUptoCard : Claim7 := { stood := { row := packetsetCanonicalUptoRow, standIns := [], harness := (true, "47410018e878fd9765eb0b93334ef79f2cb17501f033caf5753d2c632452d036"), looks := false }, kinds := [], alts := [], laidByText := true, laidKinds := [.data], laidTests := true, laidLooks := .later }
def PacketsetCanonicalUptoCardSaid : Prop := Claim7.holds Tryd.pinned (.plain (OpenSpec.upto packetsetCanonicalSpec)) packetsetCanonicalUptoCard

/-- THE SECOND FORM's CARD OF 'nsglaw4.PacketsetDiffer'. -/
def packetsetDifferUptoCard : Claim7 := { stood := { row := packetsetDifferUptoRow, standIns := [], harness := (true, "47410018e878fd9765eb0b93334ef79f2cb17501f033caf5753d2c632452d036"), looks := false }, kinds := [], alts := [], laidByText := true, laidKinds := [.data], laidTests := true, laidLooks := .later }
def PacketsetDifferUptoCardSaid : Prop := Claim7.holds Tryd.pinned (.plain (OpenSpec.upto packetsetDifferSpec)) packetsetDifferUptoCard

/-- THE SECOND FORM's CARD OF 'nsglaw4.PacketsetFree'. -/
def packetsetFreeUptoCard : Claim7 := { stood := { row := packetsetFreeUptoRow, standIns := [], harness := (true, "47410018e878fd9765eb0b93334ef79f2cb17501f033caf5753d2c632452d036"), looks := false }, kinds := [], alts := [], laidByText := true, laidKinds := [.data], laidTests := true, laidLooks := .later }
def PacketsetFreeUptoCardSaid : Prop := Claim7.holds Tryd.pinned (.plain (OpenSpec.upto packetsetFreeSpec)) packetsetFreeUptoCard
end Rows
end Go.Proofs.YtdfihajngmgigaaDoor
