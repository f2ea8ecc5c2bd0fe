/-
  DERIVED. GIVEN WITH THE SEED: THE CARDS: each row of YtjfiipbjphabeaaDoorRows.lean that lists a variable, with what it lists TIED to the program's text (the seventh form; the later family's looks); each row that meets fmt, with fmt's text TOLD by the authors' own Lean function (tested against real Go, not proved from fmt's source: count such statements apart). THE CARD IS WHAT COUNTS. Prove the row's statement (the work); the ties are given (YtjfiipbjphabeaaDoorTie.lean); close each card by the builder's one call (the guide's Derived/Test/ToyasCard.lean, 'card_holds'). Laid BY PROGRAM, IN A SANDBOX (cutbox-door.mjs). By AI agents, Wed Nov 11 2026. No macro, syntax, notation, axiom, sorry.
-/
import Derived.Test.YtjfiipbjphabeaaDoorRows
import GoSem.ClaimSeven
namespace Go.Proofs.YtjfiipbjphabeaaDoor
namespace Rows

/-- THE TIED CARD OF 'nsglaw24.PacketChecksum'. -/
def packetChecksumCard : Claim7 := { stood := { row := packetChecksumRow, standIns := [], harness := (true, "c41713f8db3555a250a2970f4cddcaa4424e50a3bc24e4bd60bd56e5fe032e43"), looks := false }, kinds := [], alts := [], laidByText := true, laidKinds := [.data], laidTests := true, laidLooks := .later }
def PacketChecksumCardSaid : Prop := Claim7.holds Tryd.pinned (.plain (OpenSpec.ofChange packetChecksumSpec)) packetChecksumCard

/-- THE TIED CARD OF 'nsglaw24.PacketChecksumVerifies'. -/
def packetChecksumVerifiesCard : Claim7 := { stood := { row := packetChecksumVerifiesRow, standIns := [], harness := (true, "c41713f8db3555a250a2970f4cddcaa4424e50a3bc24e4bd60bd56e5fe032e43"), looks := false }, kinds := [], alts := [], laidByText := true, laidKinds := [.data], laidTests := true, laidLooks := .later }
def PacketChecksumVerifiesCardSaid : Prop := Claim7.holds Tryd.pinned (.plain (OpenSpec.ofChange packetChecksumVerifiesSpec)) packetChecksumVerifiesCard

/-- THE TIED CARD OF 'nsglaw24.PacketReads'. -/
def packetReadsCard : Claim7 := { stood := { row := packetReadsRow, standIns := [], harness := (true, "c41713f8db3555a250a2970f4cddcaa4424e50a3bc24e4bd60bd56e5fe032e43"), looks := false }, kinds := [], alts := [], laidByText := true, laidKinds := [.data], laidTests := true, laidLooks := .later }
def PacketReadsCardSaid : Prop := Claim7.holds Tryd.pinned (.plain (OpenSpec.ofChange packetReadsSpec)) packetReadsCard

/-- THE TIED CARD OF 'nsglaw24.PacketWrites'. -/
def packetWritesCard : Claim7 := { stood := { row := packetWritesRow, standIns := [], harness := (true, "c41713f8db3555a250a2970f4cddcaa4424e50a3bc24e4bd60bd56e5fe032e43"), looks := false }, kinds := [], alts := [], laidByText := true, laidKinds := [.data], laidTests := true, laidLooks := .later }
def PacketWritesCardSaid : Prop := Claim7.holds Tryd.pinned (.plain (OpenSpec.ofChange packetWritesSpec)) packetWritesCard

/-- THE TIED CARD OF 'nsglaw24.PacketComesBack'. -/
def packetComesBackCard : Claim7 := { stood := { row := packetComesBackRow, standIns := [], harness := (true, "c41713f8db3555a250a2970f4cddcaa4424e50a3bc24e4bd60bd56e5fe032e43"), looks := false }, kinds := [], alts := [], laidByText := true, laidKinds := [.data], laidTests := true, laidLooks := .later }
def PacketComesBackCardSaid : Prop := Claim7.holds Tryd.pinned (.plain (OpenSpec.ofChange packetComesBackSpec)) packetComesBackCard

/-- THE TIED CARD OF 'nsglaw24.PacketNotices'. -/
def packetNoticesCard : Claim7 := { stood := { row := packetNoticesRow, standIns := [], harness := (true, "c41713f8db3555a250a2970f4cddcaa4424e50a3bc24e4bd60bd56e5fe032e43"), looks := false }, kinds := [], alts := [], laidByText := true, laidKinds := [.data], laidTests := true, laidLooks := .later }
def PacketNoticesCardSaid : Prop := Claim7.holds Tryd.pinned (.plain (OpenSpec.ofChange packetNoticesSpec)) packetNoticesCard

/-- THE TIED CARD OF 'nsglaw24.PacketProbes'. -/
def packetProbesCard : Claim7 := { stood := { row := packetProbesRow, standIns := [], harness := (true, "c41713f8db3555a250a2970f4cddcaa4424e50a3bc24e4bd60bd56e5fe032e43"), looks := false }, kinds := [], alts := [], laidByText := true, laidKinds := [.data], laidTests := true, laidLooks := .later }
def PacketProbesCardSaid : Prop := Claim7.holds Tryd.pinned (.plain (OpenSpec.ofChange packetProbesSpec)) packetProbesCard

/-- THE TIED CARD OF 'nsglaw24.PacketAnswers'. -/
def packetAnswersCard : Claim7 := { stood := { row := packetAnswersRow, standIns := [], harness := (true, "c41713f8db3555a250a2970f4cddcaa4424e50a3bc24e4bd60bd56e5fe032e43"), looks := false }, kinds := [], alts := [], laidByText := true, laidKinds := [.data], laidTests := true, laidLooks := .later }
def PacketAnswersCardSaid : Prop := Claim7.holds Tryd.pinned (.plain (OpenSpec.ofChange packetAnswersSpec)) packetAnswersCard

/-- THE TIED CARD OF 'nsglaw24.PacketHops'. -/
def packetHopsCard : Claim7 := { stood := { row := packetHopsRow, standIns := [], harness := (true, "c41713f8db3555a250a2970f4cddcaa4424e50a3bc24e4bd60bd56e5fe032e43"), looks := false }, kinds := [], alts := [], laidByText := true, laidKinds := [.data], laidTests := true, laidLooks := .later }
def PacketHopsCardSaid : Prop := Claim7.holds Tryd.pinned (.plain (OpenSpec.ofChange packetHopsSpec)) packetHopsCard

/-- THE TIED CARD OF 'nsglaw24.PacketRewrites'. -/
def packetRewritesCard : Claim7 := { stood := { row := packetRewritesRow, standIns := [], harness := (true, "c41713f8db3555a250a2970f4cddcaa4424e50a3bc24e4bd60bd56e5fe032e43"), looks := false }, kinds := [], alts := [], laidByText := true, laidKinds := [.data], laidTests := true, laidLooks := .later }
def PacketRewritesCardSaid : Prop := Claim7.holds Tryd.pinned (.plain (OpenSpec.ofChange packetRewritesSpec)) packetRewritesCard

/-- THE TIED CARD OF 'nsglaw24.PacketRewritesHeaderOnly'. -/
def packetRewritesHeaderOnlyCard : Claim7 := { stood := { row := packetRewritesHeaderOnlyRow, standIns := [], harness := (true, "c41713f8db3555a250a2970f4cddcaa4424e50a3bc24e4bd60bd56e5fe032e43"), looks := false }, kinds := [], alts := [], laidByText := true, laidKinds := [.data], laidTests := true, laidLooks := .later }
def PacketRewritesHeaderOnlyCardSaid : Prop := Claim7.holds Tryd.pinned (.plain (OpenSpec.ofChange packetRewritesHeaderOnlySpec)) packetRewritesHeaderOnlyCard

/-- THE SECOND FORM's CARD OF 'nsglaw24.PacketChecksum'. -/
def packetChecksumUptoCard : Claim7 := { stood := { row := packetChecksumUptoRow, standIns := [], harness := (true, "c41713f8db3555a250a2970f4cddcaa4424e50a3bc24e4bd60bd56e5fe032e43"), looks := false }, kinds := [], alts := [], laidByText := true, laidKinds := [.data], laidTests := true, laidLooks := .later }
def PacketChecksumUptoCardSaid : Prop := Claim7.holds Tryd.pinned (.plain (OpenSpec.upto packetChecksumSpec)) packetChecksumUptoCard

/-- THE SECOND FORM's CARD OF 'nsglaw24.PacketChecksumVerifies'. -/
def packetChecksumVerifiesUptoCard : Claim7 := { stood := { row := packetChecksumVerifiesUptoRow, standIns := [], harness := (true, "c41713f8db3555a250a2970f4cddcaa4424e50a3bc24e4bd60bd56e5fe032e43"), looks := false }, kinds := [], alts := [], laidByText := true, laidKinds := [.data], laidTests := true, laidLooks := .later }
def PacketChecksumVerifiesUptoCardSaid : Prop := Claim7.holds Tryd.pinned (.plain (OpenSpec.upto packetChecksumVerifiesSpec)) packetChecksumVerifiesUptoCard

/-- THE SECOND FORM's CARD OF 'nsglaw24.PacketReads'. -/
def packetReadsUptoCard : Claim7 := { stood := { row := packetReadsUptoRow, standIns := [], harness := (true, "c41713f8db3555a250a2970f4cddcaa4424e50a3bc24e4bd60bd56e5fe032e43"), looks := false }, kinds := [], alts := [], laidByText := true, laidKinds := [.data], laidTests := true, laidLooks := .later }
def PacketReadsUptoCardSaid : Prop := Claim7.holds Tryd.pinned (.plain (OpenSpec.upto packetReadsSpec)) packetReadsUptoCard

/-- THE SECOND FORM's CARD OF 'nsglaw24.PacketWrites'. -/
def packetWritesUptoCard : Claim7 := { stood := { row := packetWritesUptoRow, standIns := [], harness := (true, "c41713f8db3555a250a2970f4cddcaa4424e50a3bc24e4bd60bd56e5fe032e43"), looks := false }, kinds := [], alts := [], laidByText := true, laidKinds := [.data], laidTests := true, laidLooks := .later }
def PacketWritesUptoCardSaid : Prop := Claim7.holds Tryd.pinned (.plain (OpenSpec.upto packetWritesSpec)) packetWritesUptoCard

/-- THE SECOND FORM's CARD OF 'nsglaw24.PacketComesBack'. -/
def packetComesBackUptoCard : Claim7 := { stood := { row := packetComesBackUptoRow, standIns := [], harness := (true, "c41713f8db3555a250a2970f4cddcaa4424e50a3bc24e4bd60bd56e5fe032e43"), looks := false }, kinds := [], alts := [], laidByText := true, laidKinds := [.data], laidTests := true, laidLooks := .later }
def PacketComesBackUptoCardSaid : Prop := Claim7.holds Tryd.pinned (.plain (OpenSpec.upto packetComesBackSpec)) packetComesBackUptoCard

/-- THE SECOND FORM's CARD OF 'nsglaw24.PacketNotices'. -/
def packetNoticesUptoCard : Claim7 := { stood := { row := packetNoticesUptoRow, standIns := [], harness := (true, "c41713f8db3555a250a2970f4cddcaa4424e50a3bc24e4bd60bd56e5fe032e43"), looks := false }, kinds := [], alts := [], laidByText := true, laidKinds := [.data], laidTests := true, laidLooks := .later }
def PacketNoticesUptoCardSaid : Prop := Claim7.holds Tryd.pinned (.plain (OpenSpec.upto packetNoticesSpec)) packetNoticesUptoCard

/-- THE SECOND FORM's CARD OF 'nsglaw24.PacketProbes'. -/
def packetProbesUptoCard : Claim7 := { stood := { row := packetProbesUptoRow, standIns := [], harness := (true, "c41713f8db3555a250a2970f4cddcaa4424e50a3bc24e4bd60bd56e5fe032e43"), looks := false }, kinds := [], alts := [], laidByText := true, laidKinds := [.data], laidTests := true, laidLooks := .later }
def PacketProbesUptoCardSaid : Prop := Claim7.holds Tryd.pinned (.plain (OpenSpec.upto packetProbesSpec)) packetProbesUptoCard

/-- THE SECOND FORM's CARD OF 'nsglaw24.PacketAnswers'. -/
def packetAnswersUptoCard : Claim7 := { stood := { row := packetAnswersUptoRow, standIns := [], harness := (true, "c41713f8db3555a250a2970f4cddcaa4424e50a3bc24e4bd60bd56e5fe032e43"), looks := false }, kinds := [], alts := [], laidByText := true, laidKinds := [.data], laidTests := true, laidLooks := .later }
def PacketAnswersUptoCardSaid : Prop := Claim7.holds Tryd.pinned (.plain (OpenSpec.upto packetAnswersSpec)) packetAnswersUptoCard

/-- THE SECOND FORM's CARD OF 'nsglaw24.PacketHops'. -/
def packetHopsUptoCard : Claim7 := { stood := { row := packetHopsUptoRow, standIns := [], harness := (true, "c41713f8db3555a250a2970f4cddcaa4424e50a3bc24e4bd60bd56e5fe032e43"), looks := false }, kinds := [], alts := [], laidByText := true, laidKinds := [.data], laidTests := true, laidLooks := .later }
def PacketHopsUptoCardSaid : Prop := Claim7.holds Tryd.pinned (.plain (OpenSpec.upto packetHopsSpec)) packetHopsUptoCard

/-- THE SECOND FORM's CARD OF 'nsglaw24.PacketRewrites'. -/
def packetRewritesUptoCard : Claim7 := { stood := { row := packetRewritesUptoRow, standIns := [], harness := (true, "c41713f8db3555a250a2970f4cddcaa4424e50a3bc24e4bd60bd56e5fe032e43"), looks := false }, kinds := [], alts := [], laidByText := true, laidKinds := [.data], laidTests := true, laidLooks := .later }
def PacketRewritesUptoCardSaid : Prop := Claim7.holds Tryd.pinned (.plain (OpenSpec.upto packetRewritesSpec)) packetRewritesUptoCard

/-- THE SECOND FORM's CARD OF 'nsglaw24.PacketRewritesHeaderOnly'. -/
def packetRewritesHeaderOnlyUptoCard : Claim7 := { stood := { row := packetRewritesHeaderOnlyUptoRow, standIns := [], harness := (true, "c41713f8db3555a250a2970f4cddcaa4424e50a3bc24e4bd60bd56e5fe032e43"), looks := false }, kinds := [], alts := [], laidByText := true, laidKinds := [.data], laidTests := true, laidLooks := .later }
def PacketRewritesHeaderOnlyUptoCardSaid : Prop := Claim7.holds Tryd.pinned (.plain (OpenSpec.upto packetRewritesHeaderOnlySpec)) packetRewritesHeaderOnlyUptoCard
end Rows
end Go.Proofs.YtjfiipbjphabeaaDoor
