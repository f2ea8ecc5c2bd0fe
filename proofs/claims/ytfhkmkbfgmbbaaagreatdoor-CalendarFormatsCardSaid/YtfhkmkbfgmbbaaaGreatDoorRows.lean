/-
  NARROWER THAN 'FOR EVERY INPUT', by the rows' own cells (each row's printed sentence says how): CalendarFormats: laid.
  DERIVED. THE GIVEN ROWS OF THIS SEAT. 1 by the template 'for every input the law returns true; each argument reads behind the call as it read before'; 0 by the template 'total and deterministic' (their statements: YtfhkmkbfgmbbaaaGreatDoorTotals.lean).
  GIVEN WITH THE SEED: the statements are not yours to turn. If you find one false, say at which input.
  Laid BY PROGRAM, IN A SANDBOX (cutbox-rows.mjs): the forced cells as the released guide's own fill.sh prints them over the translation 18e35ccad4574f1d… (all of the seat's roots in one cut). By AI agents, Wed Nov 11 2026. No macro, syntax, notation, axiom, sorry.
-/
import Derived.Test.YtfhkmkbfgmbbaaaGreatDoorChecked
import GoSem.Claim
import GoSem.ClaimJoined
import GoSem.ClaimMapViews
import Derived.JoinedTies
import Derived.KernelRfl
namespace Go.Proofs.YtfhkmkbfgmbbaaaGreatDoor
/- THE CELL 'sum', in the pinned program and in every row, IS THE sha256 OF THE DUMP (.gsa) THAT YtfhkmkbfgmbbaaaGreatDoorProg.lean LOADS. Nothing in Lean hashes anything: it is a label: what it is worth is what the hold of that sum in a sandbox is worth. -/
noncomputable def Tryz.pinned : Pinned := { name := "ytfhkmkbfgmbbaaagreatdoor", sum := "18e35ccad4574f1da064364d4534692d9f5b63db37336c61005b2bf09780f1dd", checked := Tryz.checked }
namespace Rows
def none {H : Type} : Left H := { results := [], args := [] }

/- WHAT THE LISTED PACKAGE-LEVEL VARIABLES READ AS WHEN THE CALL BEGINS. Each datum BY PROGRAM (the guide's laid-datum.mjs) off the statement by which the dump's own 'gosem.cut.vars' lays the variable. In a bare row this is a premise. The card (YtfhkmkbfgmbbaaaGreatDoorCards.lean) ties it to the program's text. -/
def laid_netsegment_calendar_names {H : Type} : DataW H := .agg [.lit (.string [109, 111, 110]), .lit (.string [116, 117, 101]), .lit (.string [119, 101, 100]), .lit (.string [116, 104, 117]), .lit (.string [102, 114, 105]), .lit (.string [115, 97, 116]), .lit (.string [115, 117, 110])]

/-- 'nsglaw9.CalendarFormats': WHATEVER THE INPUT: true; the input reads as it did. -/
def calendarFormatsSpec : ChangeSpec := { name := "calendarFormats", fn := fun _ => fun
  | [d1, d2, d3] => { results := [.lit (.bool true)], args := [d1, d2, d3] }
  | _ => none }
def calendarFormatsRow : OpenClaim := { program := "ytfhkmkbfgmbbaaagreatdoor", sum := "18e35ccad4574f1da064364d4534692d9f5b63db37336c61005b2bf09780f1dd", func := "netsegment/nsglaw9.CalendarFormats", spec := "calendarFormats", inPlace := ["internal/bytealg.IndexByteString", "internal/bytealg.IndexString"], unfollowed := true, recurses := true, named := ["netsegment/calendar.names", "internal/bytealg.MaxLen"], apart := false, laid := [("netsegment/calendar.names", laid_netsegment_calendar_names)] }
def CalendarFormatsSaid : Prop := calendarFormatsRow.holds Tryz.pinned (OpenSpec.ofChange calendarFormatsSpec)

/-- ITS FALSE NEIGHBOUR: 'it returns false'. Refute it at one input. -/
def calendarFormatsWrong : ChangeSpec := { name := "calendarFormats", fn := fun _ => fun
  | [d1, d2, d3] => { results := [.lit (.bool false)], args := [d1, d2, d3] }
  | _ => none }
def CalendarFormatsWrongFalsely : Prop := calendarFormatsRow.holds Tryz.pinned (OpenSpec.ofChange calendarFormatsWrong)

/- THE SECOND FORM. 'bulk': how many values and letters a reading holds, each counted each time it is reached (what is shared counts as often as it is met; a slice's spare places count too). A statement '..UptoSaid' is the law's where the arguments, and the package variables that the reading takes, are together of bulk at most 1048576: NARROWER than '..Said'. Prove '..Said' where nothing that the law and all that it calls make is longer than what came in: it says more and counts as full. Else prove '..UptoSaid'. A law counts once. -/
mutual
def uptoBulk {H : Type} : DataW H → Nat
  | .lit (.string bytes) => bytes.length + 1
  | .lit _ => 1
  | .nil => 1
  | .ptr d => uptoBulk d + 1
  | .slice elems spare => uptoBulkAll elems + uptoBulkAll spare + 1
  | .agg parts => uptoBulkAll parts + 1
  | .iface _ d => uptoBulk d + 1
  | .map entries => uptoBulkEntries entries + 1
  | .held _ => 1
def uptoBulkAll {H : Type} : List (DataW H) → Nat
  | [] => 0
  | d :: r => uptoBulk d + uptoBulkAll r
def uptoBulkEntries {H : Type} : List (Lit × DataW H) → Nat
  | [] => 0
  | x :: r => uptoBulkEntry x + uptoBulkEntries r
def uptoBulkEntry {H : Type} : Lit × DataW H → Nat
  | (.string bytes, d) => bytes.length + uptoBulk d + 1
  | (_, d) => uptoBulk d + 1
 end
def uptoSmall : (H : Type) → List (DataW H) → Bool := fun _ ds => decide (uptoBulkAll ds ≤ 1048576)
def OpenSpec.upto (s : _root_.Go.ChangeSpec) : _root_.Go.OpenSpec := { _root_.Go.OpenSpec.ofChange s with cond := some uptoSmall }

/-- 'nsglaw9.CalendarFormats', WHERE WHAT IT READS IS OF BULK AT MOST 1048576: true; the input reads as it did. -/
def calendarFormatsUptoRow : OpenClaim := { program := "ytfhkmkbfgmbbaaagreatdoor", sum := "18e35ccad4574f1da064364d4534692d9f5b63db37336c61005b2bf09780f1dd", func := "netsegment/nsglaw9.CalendarFormats", spec := "calendarFormats", inPlace := ["internal/bytealg.IndexByteString", "internal/bytealg.IndexString"], unfollowed := true, recurses := true, named := ["netsegment/calendar.names", "internal/bytealg.MaxLen"], apart := false, laid := [("netsegment/calendar.names", laid_netsegment_calendar_names)], narrowed := true }
def CalendarFormatsUptoSaid : Prop := calendarFormatsUptoRow.holds Tryz.pinned (OpenSpec.upto calendarFormatsSpec)

end Rows
end Go.Proofs.YtfhkmkbfgmbbaaaGreatDoor
