/-
  NARROWER THAN 'FOR EVERY INPUT', by the rows' own cells (each row's printed sentence says how): CalendarMoments: laid · CalendarParses: laid · CalendarRoundTrip: laid · CalendarItems: laid · CalendarSegments: laid.
  DERIVED. THE GIVEN ROWS OF THIS SEAT. 5 by the template 'for every input the law returns true; each argument reads behind the call as it read before'; 0 by the template 'total and deterministic' (their statements: YtfhkmkbfgmbbaaaDoorTotals.lean).
  GIVEN WITH THE SEED: the statements are not yours to turn. If you find one false, say at which input.
  Laid BY PROGRAM, IN A SANDBOX (cutbox-rows.mjs): the forced cells as the released guide's own fill.sh prints them over the translation e22f09924b509a65… (all of the seat's roots in one cut). By AI agents, Wed Nov 11 2026. No macro, syntax, notation, axiom, sorry.
-/
import Derived.Test.YtfhkmkbfgmbbaaaDoorChecked
import GoSem.Claim
import GoSem.ClaimJoined
import GoSem.ClaimMapViews
import Derived.JoinedTies
import Derived.KernelRfl
namespace Go.Proofs.YtfhkmkbfgmbbaaaDoor
/- THE CELL 'sum', in the pinned program and in every row, IS THE sha256 OF THE DUMP (.gsa) THAT YtfhkmkbfgmbbaaaDoorProg.lean LOADS. Nothing in Lean hashes anything: it is a label: what it is worth is what the hold of that sum in a sandbox is worth. -/
noncomputable def Tryd.pinned : Pinned := { name := "ytfhkmkbfgmbbaaadoor", sum := "e22f09924b509a652d3288fb7f7f1fb5a74d7b4566b3731b1964d4756d24291e", checked := Tryd.checked }
namespace Rows
def none {H : Type} : Left H := { results := [], args := [] }

/- WHAT THE LISTED PACKAGE-LEVEL VARIABLES READ AS WHEN THE CALL BEGINS. Each datum BY PROGRAM (the guide's laid-datum.mjs) off the statement by which the dump's own 'gosem.cut.vars' lays the variable. In a bare row this is a premise. The card (YtfhkmkbfgmbbaaaDoorCards.lean) ties it to the program's text. -/
def laid_netsegment_calendar_names {H : Type} : DataW H := .agg [.lit (.string [109, 111, 110]), .lit (.string [116, 117, 101]), .lit (.string [119, 101, 100]), .lit (.string [116, 104, 117]), .lit (.string [102, 114, 105]), .lit (.string [115, 97, 116]), .lit (.string [115, 117, 110])]

/-- 'nsglaw9.CalendarMoments': WHATEVER THE INPUT: true; the input reads as it did. -/
def calendarMomentsSpec : ChangeSpec := { name := "calendarMoments", fn := fun _ => fun
  | [d1, d2, d3] => { results := [.lit (.bool true)], args := [d1, d2, d3] }
  | _ => none }
def calendarMomentsRow : OpenClaim := { program := "ytfhkmkbfgmbbaaadoor", sum := "e22f09924b509a652d3288fb7f7f1fb5a74d7b4566b3731b1964d4756d24291e", func := "netsegment/nsglaw9.CalendarMoments", spec := "calendarMoments", inPlace := ["internal/bytealg.IndexByteString", "internal/bytealg.IndexString"], unfollowed := true, recurses := true, named := ["internal/bytealg.MaxLen", "netsegment/calendar.names"], apart := false, laid := [("netsegment/calendar.names", laid_netsegment_calendar_names)] }
def CalendarMomentsSaid : Prop := calendarMomentsRow.holds Tryd.pinned (OpenSpec.ofChange calendarMomentsSpec)

/-- ITS FALSE NEIGHBOUR: 'it returns false'. Refute it at one input. -/
def calendarMomentsWrong : ChangeSpec := { name := "calendarMoments", fn := fun _ => fun
  | [d1, d2, d3] => { results := [.lit (.bool false)], args := [d1, d2, d3] }
  | _ => none }
def CalendarMomentsWrongFalsely : Prop := calendarMomentsRow.holds Tryd.pinned (OpenSpec.ofChange calendarMomentsWrong)

/-- 'nsglaw9.CalendarParses': WHATEVER THE INPUT: true; the input reads as it did. -/
def calendarParsesSpec : ChangeSpec := { name := "calendarParses", fn := fun _ => fun
  | [d1, d2] => { results := [.lit (.bool true)], args := [d1, d2] }
  | _ => none }
def calendarParsesRow : OpenClaim := { program := "ytfhkmkbfgmbbaaadoor", sum := "e22f09924b509a652d3288fb7f7f1fb5a74d7b4566b3731b1964d4756d24291e", func := "netsegment/nsglaw9.CalendarParses", spec := "calendarParses", inPlace := ["internal/bytealg.IndexByteString", "internal/bytealg.IndexString"], unfollowed := true, recurses := true, named := ["internal/bytealg.MaxLen", "netsegment/calendar.names"], apart := false, laid := [("netsegment/calendar.names", laid_netsegment_calendar_names)] }
def CalendarParsesSaid : Prop := calendarParsesRow.holds Tryd.pinned (OpenSpec.ofChange calendarParsesSpec)

/-- ITS FALSE NEIGHBOUR: 'it returns false'. Refute it at one input. -/
def calendarParsesWrong : ChangeSpec := { name := "calendarParses", fn := fun _ => fun
  | [d1, d2] => { results := [.lit (.bool false)], args := [d1, d2] }
  | _ => none }
def CalendarParsesWrongFalsely : Prop := calendarParsesRow.holds Tryd.pinned (OpenSpec.ofChange calendarParsesWrong)

/-- 'nsglaw9.CalendarRoundTrip': WHATEVER THE INPUT: true; the input reads as it did. -/
def calendarRoundTripSpec : ChangeSpec := { name := "calendarRoundTrip", fn := fun _ => fun
  | [d1, d2] => { results := [.lit (.bool true)], args := [d1, d2] }
  | _ => none }
def calendarRoundTripRow : OpenClaim := { program := "ytfhkmkbfgmbbaaadoor", sum := "e22f09924b509a652d3288fb7f7f1fb5a74d7b4566b3731b1964d4756d24291e", func := "netsegment/nsglaw9.CalendarRoundTrip", spec := "calendarRoundTrip", inPlace := ["internal/bytealg.IndexByteString", "internal/bytealg.IndexString"], unfollowed := true, recurses := true, named := ["netsegment/calendar.names", "internal/bytealg.MaxLen"], apart := false, laid := [("netsegment/calendar.names", laid_netsegment_calendar_names)] }
def CalendarRoundTripSaid : Prop := calendarRoundTripRow.holds Tryd.pinned (OpenSpec.ofChange calendarRoundTripSpec)

/-- ITS FALSE NEIGHBOUR: 'it returns false'. Refute it at one input. -/
def calendarRoundTripWrong : ChangeSpec := { name := "calendarRoundTrip", fn := fun _ => fun
  | [d1, d2] => { results := [.lit (.bool false)], args := [d1, d2] }
  | _ => none }
def CalendarRoundTripWrongFalsely : Prop := calendarRoundTripRow.holds Tryd.pinned (OpenSpec.ofChange calendarRoundTripWrong)

/-- 'nsglaw9.CalendarItems': WHATEVER THE INPUT: true; the input reads as it did. -/
def calendarItemsSpec : ChangeSpec := { name := "calendarItems", fn := fun _ => fun
  | [d] => { results := [.lit (.bool true)], args := [d] }
  | _ => none }
def calendarItemsRow : OpenClaim := { program := "ytfhkmkbfgmbbaaadoor", sum := "e22f09924b509a652d3288fb7f7f1fb5a74d7b4566b3731b1964d4756d24291e", func := "netsegment/nsglaw9.CalendarItems", spec := "calendarItems", inPlace := ["internal/bytealg.IndexByteString", "internal/bytealg.IndexString"], unfollowed := true, recurses := true, named := ["internal/bytealg.MaxLen", "netsegment/calendar.names"], apart := false, laid := [("netsegment/calendar.names", laid_netsegment_calendar_names)] }
def CalendarItemsSaid : Prop := calendarItemsRow.holds Tryd.pinned (OpenSpec.ofChange calendarItemsSpec)

/-- ITS FALSE NEIGHBOUR: 'it returns false'. Refute it at one input. -/
def calendarItemsWrong : ChangeSpec := { name := "calendarItems", fn := fun _ => fun
  | [d] => { results := [.lit (.bool false)], args := [d] }
  | _ => none }
def CalendarItemsWrongFalsely : Prop := calendarItemsRow.holds Tryd.pinned (OpenSpec.ofChange calendarItemsWrong)

/-- 'nsglaw9.CalendarSegments': WHATEVER THE INPUT: true; the input reads as it did. -/
def calendarSegmentsSpec : ChangeSpec := { name := "calendarSegments", fn := fun _ => fun
  | [d1, d2] => { results := [.lit (.bool true)], args := [d1, d2] }
  | _ => none }
def calendarSegmentsRow : OpenClaim := { program := "ytfhkmkbfgmbbaaadoor", sum := "e22f09924b509a652d3288fb7f7f1fb5a74d7b4566b3731b1964d4756d24291e", func := "netsegment/nsglaw9.CalendarSegments", spec := "calendarSegments", inPlace := ["internal/bytealg.IndexByteString", "internal/bytealg.IndexString"], unfollowed := true, recurses := true, named := ["internal/bytealg.MaxLen", "netsegment/calendar.names"], apart := false, laid := [("netsegment/calendar.names", laid_netsegment_calendar_names)] }
def CalendarSegmentsSaid : Prop := calendarSegmentsRow.holds Tryd.pinned (OpenSpec.ofChange calendarSegmentsSpec)

/-- ITS FALSE NEIGHBOUR: 'it returns false'. Refute it at one input. -/
def calendarSegmentsWrong : ChangeSpec := { name := "calendarSegments", fn := fun _ => fun
  | [d1, d2] => { results := [.lit (.bool false)], args := [d1, d2] }
  | _ => none }
def CalendarSegmentsWrongFalsely : Prop := calendarSegmentsRow.holds Tryd.pinned (OpenSpec.ofChange calendarSegmentsWrong)

/- THE SECOND FORM. 'bulk': how many values and letters a reading holds, each counted each time it is reached (what is shared counts as often as it is met; a slice's spare places count too). A statement '..UptoSaid' is the law's where the arguments, and the package variables that the reading takes, are together of bulk at most 1048576: NARROWER than '..Said'. Prove '..Said' where nothing that the law and all that it calls make is longer than what came in: it says more and counts as full. Else prove '..UptoSaid'. A law counts once. -/
mutual
def uptoBulk {H : Type} : DataW H → Nat
  | .lit (.string bytes) => bytes.length + 1
  | .lit _ => 1
  | .nil => 1
  | .ptr d => uptoBulk d + 1
  | .slice elems spare => uptoBulkAll elems + uptoBulkAll spare + 1
  | .agg parts => uptoBulkAll parts + 1
  | .iface _ d => uptoBulk d + 1
  | .map entries => uptoBulkEntries entries + 1
  | .held _ => 1
def uptoBulkAll {H : Type} : List (DataW H) → Nat
  | [] => 0
  | d :: r => uptoBulk d + uptoBulkAll r
def uptoBulkEntries {H : Type} : List (Lit × DataW H) → Nat
  | [] => 0
  | x :: r => uptoBulkEntry x + uptoBulkEntries r
def uptoBulkEntry {H : Type} : Lit × DataW H → Nat
  | (.string bytes, d) => bytes.length + uptoBulk d + 1
  | (_, d) => uptoBulk d + 1
 end
def uptoSmall : (H : Type) → List (DataW H) → Bool := fun _ ds => decide (uptoBulkAll ds ≤ 1048576)
def OpenSpec.upto (s : _root_.Go.ChangeSpec) : _root_.Go.OpenSpec := { _root_.Go.OpenSpec.ofChange s with cond := some uptoSmall }

/-- 'nsglaw9.CalendarMoments', WHERE WHAT IT READS IS OF BULK AT MOST 1048576: true; the input reads as it did. -/
def calendarMomentsUptoRow : OpenClaim := { program := "ytfhkmkbfgmbbaaadoor", sum := "e22f09924b509a652d3288fb7f7f1fb5a74d7b4566b3731b1964d4756d24291e", func := "netsegment/nsglaw9.CalendarMoments", spec := "calendarMoments", inPlace := ["internal/bytealg.IndexByteString", "internal/bytealg.IndexString"], unfollowed := true, recurses := true, named := ["internal/bytealg.MaxLen", "netsegment/calendar.names"], apart := false, laid := [("netsegment/calendar.names", laid_netsegment_calendar_names)], narrowed := true }
def CalendarMomentsUptoSaid : Prop := calendarMomentsUptoRow.holds Tryd.pinned (OpenSpec.upto calendarMomentsSpec)

/-- 'nsglaw9.CalendarParses', WHERE WHAT IT READS IS OF BULK AT MOST 1048576: true; the input reads as it did. -/
def calendarParsesUptoRow : OpenClaim := { program := "ytfhkmkbfgmbbaaadoor", sum := "e22f09924b509a652d3288fb7f7f1fb5a74d7b4566b3731b1964d4756d24291e", func := "netsegment/nsglaw9.CalendarParses", spec := "calendarParses", inPlace := ["internal/bytealg.IndexByteString", "internal/bytealg.IndexString"], unfollowed := true, recurses := true, named := ["internal/bytealg.MaxLen", "netsegment/calendar.names"], apart := false, laid := [("netsegment/calendar.names", laid_netsegment_calendar_names)], narrowed := true }
def CalendarParsesUptoSaid : Prop := calendarParsesUptoRow.holds Tryd.pinned (OpenSpec.upto calendarParsesSpec)

/-- 'nsglaw9.CalendarRoundTrip', WHERE WHAT IT READS IS OF BULK AT MOST 1048576: true; the input reads as it did. -/
def calendarRoundTripUptoRow : OpenClaim := { program := "ytfhkmkbfgmbbaaadoor", sum := "e22f09924b509a652d3288fb7f7f1fb5a74d7b4566b3731b1964d4756d24291e", func := "netsegment/nsglaw9.CalendarRoundTrip", spec := "calendarRoundTrip", inPlace := ["internal/bytealg.IndexByteString", "internal/bytealg.IndexString"], unfollowed := true, recurses := true, named := ["netsegment/calendar.names", "internal/bytealg.MaxLen"], apart := false, laid := [("netsegment/calendar.names", laid_netsegment_calendar_names)], narrowed := true }
def CalendarRoundTripUptoSaid : Prop := calendarRoundTripUptoRow.holds Tryd.pinned (OpenSpec.upto calendarRoundTripSpec)

/-- 'nsglaw9.CalendarItems', WHERE WHAT IT READS IS OF BULK AT MOST 1048576: true; the input reads as it did. -/
def calendarItemsUptoRow : OpenClaim := { program := "ytfhkmkbfgmbbaaadoor", sum := "e22f09924b509a652d3288fb7f7f1fb5a74d7b4566b3731b1964d4756d24291e", func := "netsegment/nsglaw9.CalendarItems", spec := "calendarItems", inPlace := ["internal/bytealg.IndexByteString", "internal/bytealg.IndexString"], unfollowed := true, recurses := true, named := ["internal/bytealg.MaxLen", "netsegment/calendar.names"], apart := false, laid := [("netsegment/calendar.names", laid_netsegment_calendar_names)], narrowed := true }
def CalendarItemsUptoSaid : Prop := calendarItemsUptoRow.holds Tryd.pinned (OpenSpec.upto calendarItemsSpec)

/-- 'nsglaw9.CalendarSegments', WHERE WHAT IT READS IS OF BULK AT MOST 1048576: true; the input reads as it did. -/
def calendarSegmentsUptoRow : OpenClaim := { program := "ytfhkmkbfgmbbaaadoor", sum := "e22f09924b509a652d3288fb7f7f1fb5a74d7b4566b3731b1964d4756d24291e", func := "netsegment/nsglaw9.CalendarSegments", spec := "calendarSegments", inPlace := ["internal/bytealg.IndexByteString", "internal/bytealg.IndexString"], unfollowed := true, recurses := true, named := ["internal/bytealg.MaxLen", "netsegment/calendar.names"], apart := false, laid := [("netsegment/calendar.names", laid_netsegment_calendar_names)], narrowed := true }
def CalendarSegmentsUptoSaid : Prop := calendarSegmentsUptoRow.holds Tryd.pinned (OpenSpec.upto calendarSegmentsSpec)

end Rows
end Go.Proofs.YtfhkmkbfgmbbaaaDoor
