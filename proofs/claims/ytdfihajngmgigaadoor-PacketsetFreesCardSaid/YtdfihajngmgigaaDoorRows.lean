/-
  NARROWER THAN 'FOR EVERY INPUT', by the rows' own cells (each row's printed sentence says how): PacketsetInitial: laid · PacketsetMembers: laid · PacketsetAlgebra: laid · PacketsetFrees: laid · PacketsetCanonical: laid · PacketsetDiffer: laid · PacketsetFree: laid.
  DERIVED. THE GIVEN ROWS OF THIS SEAT. 7 by the template 'for every input the law returns true; each argument reads behind the call as it read before'; 0 by the template 'total and deterministic' (their statements: YtdfihajngmgigaaDoorTotals.lean).
  GIVEN WITH THE SEED: the statements are not yours to turn. If you find one false, say at which input.
  Laid BY PROGRAM, IN A SANDBOX (cutbox-rows.mjs): the forced cells as the released guide's own fill.sh prints them over the translation 372cbdb364dc7bde… (all of the seat's roots in one cut). By AI agents, Wed Nov 11 2026. No macro, syntax, notation, axiom, sorry.
-/
import Derived.Test.YtdfihajngmgigaaDoorChecked
import GoSem.Claim
import GoSem.ClaimJoined
import GoSem.ClaimMapViews
import Derived.JoinedTies
import Derived.KernelRfl
namespace Go.Proofs.YtdfihajngmgigaaDoor
/- THE CELL 'sum', in the pinned program and in every row, IS THE sha256 OF THE DUMP (.gsa) THAT YtdfihajngmgigaaDoorProg.lean LOADS. Nothing in Lean hashes anything: it is a label: what it is worth is what the hold of that sum in a sandbox is worth. -/
noncomputable def Tryd.pinned : Pinned := { name := "ytdfihajngmgigaadoor", sum := "372cbdb364dc7bde8e7b960ea14f7015210a625c4768622773e5a2bdbe78a448", checked := Tryd.checked }
namespace Rows
def none {H : Type} : Left H := { results := [], args := [] }

/- WHAT THE LISTED PACKAGE-LEVEL VARIABLES READ AS WHEN THE CALL BEGINS. Each datum BY PROGRAM (the guide's laid-datum.mjs) off the statement by which the dump's own 'gosem.cut.vars' lays the variable. In a bare row this is a premise. The card (YtdfihajngmgigaaDoorCards.lean) ties it to the program's text. -/
def laid_netsegment_box_tops {H : Type} : DataW H := .agg [.lit (.int .u32 4294967295), .lit (.int .u32 4294967295), .lit (.int .u32 255), .lit (.int .u32 65535), .lit (.int .u32 65535)]

/-- 'nsglaw4.PacketsetInitial': WHATEVER THE INPUT: true; the input reads as it did. -/
def packetsetInitialSpec : ChangeSpec := { name := "packetsetInitial", fn := fun _ => fun
  | [d1, d2] => { results := [.lit (.bool true)], args := [d1, d2] }
  | _ => none }
def packetsetInitialRow : OpenClaim := { program := "ytdfihajngmgigaadoor", sum := "372cbdb364dc7bde8e7b960ea14f7015210a625c4768622773e5a2bdbe78a448", func := "netsegment/nsglaw4.PacketsetInitial", spec := "packetsetInitial", unfollowed := true, recurses := true, named := ["netsegment/box.tops"], apart := false, laid := [("netsegment/box.tops", laid_netsegment_box_tops)] }
def PacketsetInitialSaid : Prop := packetsetInitialRow.holds Tryd.pinned (OpenSpec.ofChange packetsetInitialSpec)

/-- ITS FALSE NEIGHBOUR: 'it returns false'. Refute it at one input. -/
def packetsetInitialWrong : ChangeSpec := { name := "packetsetInitial", fn := fun _ => fun
  | [d1, d2] => { results := [.lit (.bool false)], args := [d1, d2] }
  | _ => none }
def PacketsetInitialWrongFalsely : Prop := packetsetInitialRow.holds Tryd.pinned (OpenSpec.ofChange packetsetInitialWrong)

/-- 'nsglaw4.PacketsetMembers': WHATEVER THE INPUT: true; the input reads as it did. -/
def packetsetMembersSpec : ChangeSpec := { name := "packetsetMembers", fn := fun _ => fun
  | [d1, d2] => { results := [.lit (.bool true)], args := [d1, d2] }
  | _ => none }
def packetsetMembersRow : OpenClaim := { program := "ytdfihajngmgigaadoor", sum := "372cbdb364dc7bde8e7b960ea14f7015210a625c4768622773e5a2bdbe78a448", func := "netsegment/nsglaw4.PacketsetMembers", spec := "packetsetMembers", unfollowed := true, recurses := true, named := ["netsegment/box.tops"], apart := false, laid := [("netsegment/box.tops", laid_netsegment_box_tops)] }
def PacketsetMembersSaid : Prop := packetsetMembersRow.holds Tryd.pinned (OpenSpec.ofChange packetsetMembersSpec)

/-- ITS FALSE NEIGHBOUR: 'it returns false'. Refute it at one input. -/
def packetsetMembersWrong : ChangeSpec := { name := "packetsetMembers", fn := fun _ => fun
  | [d1, d2] => { results := [.lit (.bool false)], args := [d1, d2] }
  | _ => none }
def PacketsetMembersWrongFalsely : Prop := packetsetMembersRow.holds Tryd.pinned (OpenSpec.ofChange packetsetMembersWrong)

/-- 'nsglaw4.PacketsetAlgebra': WHATEVER THE INPUT: true; the input reads as it did. -/
def packetsetAlgebraSpec : ChangeSpec := { name := "packetsetAlgebra", fn := fun _ => fun
  | [d] => { results := [.lit (.bool true)], args := [d] }
  | _ => none }
def packetsetAlgebraRow : OpenClaim := { program := "ytdfihajngmgigaadoor", sum := "372cbdb364dc7bde8e7b960ea14f7015210a625c4768622773e5a2bdbe78a448", func := "netsegment/nsglaw4.PacketsetAlgebra", spec := "packetsetAlgebra", unfollowed := true, recurses := true, named := ["netsegment/box.tops"], apart := false, laid := [("netsegment/box.tops", laid_netsegment_box_tops)] }
def PacketsetAlgebraSaid : Prop := packetsetAlgebraRow.holds Tryd.pinned (OpenSpec.ofChange packetsetAlgebraSpec)

/-- ITS FALSE NEIGHBOUR: 'it returns false'. Refute it at one input. -/
def packetsetAlgebraWrong : ChangeSpec := { name := "packetsetAlgebra", fn := fun _ => fun
  | [d] => { results := [.lit (.bool false)], args := [d] }
  | _ => none }
def PacketsetAlgebraWrongFalsely : Prop := packetsetAlgebraRow.holds Tryd.pinned (OpenSpec.ofChange packetsetAlgebraWrong)

/-- 'nsglaw4.PacketsetFrees': WHATEVER THE INPUT: true; the input reads as it did. -/
def packetsetFreesSpec : ChangeSpec := { name := "packetsetFrees", fn := fun _ => fun
  | [d1, d2, d3] => { results := [.lit (.bool true)], args := [d1, d2, d3] }
  | _ => none }
def packetsetFreesRow : OpenClaim := { program := "ytdfihajngmgigaadoor", sum := "372cbdb364dc7bde8e7b960ea14f7015210a625c4768622773e5a2bdbe78a448", func := "netsegment/nsglaw4.PacketsetFrees", spec := "packetsetFrees", unfollowed := true, recurses := true, named := ["netsegment/box.tops"], apart := false, laid := [("netsegment/box.tops", laid_netsegment_box_tops)] }
def PacketsetFreesSaid : Prop := packetsetFreesRow.holds Tryd.pinned (OpenSpec.ofChange packetsetFreesSpec)

/-- ITS FALSE NEIGHBOUR: 'it returns false'. Refute it at one input. -/
def packetsetFreesWrong : ChangeSpec := { name := "packetsetFrees", fn := fun _ => fun
  | [d1, d2, d3] => { results := [.lit (.bool false)], args := [d1, d2, d3] }
  | _ => none }
def PacketsetFreesWrongFalsely : Prop := packetsetFreesRow.holds Tryd.pinned (OpenSpec.ofChange packetsetFreesWrong)

/-- 'nsglaw4.PacketsetCanonical': WHATEVER THE INPUT: true; the input reads as it did. -/
def packetsetCanonicalSpec : ChangeSpec := { name := "packetsetCanonical", fn := fun _ => fun
  | [d1, d2, d3] => { results := [.lit (.bool true)], args := [d1, d2, d3] }
  | _ => none }
def packetsetCanonicalRow : OpenClaim := { program := "ytdfihajngmgigaadoor", sum := "372cbdb364dc7bde8e7b960ea14f7015210a625c4768622773e5a2bdbe78a448", func := "netsegment/nsglaw4.PacketsetCanonical", spec := "packetsetCanonical", unfollowed := true, recurses := true, named := ["netsegment/box.tops"], apart := false, laid := [("netsegment/box.tops", laid_netsegment_box_tops)] }
def PacketsetCanonicalSaid : Prop := packetsetCanonicalRow.holds Tryd.pinned (OpenSpec.ofChange packetsetCanonicalSpec)

/-- ITS FALSE NEIGHBOUR: 'it returns false'. Refute it at one input. -/
def packetsetCanonicalWrong : ChangeSpec := { name := "packetsetCanonical", fn := fun _ => fun
  | [d1, d2, d3] => { results := [.lit (.bool false)], args := [d1, d2, d3] }
  | _ => none }
def PacketsetCanonicalWrongFalsely : Prop := packetsetCanonicalRow.holds Tryd.pinned (OpenSpec.ofChange packetsetCanonicalWrong)

/-- 'nsglaw4.PacketsetDiffer': WHATEVER THE INPUT: true; the input reads as it did. -/
def packetsetDifferSpec : ChangeSpec := { name := "packetsetDiffer", fn := fun _ => fun
  | [d1, d2, d3, d4] => { results := [.lit (.bool true)], args := [d1, d2, d3, d4] }
  | _ => none }
def packetsetDifferRow : OpenClaim := { program := "ytdfihajngmgigaadoor", sum := "372cbdb364dc7bde8e7b960ea14f7015210a625c4768622773e5a2bdbe78a448", func := "netsegment/nsglaw4.PacketsetDiffer", spec := "packetsetDiffer", unfollowed := true, recurses := true, named := ["netsegment/box.tops"], apart := false, laid := [("netsegment/box.tops", laid_netsegment_box_tops)] }
def PacketsetDifferSaid : Prop := packetsetDifferRow.holds Tryd.pinned (OpenSpec.ofChange packetsetDifferSpec)

/-- ITS FALSE NEIGHBOUR: 'it returns false'. Refute it at one input. -/
def packetsetDifferWrong : ChangeSpec := { name := "packetsetDiffer", fn := fun _ => fun
  | [d1, d2, d3, d4] => { results := [.lit (.bool false)], args := [d1, d2, d3, d4] }
  | _ => none }
def PacketsetDifferWrongFalsely : Prop := packetsetDifferRow.holds Tryd.pinned (OpenSpec.ofChange packetsetDifferWrong)

/-- 'nsglaw4.PacketsetFree': WHATEVER THE INPUT: true; the input reads as it did. -/
def packetsetFreeSpec : ChangeSpec := { name := "packetsetFree", fn := fun _ => fun
  | [d1, d2, d3] => { results := [.lit (.bool true)], args := [d1, d2, d3] }
  | _ => none }
def packetsetFreeRow : OpenClaim := { program := "ytdfihajngmgigaadoor", sum := "372cbdb364dc7bde8e7b960ea14f7015210a625c4768622773e5a2bdbe78a448", func := "netsegment/nsglaw4.PacketsetFree", spec := "packetsetFree", unfollowed := true, recurses := true, named := ["netsegment/box.tops"], apart := false, laid := [("netsegment/box.tops", laid_netsegment_box_tops)] }
def PacketsetFreeSaid : Prop := packetsetFreeRow.holds Tryd.pinned (OpenSpec.ofChange packetsetFreeSpec)

/-- ITS FALSE NEIGHBOUR: 'it returns false'. Refute it at one input. -/
def packetsetFreeWrong : ChangeSpec := { name := "packetsetFree", fn := fun _ => fun
  | [d1, d2, d3] => { results := [.lit (.bool false)], args := [d1, d2, d3] }
  | _ => none }
def PacketsetFreeWrongFalsely : Prop := packetsetFreeRow.holds Tryd.pinned (OpenSpec.ofChange packetsetFreeWrong)

/- THE SECOND FORM. 'bulk': how many values and letters a reading holds, each counted each time it is reached (what is shared counts as often as it is met; a slice's spare places count too). A statement '..UptoSaid' is the law's where the arguments, and the package variables that the reading takes, are together of bulk at most 1048576: NARROWER than '..Said'. Prove '..Said' where nothing that the law and all that it calls make is longer than what came in: it says more and counts as full. Else prove '..UptoSaid'. A law counts once. -/
mutual
def uptoBulk {H : Type} : DataW H → Nat
  | .lit (.string bytes) => bytes.length + 1
  | .lit _ => 1
  | .nil => 1
  | .ptr d => uptoBulk d + 1
  | .slice elems spare => uptoBulkAll elems + uptoBulkAll spare + 1
  | .agg parts => uptoBulkAll parts + 1
  | .iface _ d => uptoBulk d + 1
  | .map entries => uptoBulkEntries entries + 1
  | .held _ => 1
def uptoBulkAll {H : Type} : List (DataW H) → Nat
  | [] => 0
  | d :: r => uptoBulk d + uptoBulkAll r
def uptoBulkEntries {H : Type} : List (Lit × DataW H) → Nat
  | [] => 0
  | x :: r => uptoBulkEntry x + uptoBulkEntries r
def uptoBulkEntry {H : Type} : Lit × DataW H → Nat
  | (.string bytes, d) => bytes.length + uptoBulk d + 1
  | (_, d) => uptoBulk d + 1
 end
def uptoSmall : (H : Type) → List (DataW H) → Bool := fun _ ds => decide (uptoBulkAll ds ≤ 1048576)
def OpenSpec.upto (s : _root_.Go.ChangeSpec) : _root_.Go.OpenSpec := { _root_.Go.OpenSpec.ofChange s with cond := some uptoSmall }

/-- 'nsglaw4.PacketsetInitial', WHERE WHAT IT READS IS OF BULK AT MOST 1048576: true; the input reads as it did. -/
def packetsetInitialUptoRow : OpenClaim := { program := "ytdfihajngmgigaadoor", sum := "372cbdb364dc7bde8e7b960ea14f7015210a625c4768622773e5a2bdbe78a448", func := "netsegment/nsglaw4.PacketsetInitial", spec := "packetsetInitial", unfollowed := true, recurses := true, named := ["netsegment/box.tops"], apart := false, laid := [("netsegment/box.tops", laid_netsegment_box_tops)], narrowed := true }
def PacketsetInitialUptoSaid : Prop := packetsetInitialUptoRow.holds Tryd.pinned (OpenSpec.upto packetsetInitialSpec)

/-- 'nsglaw4.PacketsetMembers', WHERE WHAT IT READS IS OF BULK AT MOST 1048576: true; the input reads as it did. -/
def packetsetMembersUptoRow : OpenClaim := { program := "ytdfihajngmgigaadoor", sum := "372cbdb364dc7bde8e7b960ea14f7015210a625c4768622773e5a2bdbe78a448", func := "netsegment/nsglaw4.PacketsetMembers", spec := "packetsetMembers", unfollowed := true, recurses := true, named := ["netsegment/box.tops"], apart := false, laid := [("netsegment/box.tops", laid_netsegment_box_tops)], narrowed := true }
def PacketsetMembersUptoSaid : Prop := packetsetMembersUptoRow.holds Tryd.pinned (OpenSpec.upto packetsetMembersSpec)

/-- 'nsglaw4.PacketsetAlgebra', WHERE WHAT IT READS IS OF BULK AT MOST 1048576: true; the input reads as it did. -/
def packetsetAlgebraUptoRow : OpenClaim := { program := "ytdfihajngmgigaadoor", sum := "372cbdb364dc7bde8e7b960ea14f7015210a625c4768622773e5a2bdbe78a448", func := "netsegment/nsglaw4.PacketsetAlgebra", spec := "packetsetAlgebra", unfollowed := true, recurses := true, named := ["netsegment/box.tops"], apart := false, laid := [("netsegment/box.tops", laid_netsegment_box_tops)], narrowed := true }
def PacketsetAlgebraUptoSaid : Prop := packetsetAlgebraUptoRow.holds Tryd.pinned (OpenSpec.upto packetsetAlgebraSpec)

/-- 'nsglaw4.PacketsetFrees', WHERE WHAT IT READS IS OF BULK AT MOST 1048576: true; the input reads as it did. -/
def packetsetFreesUptoRow : OpenClaim := { program := "ytdfihajngmgigaadoor", sum := "372cbdb364dc7bde8e7b960ea14f7015210a625c4768622773e5a2bdbe78a448", func := "netsegment/nsglaw4.PacketsetFrees", spec := "packetsetFrees", unfollowed := true, recurses := true, named := ["netsegment/box.tops"], apart := false, laid := [("netsegment/box.tops", laid_netsegment_box_tops)], narrowed := true }
def PacketsetFreesUptoSaid : Prop := packetsetFreesUptoRow.holds Tryd.pinned (OpenSpec.upto packetsetFreesSpec)

/-- 'nsglaw4.PacketsetCanonical', WHERE WHAT IT READS IS OF BULK AT MOST 1048576: true; the input reads as it did. -/
def packetsetCanonicalUptoRow : OpenClaim := { program := "ytdfihajngmgigaadoor", sum := "372cbdb364dc7bde8e7b960ea14f7015210a625c4768622773e5a2bdbe78a448", func := "netsegment/nsglaw4.PacketsetCanonical", spec := "packetsetCanonical", unfollowed := true, recurses := true, named := ["netsegment/box.tops"], apart := false, laid := [("netsegment/box.tops", laid_netsegment_box_tops)], narrowed := true }
def PacketsetCanonicalUptoSaid : Prop := packetsetCanonicalUptoRow.holds Tryd.pinned (OpenSpec.upto packetsetCanonicalSpec)

/-- 'nsglaw4.PacketsetDiffer', WHERE WHAT IT READS IS OF BULK AT MOST 1048576: true; the input reads as it did. -/
def packetsetDifferUptoRow : OpenClaim := { program := "ytdfihajngmgigaadoor", sum := "372cbdb364dc7bde8e7b960ea14f7015210a625c4768622773e5a2bdbe78a448", func := "netsegment/nsglaw4.PacketsetDiffer", spec := "packetsetDiffer", unfollowed := true, recurses := true, named := ["netsegment/box.tops"], apart := false, laid := [("netsegment/box.tops", laid_netsegment_box_tops)], narrowed := true }
def PacketsetDifferUptoSaid : Prop := packetsetDifferUptoRow.holds Tryd.pinned (OpenSpec.upto packetsetDifferSpec)

/-- 'nsglaw4.PacketsetFree', WHERE WHAT IT READS IS OF BULK AT MOST 1048576: true; the input reads as it did. -/
def packetsetFreeUptoRow : OpenClaim := { program := "ytdfihajngmgigaadoor", sum := "372cbdb364dc7bde8e7b960ea14f7015210a625c4768622773e5a2bdbe78a448", func := "netsegment/nsglaw4.PacketsetFree", spec := "packetsetFree", unfollowed := true, recurses := true, named := ["netsegment/box.tops"], apart := false, laid := [("netsegment/box.tops", laid_netsegment_box_tops)], narrowed := true }
def PacketsetFreeUptoSaid : Prop := packetsetFreeUptoRow.holds Tryd.pinned (OpenSpec.upto packetsetFreeSpec)

end Rows
end Go.Proofs.YtdfihajngmgigaaDoor
