/-
  NARROWER THAN 'FOR EVERY INPUT', by the rows' own cells (each row's printed sentence says how): BoxMembers: laid · BoxSubtracts: laid · BoxReads: laid · BoxFields: laid · BoxHull: laid · BoxOrder: laid · BoxCombines: laid.
  DERIVED. THE GIVEN ROWS OF THIS SEAT. 7 by the template 'for every input the law returns true; each argument reads behind the call as it read before'; 0 by the template 'total and deterministic' (their statements: YtnhjcbmlplfpmaaDoorTotals.lean).
  GIVEN WITH THE SEED: the statements are not yours to turn. If you find one false, say at which input.
  Laid BY PROGRAM, IN A SANDBOX (cutbox-rows.mjs): the forced cells as the released guide's own fill.sh prints them over the translation 7a19d7e091cf3406… (all of the seat's roots in one cut). By AI agents, Wed Nov 11 2026. No macro, syntax, notation, axiom, sorry.
-/
import Derived.Test.YtnhjcbmlplfpmaaDoorChecked
import GoSem.Claim
import GoSem.ClaimJoined
import GoSem.ClaimMapViews
import Derived.JoinedTies
import Derived.KernelRfl
namespace Go.Proofs.YtnhjcbmlplfpmaaDoor
/- THE CELL 'sum', in the pinned program and in every row, IS THE sha256 OF THE DUMP (.gsa) THAT YtnhjcbmlplfpmaaDoorProg.lean LOADS. Nothing in Lean hashes anything: it is a label: what it is worth is what the hold of that sum in a sandbox is worth. -/
noncomputable def Tryd.pinned : Pinned := { name := "ytnhjcbmlplfpmaadoor", sum := "7a19d7e091cf3406bd102875d7ef67a014182f0c11b830012ea1086d2d34904c", checked := Tryd.checked }
namespace Rows
def none {H : Type} : Left H := { results := [], args := [] }

/- WHAT THE LISTED PACKAGE-LEVEL VARIABLES READ AS WHEN THE CALL BEGINS. Each datum BY PROGRAM (the guide's laid-datum.mjs) off the statement by which the dump's own 'gosem.cut.vars' lays the variable. In a bare row this is a premise. The card (YtnhjcbmlplfpmaaDoorCards.lean) ties it to the program's text. -/
def laid_netsegment_box_tops {H : Type} : DataW H := .agg [.lit (.int .u32 4294967295), .lit (.int .u32 4294967295), .lit (.int .u32 255), .lit (.int .u32 65535), .lit (.int .u32 65535)]

/-- 'nsglaw3.BoxMembers': WHATEVER THE INPUT: true; the input reads as it did. -/
def boxMembersSpec : ChangeSpec := { name := "boxMembers", fn := fun _ => fun
  | [d1, d2, d3] => { results := [.lit (.bool true)], args := [d1, d2, d3] }
  | _ => none }
def boxMembersRow : OpenClaim := { program := "ytnhjcbmlplfpmaadoor", sum := "7a19d7e091cf3406bd102875d7ef67a014182f0c11b830012ea1086d2d34904c", func := "netsegment/nsglaw3.BoxMembers", spec := "boxMembers", named := ["netsegment/box.tops"], apart := false, laid := [("netsegment/box.tops", laid_netsegment_box_tops)] }
def BoxMembersSaid : Prop := boxMembersRow.holds Tryd.pinned (OpenSpec.ofChange boxMembersSpec)

/-- ITS FALSE NEIGHBOUR: 'it returns false'. Refute it at one input. -/
def boxMembersWrong : ChangeSpec := { name := "boxMembers", fn := fun _ => fun
  | [d1, d2, d3] => { results := [.lit (.bool false)], args := [d1, d2, d3] }
  | _ => none }
def BoxMembersWrongFalsely : Prop := boxMembersRow.holds Tryd.pinned (OpenSpec.ofChange boxMembersWrong)

/-- 'nsglaw3.BoxSubtracts': WHATEVER THE INPUT: true; the input reads as it did. -/
def boxSubtractsSpec : ChangeSpec := { name := "boxSubtracts", fn := fun _ => fun
  | [d1, d2, d3] => { results := [.lit (.bool true)], args := [d1, d2, d3] }
  | _ => none }
def boxSubtractsRow : OpenClaim := { program := "ytnhjcbmlplfpmaadoor", sum := "7a19d7e091cf3406bd102875d7ef67a014182f0c11b830012ea1086d2d34904c", func := "netsegment/nsglaw3.BoxSubtracts", spec := "boxSubtracts", named := ["netsegment/box.tops"], apart := false, laid := [("netsegment/box.tops", laid_netsegment_box_tops)] }
def BoxSubtractsSaid : Prop := boxSubtractsRow.holds Tryd.pinned (OpenSpec.ofChange boxSubtractsSpec)

/-- ITS FALSE NEIGHBOUR: 'it returns false'. Refute it at one input. -/
def boxSubtractsWrong : ChangeSpec := { name := "boxSubtracts", fn := fun _ => fun
  | [d1, d2, d3] => { results := [.lit (.bool false)], args := [d1, d2, d3] }
  | _ => none }
def BoxSubtractsWrongFalsely : Prop := boxSubtractsRow.holds Tryd.pinned (OpenSpec.ofChange boxSubtractsWrong)

/-- 'nsglaw3.BoxReads': WHATEVER THE INPUT: true; the input reads as it did. -/
def boxReadsSpec : ChangeSpec := { name := "boxReads", fn := fun _ => fun
  | [d1, d2, d3, d4, d5] => { results := [.lit (.bool true)], args := [d1, d2, d3, d4, d5] }
  | _ => none }
def boxReadsRow : OpenClaim := { program := "ytnhjcbmlplfpmaadoor", sum := "7a19d7e091cf3406bd102875d7ef67a014182f0c11b830012ea1086d2d34904c", func := "netsegment/nsglaw3.BoxReads", spec := "boxReads", named := ["netsegment/box.tops"], apart := false, laid := [("netsegment/box.tops", laid_netsegment_box_tops)] }
def BoxReadsSaid : Prop := boxReadsRow.holds Tryd.pinned (OpenSpec.ofChange boxReadsSpec)

/-- ITS FALSE NEIGHBOUR: 'it returns false'. Refute it at one input. -/
def boxReadsWrong : ChangeSpec := { name := "boxReads", fn := fun _ => fun
  | [d1, d2, d3, d4, d5] => { results := [.lit (.bool false)], args := [d1, d2, d3, d4, d5] }
  | _ => none }
def BoxReadsWrongFalsely : Prop := boxReadsRow.holds Tryd.pinned (OpenSpec.ofChange boxReadsWrong)

/-- 'nsglaw3.BoxFields': WHATEVER THE INPUT: true; the input reads as it did. -/
def boxFieldsSpec : ChangeSpec := { name := "boxFields", fn := fun _ => fun
  | [d1, d2, d3] => { results := [.lit (.bool true)], args := [d1, d2, d3] }
  | _ => none }
def boxFieldsRow : OpenClaim := { program := "ytnhjcbmlplfpmaadoor", sum := "7a19d7e091cf3406bd102875d7ef67a014182f0c11b830012ea1086d2d34904c", func := "netsegment/nsglaw3.BoxFields", spec := "boxFields", named := ["netsegment/box.tops"], apart := false, laid := [("netsegment/box.tops", laid_netsegment_box_tops)] }
def BoxFieldsSaid : Prop := boxFieldsRow.holds Tryd.pinned (OpenSpec.ofChange boxFieldsSpec)

/-- ITS FALSE NEIGHBOUR: 'it returns false'. Refute it at one input. -/
def boxFieldsWrong : ChangeSpec := { name := "boxFields", fn := fun _ => fun
  | [d1, d2, d3] => { results := [.lit (.bool false)], args := [d1, d2, d3] }
  | _ => none }
def BoxFieldsWrongFalsely : Prop := boxFieldsRow.holds Tryd.pinned (OpenSpec.ofChange boxFieldsWrong)

/-- 'nsglaw3.BoxHull': WHATEVER THE INPUT: true; the input reads as it did. -/
def boxHullSpec : ChangeSpec := { name := "boxHull", fn := fun _ => fun
  | [d1, d2] => { results := [.lit (.bool true)], args := [d1, d2] }
  | _ => none }
def boxHullRow : OpenClaim := { program := "ytnhjcbmlplfpmaadoor", sum := "7a19d7e091cf3406bd102875d7ef67a014182f0c11b830012ea1086d2d34904c", func := "netsegment/nsglaw3.BoxHull", spec := "boxHull", named := ["netsegment/box.tops"], apart := false, laid := [("netsegment/box.tops", laid_netsegment_box_tops)] }
def BoxHullSaid : Prop := boxHullRow.holds Tryd.pinned (OpenSpec.ofChange boxHullSpec)

/-- ITS FALSE NEIGHBOUR: 'it returns false'. Refute it at one input. -/
def boxHullWrong : ChangeSpec := { name := "boxHull", fn := fun _ => fun
  | [d1, d2] => { results := [.lit (.bool false)], args := [d1, d2] }
  | _ => none }
def BoxHullWrongFalsely : Prop := boxHullRow.holds Tryd.pinned (OpenSpec.ofChange boxHullWrong)

/-- 'nsglaw3.BoxOrder': WHATEVER THE INPUT: true; the input reads as it did. -/
def boxOrderSpec : ChangeSpec := { name := "boxOrder", fn := fun _ => fun
  | [d1, d2, d3] => { results := [.lit (.bool true)], args := [d1, d2, d3] }
  | _ => none }
def boxOrderRow : OpenClaim := { program := "ytnhjcbmlplfpmaadoor", sum := "7a19d7e091cf3406bd102875d7ef67a014182f0c11b830012ea1086d2d34904c", func := "netsegment/nsglaw3.BoxOrder", spec := "boxOrder", named := ["netsegment/box.tops"], apart := false, laid := [("netsegment/box.tops", laid_netsegment_box_tops)] }
def BoxOrderSaid : Prop := boxOrderRow.holds Tryd.pinned (OpenSpec.ofChange boxOrderSpec)

/-- ITS FALSE NEIGHBOUR: 'it returns false'. Refute it at one input. -/
def boxOrderWrong : ChangeSpec := { name := "boxOrder", fn := fun _ => fun
  | [d1, d2, d3] => { results := [.lit (.bool false)], args := [d1, d2, d3] }
  | _ => none }
def BoxOrderWrongFalsely : Prop := boxOrderRow.holds Tryd.pinned (OpenSpec.ofChange boxOrderWrong)

/-- 'nsglaw3.BoxCombines': WHATEVER THE INPUT: true; the input reads as it did. -/
def boxCombinesSpec : ChangeSpec := { name := "boxCombines", fn := fun _ => fun
  | [d1, d2, d3, d4] => { results := [.lit (.bool true)], args := [d1, d2, d3, d4] }
  | _ => none }
def boxCombinesRow : OpenClaim := { program := "ytnhjcbmlplfpmaadoor", sum := "7a19d7e091cf3406bd102875d7ef67a014182f0c11b830012ea1086d2d34904c", func := "netsegment/nsglaw3.BoxCombines", spec := "boxCombines", named := ["netsegment/box.tops"], apart := false, laid := [("netsegment/box.tops", laid_netsegment_box_tops)] }
def BoxCombinesSaid : Prop := boxCombinesRow.holds Tryd.pinned (OpenSpec.ofChange boxCombinesSpec)

/-- ITS FALSE NEIGHBOUR: 'it returns false'. Refute it at one input. -/
def boxCombinesWrong : ChangeSpec := { name := "boxCombines", fn := fun _ => fun
  | [d1, d2, d3, d4] => { results := [.lit (.bool false)], args := [d1, d2, d3, d4] }
  | _ => none }
def BoxCombinesWrongFalsely : Prop := boxCombinesRow.holds Tryd.pinned (OpenSpec.ofChange boxCombinesWrong)

/- THE SECOND FORM. 'bulk': how many values and letters a reading holds, each counted each time it is reached (what is shared counts as often as it is met; a slice's spare places count too). A statement '..UptoSaid' is the law's where the arguments, and the package variables that the reading takes, are together of bulk at most 1048576: NARROWER than '..Said'. Prove '..Said' where nothing that the law and all that it calls make is longer than what came in: it says more and counts as full. Else prove '..UptoSaid'. A law counts once. -/
mutual
def uptoBulk {H : Type} : DataW H → Nat
  | .lit (.string bytes) => bytes.length + 1
  | .lit _ => 1
  | .nil => 1
  | .ptr d => uptoBulk d + 1
  | .slice elems spare => uptoBulkAll elems + uptoBulkAll spare + 1
  | .agg parts => uptoBulkAll parts + 1
  | .iface _ d => uptoBulk d + 1
  | .map entries => uptoBulkEntries entries + 1
  | .held _ => 1
def uptoBulkAll {H : Type} : List (DataW H) → Nat
  | [] => 0
  | d :: r => uptoBulk d + uptoBulkAll r
def uptoBulkEntries {H : Type} : List (Lit × DataW H) → Nat
  | [] => 0
  | x :: r => uptoBulkEntry x + uptoBulkEntries r
def uptoBulkEntry {H : Type} : Lit × DataW H → Nat
  | (.string bytes, d) => bytes.length + uptoBulk d + 1
  | (_, d) => uptoBulk d + 1
 end
def uptoSmall : (H : Type) → List (DataW H) → Bool := fun _ ds => decide (uptoBulkAll ds ≤ 1048576)
def OpenSpec.upto (s : _root_.Go.ChangeSpec) : _root_.Go.OpenSpec := { _root_.Go.OpenSpec.ofChange s with cond := some uptoSmall }

/-- 'nsglaw3.BoxMembers', WHERE WHAT IT READS IS OF BULK AT MOST 1048576: true; the input reads as it did. -/
def boxMembersUptoRow : OpenClaim := { program := "ytnhjcbmlplfpmaadoor", sum := "7a19d7e091cf3406bd102875d7ef67a014182f0c11b830012ea1086d2d34904c", func := "netsegment/nsglaw3.BoxMembers", spec := "boxMembers", named := ["netsegment/box.tops"], apart := false, laid := [("netsegment/box.tops", laid_netsegment_box_tops)], narrowed := true }
def BoxMembersUptoSaid : Prop := boxMembersUptoRow.holds Tryd.pinned (OpenSpec.upto boxMembersSpec)

/-- 'nsglaw3.BoxSubtracts', WHERE WHAT IT READS IS OF BULK AT MOST 1048576: true; the input reads as it did. -/
def boxSubtractsUptoRow : OpenClaim := { program := "ytnhjcbmlplfpmaadoor", sum := "7a19d7e091cf3406bd102875d7ef67a014182f0c11b830012ea1086d2d34904c", func := "netsegment/nsglaw3.BoxSubtracts", spec := "boxSubtracts", named := ["netsegment/box.tops"], apart := false, laid := [("netsegment/box.tops", laid_netsegment_box_tops)], narrowed := true }
def BoxSubtractsUptoSaid : Prop := boxSubtractsUptoRow.holds Tryd.pinned (OpenSpec.upto boxSubtractsSpec)

/-- 'nsglaw3.BoxReads', WHERE WHAT IT READS IS OF BULK AT MOST 1048576: true; the input reads as it did. -/
def boxReadsUptoRow : OpenClaim := { program := "ytnhjcbmlplfpmaadoor", sum := "7a19d7e091cf3406bd102875d7ef67a014182f0c11b830012ea1086d2d34904c", func := "netsegment/nsglaw3.BoxReads", spec := "boxReads", named := ["netsegment/box.tops"], apart := false, laid := [("netsegment/box.tops", laid_netsegment_box_tops)], narrowed := true }
def BoxReadsUptoSaid : Prop := boxReadsUptoRow.holds Tryd.pinned (OpenSpec.upto boxReadsSpec)

/-- 'nsglaw3.BoxFields', WHERE WHAT IT READS IS OF BULK AT MOST 1048576: true; the input reads as it did. -/
def boxFieldsUptoRow : OpenClaim := { program := "ytnhjcbmlplfpmaadoor", sum := "7a19d7e091cf3406bd102875d7ef67a014182f0c11b830012ea1086d2d34904c", func := "netsegment/nsglaw3.BoxFields", spec := "boxFields", named := ["netsegment/box.tops"], apart := false, laid := [("netsegment/box.tops", laid_netsegment_box_tops)], narrowed := true }
def BoxFieldsUptoSaid : Prop := boxFieldsUptoRow.holds Tryd.pinned (OpenSpec.upto boxFieldsSpec)

/-- 'nsglaw3.BoxHull', WHERE WHAT IT READS IS OF BULK AT MOST 1048576: true; the input reads as it did. -/
def boxHullUptoRow : OpenClaim := { program := "ytnhjcbmlplfpmaadoor", sum := "7a19d7e091cf3406bd102875d7ef67a014182f0c11b830012ea1086d2d34904c", func := "netsegment/nsglaw3.BoxHull", spec := "boxHull", named := ["netsegment/box.tops"], apart := false, laid := [("netsegment/box.tops", laid_netsegment_box_tops)], narrowed := true }
def BoxHullUptoSaid : Prop := boxHullUptoRow.holds Tryd.pinned (OpenSpec.upto boxHullSpec)

/-- 'nsglaw3.BoxOrder', WHERE WHAT IT READS IS OF BULK AT MOST 1048576: true; the input reads as it did. -/
def boxOrderUptoRow : OpenClaim := { program := "ytnhjcbmlplfpmaadoor", sum := "7a19d7e091cf3406bd102875d7ef67a014182f0c11b830012ea1086d2d34904c", func := "netsegment/nsglaw3.BoxOrder", spec := "boxOrder", named := ["netsegment/box.tops"], apart := false, laid := [("netsegment/box.tops", laid_netsegment_box_tops)], narrowed := true }
def BoxOrderUptoSaid : Prop := boxOrderUptoRow.holds Tryd.pinned (OpenSpec.upto boxOrderSpec)

/-- 'nsglaw3.BoxCombines', WHERE WHAT IT READS IS OF BULK AT MOST 1048576: true; the input reads as it did. -/
def boxCombinesUptoRow : OpenClaim := { program := "ytnhjcbmlplfpmaadoor", sum := "7a19d7e091cf3406bd102875d7ef67a014182f0c11b830012ea1086d2d34904c", func := "netsegment/nsglaw3.BoxCombines", spec := "boxCombines", named := ["netsegment/box.tops"], apart := false, laid := [("netsegment/box.tops", laid_netsegment_box_tops)], narrowed := true }
def BoxCombinesUptoSaid : Prop := boxCombinesUptoRow.holds Tryd.pinned (OpenSpec.upto boxCombinesSpec)

end Rows
end Go.Proofs.YtnhjcbmlplfpmaaDoor
