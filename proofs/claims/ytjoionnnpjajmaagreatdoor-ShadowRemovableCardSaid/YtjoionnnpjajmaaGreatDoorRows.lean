/-
  NARROWER THAN 'FOR EVERY INPUT', by the rows' own cells (each row's printed sentence says how): ShadowFinds: laid · ShadowRemovable: laid.
  DERIVED. THE GIVEN ROWS OF THIS SEAT. 2 by the template 'for every input the law returns true; each argument reads behind the call as it read before'; 0 by the template 'total and deterministic' (their statements: YtjoionnnpjajmaaGreatDoorTotals.lean).
  GIVEN WITH THE SEED: the statements are not yours to turn. If you find one false, say at which input.
  Laid BY PROGRAM, IN A SANDBOX (cutbox-rows.mjs): the forced cells as the released guide's own fill.sh prints them over the translation 210600729d451d86… (all of the seat's roots in one cut). By AI agents, Wed Nov 11 2026. No macro, syntax, notation, axiom, sorry.
-/
import Derived.Test.YtjoionnnpjajmaaGreatDoorChecked
import GoSem.Claim
import GoSem.ClaimJoined
import GoSem.ClaimMapViews
import Derived.JoinedTies
import Derived.KernelRfl
namespace Go.Proofs.YtjoionnnpjajmaaGreatDoor
/- THE CELL 'sum', in the pinned program and in every row, IS THE sha256 OF THE DUMP (.gsa) THAT YtjoionnnpjajmaaGreatDoorProg.lean LOADS. Nothing in Lean hashes anything: it is a label: what it is worth is what the hold of that sum in a sandbox is worth. -/
noncomputable def Tryz.pinned : Pinned := { name := "ytjoionnnpjajmaagreatdoor", sum := "210600729d451d865161df72bf2e28bce908dce6aea704a8c5b66f95ae5df451", checked := Tryz.checked }
namespace Rows
def none {H : Type} : Left H := { results := [], args := [] }

/- WHAT THE LISTED PACKAGE-LEVEL VARIABLES READ AS WHEN THE CALL BEGINS. Each datum BY PROGRAM (the guide's laid-datum.mjs) off the statement by which the dump's own 'gosem.cut.vars' lays the variable. In a bare row this is a premise. The card (YtjoionnnpjajmaaGreatDoorCards.lean) ties it to the program's text. -/
def laid_netsegment_box_tops {H : Type} : DataW H := .agg [.lit (.int .u32 4294967295), .lit (.int .u32 4294967295), .lit (.int .u32 255), .lit (.int .u32 65535), .lit (.int .u32 65535)]

/-- 'nsglaw32.ShadowFinds': WHATEVER THE INPUT: true; the input reads as it did. -/
def shadowFindsSpec : ChangeSpec := { name := "shadowFinds", fn := fun _ => fun
  | [d1, d2] => { results := [.lit (.bool true)], args := [d1, d2] }
  | _ => none }
def shadowFindsRow : OpenClaim := { program := "ytjoionnnpjajmaagreatdoor", sum := "210600729d451d865161df72bf2e28bce908dce6aea704a8c5b66f95ae5df451", func := "netsegment/nsglaw32.ShadowFinds", spec := "shadowFinds", unfollowed := true, recurses := true, named := ["netsegment/box.tops"], apart := false, laid := [("netsegment/box.tops", laid_netsegment_box_tops)] }
def ShadowFindsSaid : Prop := shadowFindsRow.holds Tryz.pinned (OpenSpec.ofChange shadowFindsSpec)

/-- ITS FALSE NEIGHBOUR: 'it returns false'. Refute it at one input. -/
def shadowFindsWrong : ChangeSpec := { name := "shadowFinds", fn := fun _ => fun
  | [d1, d2] => { results := [.lit (.bool false)], args := [d1, d2] }
  | _ => none }
def ShadowFindsWrongFalsely : Prop := shadowFindsRow.holds Tryz.pinned (OpenSpec.ofChange shadowFindsWrong)

/-- 'nsglaw32.ShadowRemovable': WHATEVER THE INPUT: true; the input reads as it did. -/
def shadowRemovableSpec : ChangeSpec := { name := "shadowRemovable", fn := fun _ => fun
  | [d1, d2, d3] => { results := [.lit (.bool true)], args := [d1, d2, d3] }
  | _ => none }
def shadowRemovableRow : OpenClaim := { program := "ytjoionnnpjajmaagreatdoor", sum := "210600729d451d865161df72bf2e28bce908dce6aea704a8c5b66f95ae5df451", func := "netsegment/nsglaw32.ShadowRemovable", spec := "shadowRemovable", unfollowed := true, recurses := true, named := ["netsegment/box.tops"], apart := false, laid := [("netsegment/box.tops", laid_netsegment_box_tops)] }
def ShadowRemovableSaid : Prop := shadowRemovableRow.holds Tryz.pinned (OpenSpec.ofChange shadowRemovableSpec)

/-- ITS FALSE NEIGHBOUR: 'it returns false'. Refute it at one input. -/
def shadowRemovableWrong : ChangeSpec := { name := "shadowRemovable", fn := fun _ => fun
  | [d1, d2, d3] => { results := [.lit (.bool false)], args := [d1, d2, d3] }
  | _ => none }
def ShadowRemovableWrongFalsely : Prop := shadowRemovableRow.holds Tryz.pinned (OpenSpec.ofChange shadowRemovableWrong)

/- THE SECOND FORM. 'bulk': how many values and letters a reading holds, each counted each time it is reached (what is shared counts as often as it is met; a slice's spare places count too). A statement '..UptoSaid' is the law's where the arguments, and the package variables that the reading takes, are together of bulk at most 1048576: NARROWER than '..Said'. Prove '..Said' where nothing that the law and all that it calls make is longer than what came in: it says more and counts as full. Else prove '..UptoSaid'. A law counts once. -/
mutual
def uptoBulk {H : Type} : DataW H → Nat
  | .lit (.string bytes) => bytes.length + 1
  | .lit _ => 1
  | .nil => 1
  | .ptr d => uptoBulk d + 1
  | .slice elems spare => uptoBulkAll elems + uptoBulkAll spare + 1
  | .agg parts => uptoBulkAll parts + 1
  | .iface _ d => uptoBulk d + 1
  | .map entries => uptoBulkEntries entries + 1
  | .held _ => 1
def uptoBulkAll {H : Type} : List (DataW H) → Nat
  | [] => 0
  | d :: r => uptoBulk d + uptoBulkAll r
def uptoBulkEntries {H : Type} : List (Lit × DataW H) → Nat
  | [] => 0
  | x :: r => uptoBulkEntry x + uptoBulkEntries r
def uptoBulkEntry {H : Type} : Lit × DataW H → Nat
  | (.string bytes, d) => bytes.length + uptoBulk d + 1
  | (_, d) => uptoBulk d + 1
 end
def uptoSmall : (H : Type) → List (DataW H) → Bool := fun _ ds => decide (uptoBulkAll ds ≤ 1048576)
def OpenSpec.upto (s : _root_.Go.ChangeSpec) : _root_.Go.OpenSpec := { _root_.Go.OpenSpec.ofChange s with cond := some uptoSmall }

/-- 'nsglaw32.ShadowFinds', WHERE WHAT IT READS IS OF BULK AT MOST 1048576: true; the input reads as it did. -/
def shadowFindsUptoRow : OpenClaim := { program := "ytjoionnnpjajmaagreatdoor", sum := "210600729d451d865161df72bf2e28bce908dce6aea704a8c5b66f95ae5df451", func := "netsegment/nsglaw32.ShadowFinds", spec := "shadowFinds", unfollowed := true, recurses := true, named := ["netsegment/box.tops"], apart := false, laid := [("netsegment/box.tops", laid_netsegment_box_tops)], narrowed := true }
def ShadowFindsUptoSaid : Prop := shadowFindsUptoRow.holds Tryz.pinned (OpenSpec.upto shadowFindsSpec)

/-- 'nsglaw32.ShadowRemovable', WHERE WHAT IT READS IS OF BULK AT MOST 1048576: true; the input reads as it did. -/
def shadowRemovableUptoRow : OpenClaim := { program := "ytjoionnnpjajmaagreatdoor", sum := "210600729d451d865161df72bf2e28bce908dce6aea704a8c5b66f95ae5df451", func := "netsegment/nsglaw32.ShadowRemovable", spec := "shadowRemovable", unfollowed := true, recurses := true, named := ["netsegment/box.tops"], apart := false, laid := [("netsegment/box.tops", laid_netsegment_box_tops)], narrowed := true }
def ShadowRemovableUptoSaid : Prop := shadowRemovableUptoRow.holds Tryz.pinned (OpenSpec.upto shadowRemovableSpec)

end Rows
end Go.Proofs.YtjoionnnpjajmaaGreatDoor
