/-
  NARROWER THAN 'FOR EVERY INPUT', by the rows' own cells (each row's printed sentence says how): FilterSets: laid · FilterPoints: laid · FilterDecides: laid · FilterOf: laid · FilterPrunes: laid · FilterSwaps: laid.
  DERIVED. THE GIVEN ROWS OF THIS SEAT. 6 by the template 'for every input the law returns true; each argument reads behind the call as it read before'; 0 by the template 'total and deterministic' (their statements: YtmcbbepfakfehaaDoorTotals.lean).
  GIVEN WITH THE SEED: the statements are not yours to turn. If you find one false, say at which input.
  Laid BY PROGRAM, IN A SANDBOX (cutbox-rows.mjs): the forced cells as the released guide's own fill.sh prints them over the translation 44e2014e08e0ca97… (all of the seat's roots in one cut). By AI agents, Wed Nov 11 2026. No macro, syntax, notation, axiom, sorry.
-/
import Derived.Test.YtmcbbepfakfehaaDoorChecked
import GoSem.Claim
import GoSem.ClaimJoined
import GoSem.ClaimMapViews
import Derived.JoinedTies
import Derived.KernelRfl
namespace Go.Proofs.YtmcbbepfakfehaaDoor
/- THE CELL 'sum', in the pinned program and in every row, IS THE sha256 OF THE DUMP (.gsa) THAT YtmcbbepfakfehaaDoorProg.lean LOADS. Nothing in Lean hashes anything: it is a label: what it is worth is what the hold of that sum in a sandbox is worth. -/
noncomputable def Tryd.pinned : Pinned := { name := "ytmcbbepfakfehaadoor", sum := "44e2014e08e0ca978c60e48a9ef2b1760b7ffe30f4eba71003adf7bd68f4cbe8", checked := Tryd.checked }
namespace Rows
def none {H : Type} : Left H := { results := [], args := [] }

/- WHAT THE LISTED PACKAGE-LEVEL VARIABLES READ AS WHEN THE CALL BEGINS. Each datum BY PROGRAM (the guide's laid-datum.mjs) off the statement by which the dump's own 'gosem.cut.vars' lays the variable. In a bare row this is a premise. The card (YtmcbbepfakfehaaDoorCards.lean) ties it to the program's text. -/
def laid_netsegment_box_tops {H : Type} : DataW H := .agg [.lit (.int .u32 4294967295), .lit (.int .u32 4294967295), .lit (.int .u32 255), .lit (.int .u32 65535), .lit (.int .u32 65535)]

/-- 'nsglaw8.FilterSets': WHATEVER THE INPUT: true; the input reads as it did. -/
def filterSetsSpec : ChangeSpec := { name := "filterSets", fn := fun _ => fun
  | [d1, d2, d3] => { results := [.lit (.bool true)], args := [d1, d2, d3] }
  | _ => none }
def filterSetsRow : OpenClaim := { program := "ytmcbbepfakfehaadoor", sum := "44e2014e08e0ca978c60e48a9ef2b1760b7ffe30f4eba71003adf7bd68f4cbe8", func := "netsegment/nsglaw8.FilterSets", spec := "filterSets", unfollowed := true, recurses := true, named := ["netsegment/box.tops"], apart := false, laid := [("netsegment/box.tops", laid_netsegment_box_tops)] }
def FilterSetsSaid : Prop := filterSetsRow.holds Tryd.pinned (OpenSpec.ofChange filterSetsSpec)

/-- ITS FALSE NEIGHBOUR: 'it returns false'. Refute it at one input. -/
def filterSetsWrong : ChangeSpec := { name := "filterSets", fn := fun _ => fun
  | [d1, d2, d3] => { results := [.lit (.bool false)], args := [d1, d2, d3] }
  | _ => none }
def FilterSetsWrongFalsely : Prop := filterSetsRow.holds Tryd.pinned (OpenSpec.ofChange filterSetsWrong)

/-- 'nsglaw8.FilterPoints': WHATEVER THE INPUT: true; the input reads as it did. -/
def filterPointsSpec : ChangeSpec := { name := "filterPoints", fn := fun _ => fun
  | [d1, d2] => { results := [.lit (.bool true)], args := [d1, d2] }
  | _ => none }
def filterPointsRow : OpenClaim := { program := "ytmcbbepfakfehaadoor", sum := "44e2014e08e0ca978c60e48a9ef2b1760b7ffe30f4eba71003adf7bd68f4cbe8", func := "netsegment/nsglaw8.FilterPoints", spec := "filterPoints", unfollowed := true, recurses := true, named := ["netsegment/box.tops"], apart := false, laid := [("netsegment/box.tops", laid_netsegment_box_tops)] }
def FilterPointsSaid : Prop := filterPointsRow.holds Tryd.pinned (OpenSpec.ofChange filterPointsSpec)

/-- ITS FALSE NEIGHBOUR: 'it returns false'. Refute it at one input. -/
def filterPointsWrong : ChangeSpec := { name := "filterPoints", fn := fun _ => fun
  | [d1, d2] => { results := [.lit (.bool false)], args := [d1, d2] }
  | _ => none }
def FilterPointsWrongFalsely : Prop := filterPointsRow.holds Tryd.pinned (OpenSpec.ofChange filterPointsWrong)

/-- 'nsglaw8.FilterDecides': WHATEVER THE INPUT: true; the input reads as it did. -/
def filterDecidesSpec : ChangeSpec := { name := "filterDecides", fn := fun _ => fun
  | [d1, d2, d3] => { results := [.lit (.bool true)], args := [d1, d2, d3] }
  | _ => none }
def filterDecidesRow : OpenClaim := { program := "ytmcbbepfakfehaadoor", sum := "44e2014e08e0ca978c60e48a9ef2b1760b7ffe30f4eba71003adf7bd68f4cbe8", func := "netsegment/nsglaw8.FilterDecides", spec := "filterDecides", unfollowed := true, recurses := true, named := ["netsegment/box.tops"], apart := false, laid := [("netsegment/box.tops", laid_netsegment_box_tops)] }
def FilterDecidesSaid : Prop := filterDecidesRow.holds Tryd.pinned (OpenSpec.ofChange filterDecidesSpec)

/-- ITS FALSE NEIGHBOUR: 'it returns false'. Refute it at one input. -/
def filterDecidesWrong : ChangeSpec := { name := "filterDecides", fn := fun _ => fun
  | [d1, d2, d3] => { results := [.lit (.bool false)], args := [d1, d2, d3] }
  | _ => none }
def FilterDecidesWrongFalsely : Prop := filterDecidesRow.holds Tryd.pinned (OpenSpec.ofChange filterDecidesWrong)

/-- 'nsglaw8.FilterOf': WHATEVER THE INPUT: true; the input reads as it did. -/
def filterOfSpec : ChangeSpec := { name := "filterOf", fn := fun _ => fun
  | [d1, d2] => { results := [.lit (.bool true)], args := [d1, d2] }
  | _ => none }
def filterOfRow : OpenClaim := { program := "ytmcbbepfakfehaadoor", sum := "44e2014e08e0ca978c60e48a9ef2b1760b7ffe30f4eba71003adf7bd68f4cbe8", func := "netsegment/nsglaw8.FilterOf", spec := "filterOf", unfollowed := true, recurses := true, named := ["netsegment/box.tops"], apart := false, laid := [("netsegment/box.tops", laid_netsegment_box_tops)] }
def FilterOfSaid : Prop := filterOfRow.holds Tryd.pinned (OpenSpec.ofChange filterOfSpec)

/-- ITS FALSE NEIGHBOUR: 'it returns false'. Refute it at one input. -/
def filterOfWrong : ChangeSpec := { name := "filterOf", fn := fun _ => fun
  | [d1, d2] => { results := [.lit (.bool false)], args := [d1, d2] }
  | _ => none }
def FilterOfWrongFalsely : Prop := filterOfRow.holds Tryd.pinned (OpenSpec.ofChange filterOfWrong)

/-- 'nsglaw8.FilterPrunes': WHATEVER THE INPUT: true; the input reads as it did. -/
def filterPrunesSpec : ChangeSpec := { name := "filterPrunes", fn := fun _ => fun
  | [d1, d2] => { results := [.lit (.bool true)], args := [d1, d2] }
  | _ => none }
def filterPrunesRow : OpenClaim := { program := "ytmcbbepfakfehaadoor", sum := "44e2014e08e0ca978c60e48a9ef2b1760b7ffe30f4eba71003adf7bd68f4cbe8", func := "netsegment/nsglaw8.FilterPrunes", spec := "filterPrunes", unfollowed := true, recurses := true, named := ["netsegment/box.tops"], apart := false, laid := [("netsegment/box.tops", laid_netsegment_box_tops)] }
def FilterPrunesSaid : Prop := filterPrunesRow.holds Tryd.pinned (OpenSpec.ofChange filterPrunesSpec)

/-- ITS FALSE NEIGHBOUR: 'it returns false'. Refute it at one input. -/
def filterPrunesWrong : ChangeSpec := { name := "filterPrunes", fn := fun _ => fun
  | [d1, d2] => { results := [.lit (.bool false)], args := [d1, d2] }
  | _ => none }
def FilterPrunesWrongFalsely : Prop := filterPrunesRow.holds Tryd.pinned (OpenSpec.ofChange filterPrunesWrong)

/-- 'nsglaw8.FilterSwaps': WHATEVER THE INPUT: true; the input reads as it did. -/
def filterSwapsSpec : ChangeSpec := { name := "filterSwaps", fn := fun _ => fun
  | [d1, d2] => { results := [.lit (.bool true)], args := [d1, d2] }
  | _ => none }
def filterSwapsRow : OpenClaim := { program := "ytmcbbepfakfehaadoor", sum := "44e2014e08e0ca978c60e48a9ef2b1760b7ffe30f4eba71003adf7bd68f4cbe8", func := "netsegment/nsglaw8.FilterSwaps", spec := "filterSwaps", unfollowed := true, recurses := true, named := ["netsegment/box.tops"], apart := false, laid := [("netsegment/box.tops", laid_netsegment_box_tops)] }
def FilterSwapsSaid : Prop := filterSwapsRow.holds Tryd.pinned (OpenSpec.ofChange filterSwapsSpec)

/-- ITS FALSE NEIGHBOUR: 'it returns false'. Refute it at one input. -/
def filterSwapsWrong : ChangeSpec := { name := "filterSwaps", fn := fun _ => fun
  | [d1, d2] => { results := [.lit (.bool false)], args := [d1, d2] }
  | _ => none }
def FilterSwapsWrongFalsely : Prop := filterSwapsRow.holds Tryd.pinned (OpenSpec.ofChange filterSwapsWrong)

/- THE SECOND FORM. 'bulk': how many values and letters a reading holds, each counted each time it is reached (what is shared counts as often as it is met; a slice's spare places count too). A statement '..UptoSaid' is the law's where the arguments, and the package variables that the reading takes, are together of bulk at most 1048576: NARROWER than '..Said'. Prove '..Said' where nothing that the law and all that it calls make is longer than what came in: it says more and counts as full. Else prove '..UptoSaid'. A law counts once. -/
mutual
def uptoBulk {H : Type} : DataW H → Nat
  | .lit (.string bytes) => bytes.length + 1
  | .lit _ => 1
  | .nil => 1
  | .ptr d => uptoBulk d + 1
  | .slice elems spare => uptoBulkAll elems + uptoBulkAll spare + 1
  | .agg parts => uptoBulkAll parts + 1
  | .iface _ d => uptoBulk d + 1
  | .map entries => uptoBulkEntries entries + 1
  | .held _ => 1
def uptoBulkAll {H : Type} : List (DataW H) → Nat
  | [] => 0
  | d :: r => uptoBulk d + uptoBulkAll r
def uptoBulkEntries {H : Type} : List (Lit × DataW H) → Nat
  | [] => 0
  | x :: r => uptoBulkEntry x + uptoBulkEntries r
def uptoBulkEntry {H : Type} : Lit × DataW H → Nat
  | (.string bytes, d) => bytes.length + uptoBulk d + 1
  | (_, d) => uptoBulk d + 1
 end
def uptoSmall : (H : Type) → List (DataW H) → Bool := fun _ ds => decide (uptoBulkAll ds ≤ 1048576)
def OpenSpec.upto (s : _root_.Go.ChangeSpec) : _root_.Go.OpenSpec := { _root_.Go.OpenSpec.ofChange s with cond := some uptoSmall }

/-- 'nsglaw8.FilterSets', WHERE WHAT IT READS IS OF BULK AT MOST 1048576: true; the input reads as it did. -/
def filterSetsUptoRow : OpenClaim := { program := "ytmcbbepfakfehaadoor", sum := "44e2014e08e0ca978c60e48a9ef2b1760b7ffe30f4eba71003adf7bd68f4cbe8", func := "netsegment/nsglaw8.FilterSets", spec := "filterSets", unfollowed := true, recurses := true, named := ["netsegment/box.tops"], apart := false, laid := [("netsegment/box.tops", laid_netsegment_box_tops)], narrowed := true }
def FilterSetsUptoSaid : Prop := filterSetsUptoRow.holds Tryd.pinned (OpenSpec.upto filterSetsSpec)

/-- 'nsglaw8.FilterPoints', WHERE WHAT IT READS IS OF BULK AT MOST 1048576: true; the input reads as it did. -/
def filterPointsUptoRow : OpenClaim := { program := "ytmcbbepfakfehaadoor", sum := "44e2014e08e0ca978c60e48a9ef2b1760b7ffe30f4eba71003adf7bd68f4cbe8", func := "netsegment/nsglaw8.FilterPoints", spec := "filterPoints", unfollowed := true, recurses := true, named := ["netsegment/box.tops"], apart := false, laid := [("netsegment/box.tops", laid_netsegment_box_tops)], narrowed := true }
def FilterPointsUptoSaid : Prop := filterPointsUptoRow.holds Tryd.pinned (OpenSpec.upto filterPointsSpec)

/-- 'nsglaw8.FilterDecides', WHERE WHAT IT READS IS OF BULK AT MOST 1048576: true; the input reads as it did. -/
def filterDecidesUptoRow : OpenClaim := { program := "ytmcbbepfakfehaadoor", sum := "44e2014e08e0ca978c60e48a9ef2b1760b7ffe30f4eba71003adf7bd68f4cbe8", func := "netsegment/nsglaw8.FilterDecides", spec := "filterDecides", unfollowed := true, recurses := true, named := ["netsegment/box.tops"], apart := false, laid := [("netsegment/box.tops", laid_netsegment_box_tops)], narrowed := true }
def FilterDecidesUptoSaid : Prop := filterDecidesUptoRow.holds Tryd.pinned (OpenSpec.upto filterDecidesSpec)

/-- 'nsglaw8.FilterOf', WHERE WHAT IT READS IS OF BULK AT MOST 1048576: true; the input reads as it did. -/
def filterOfUptoRow : OpenClaim := { program := "ytmcbbepfakfehaadoor", sum := "44e2014e08e0ca978c60e48a9ef2b1760b7ffe30f4eba71003adf7bd68f4cbe8", func := "netsegment/nsglaw8.FilterOf", spec := "filterOf", unfollowed := true, recurses := true, named := ["netsegment/box.tops"], apart := false, laid := [("netsegment/box.tops", laid_netsegment_box_tops)], narrowed := true }
def FilterOfUptoSaid : Prop := filterOfUptoRow.holds Tryd.pinned (OpenSpec.upto filterOfSpec)

/-- 'nsglaw8.FilterPrunes', WHERE WHAT IT READS IS OF BULK AT MOST 1048576: true; the input reads as it did. -/
def filterPrunesUptoRow : OpenClaim := { program := "ytmcbbepfakfehaadoor", sum := "44e2014e08e0ca978c60e48a9ef2b1760b7ffe30f4eba71003adf7bd68f4cbe8", func := "netsegment/nsglaw8.FilterPrunes", spec := "filterPrunes", unfollowed := true, recurses := true, named := ["netsegment/box.tops"], apart := false, laid := [("netsegment/box.tops", laid_netsegment_box_tops)], narrowed := true }
def FilterPrunesUptoSaid : Prop := filterPrunesUptoRow.holds Tryd.pinned (OpenSpec.upto filterPrunesSpec)

/-- 'nsglaw8.FilterSwaps', WHERE WHAT IT READS IS OF BULK AT MOST 1048576: true; the input reads as it did. -/
def filterSwapsUptoRow : OpenClaim := { program := "ytmcbbepfakfehaadoor", sum := "44e2014e08e0ca978c60e48a9ef2b1760b7ffe30f4eba71003adf7bd68f4cbe8", func := "netsegment/nsglaw8.FilterSwaps", spec := "filterSwaps", unfollowed := true, recurses := true, named := ["netsegment/box.tops"], apart := false, laid := [("netsegment/box.tops", laid_netsegment_box_tops)], narrowed := true }
def FilterSwapsUptoSaid : Prop := filterSwapsUptoRow.holds Tryd.pinned (OpenSpec.upto filterSwapsSpec)

end Rows
end Go.Proofs.YtmcbbepfakfehaaDoor
