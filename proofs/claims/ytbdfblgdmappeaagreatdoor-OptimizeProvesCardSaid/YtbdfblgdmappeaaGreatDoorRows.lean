/-
  NARROWER THAN 'FOR EVERY INPUT', by the rows' own cells (each row's printed sentence says how): OptimizeApplies: laid · OptimizeFinds: laid · OptimizeReplays: laid · OptimizeKeeps: laid · OptimizeProves: laid · OptimizeFits: laid · PacketsetCombines: laid · PacketsetMakes: laid.
  DERIVED. THE GIVEN ROWS OF THIS SEAT. 8 by the template 'for every input the law returns true; each argument reads behind the call as it read before'; 0 by the template 'total and deterministic' (their statements: YtbdfblgdmappeaaGreatDoorTotals.lean).
  GIVEN WITH THE SEED: the statements are not yours to turn. If you find one false, say at which input.
  Laid BY PROGRAM, IN A SANDBOX (cutbox-rows.mjs): the forced cells as the released guide's own fill.sh prints them over the translation 2829ea9eb9053091… (all of the seat's roots in one cut). By AI agents, Wed Nov 11 2026. No macro, syntax, notation, axiom, sorry.
-/
import Derived.Test.YtbdfblgdmappeaaGreatDoorChecked
import GoSem.Claim
import GoSem.ClaimJoined
import GoSem.ClaimMapViews
import Derived.JoinedTies
import Derived.KernelRfl
namespace Go.Proofs.YtbdfblgdmappeaaGreatDoor
/- THE CELL 'sum', in the pinned program and in every row, IS THE sha256 OF THE DUMP (.gsa) THAT YtbdfblgdmappeaaGreatDoorProg.lean LOADS. Nothing in Lean hashes anything: it is a label: what it is worth is what the hold of that sum in a sandbox is worth. -/
noncomputable def Tryz.pinned : Pinned := { name := "ytbdfblgdmappeaagreatdoor", sum := "2829ea9eb905309118cd36d51f1213aceca38b3b89993824f3cd2e925eea17be", checked := Tryz.checked }
namespace Rows
def none {H : Type} : Left H := { results := [], args := [] }

/- WHAT THE LISTED PACKAGE-LEVEL VARIABLES READ AS WHEN THE CALL BEGINS. Each datum BY PROGRAM (the guide's laid-datum.mjs) off the statement by which the dump's own 'gosem.cut.vars' lays the variable. In a bare row this is a premise. The card (YtbdfblgdmappeaaGreatDoorCards.lean) ties it to the program's text. -/
def laid_netsegment_box_tops {H : Type} : DataW H := .agg [.lit (.int .u32 4294967295), .lit (.int .u32 4294967295), .lit (.int .u32 255), .lit (.int .u32 65535), .lit (.int .u32 65535)]
def laid_netsegment_expand_widths {H : Type} : DataW H := .agg [.lit (.int .i64 32), .lit (.int .i64 32), .lit (.int .i64 8), .lit (.int .i64 16), .lit (.int .i64 16)]

/-- 'nsglaw36.OptimizeApplies': WHATEVER THE INPUT: true; the input reads as it did. -/
def optimizeAppliesSpec : ChangeSpec := { name := "optimizeApplies", fn := fun _ => fun
  | [d1, d2, d3] => { results := [.lit (.bool true)], args := [d1, d2, d3] }
  | _ => none }
def optimizeAppliesRow : OpenClaim := { program := "ytbdfblgdmappeaagreatdoor", sum := "2829ea9eb905309118cd36d51f1213aceca38b3b89993824f3cd2e925eea17be", func := "netsegment/nsglaw36.OptimizeApplies", spec := "optimizeApplies", unfollowed := true, recurses := true, named := ["netsegment/box.tops", "netsegment/expand.widths"], apart := false, laid := [("netsegment/box.tops", laid_netsegment_box_tops), ("netsegment/expand.widths", laid_netsegment_expand_widths)] }
def OptimizeAppliesSaid : Prop := optimizeAppliesRow.holds Tryz.pinned (OpenSpec.ofChange optimizeAppliesSpec)

/-- ITS FALSE NEIGHBOUR: 'it returns false'. Refute it at one input. -/
def optimizeAppliesWrong : ChangeSpec := { name := "optimizeApplies", fn := fun _ => fun
  | [d1, d2, d3] => { results := [.lit (.bool false)], args := [d1, d2, d3] }
  | _ => none }
def OptimizeAppliesWrongFalsely : Prop := optimizeAppliesRow.holds Tryz.pinned (OpenSpec.ofChange optimizeAppliesWrong)

/-- 'nsglaw36.OptimizeFinds': WHATEVER THE INPUT: true; the input reads as it did. -/
def optimizeFindsSpec : ChangeSpec := { name := "optimizeFinds", fn := fun _ => fun
  | [d1, d2, d3] => { results := [.lit (.bool true)], args := [d1, d2, d3] }
  | _ => none }
def optimizeFindsRow : OpenClaim := { program := "ytbdfblgdmappeaagreatdoor", sum := "2829ea9eb905309118cd36d51f1213aceca38b3b89993824f3cd2e925eea17be", func := "netsegment/nsglaw36.OptimizeFinds", spec := "optimizeFinds", unfollowed := true, recurses := true, named := ["netsegment/box.tops", "netsegment/expand.widths"], apart := false, laid := [("netsegment/box.tops", laid_netsegment_box_tops), ("netsegment/expand.widths", laid_netsegment_expand_widths)] }
def OptimizeFindsSaid : Prop := optimizeFindsRow.holds Tryz.pinned (OpenSpec.ofChange optimizeFindsSpec)

/-- ITS FALSE NEIGHBOUR: 'it returns false'. Refute it at one input. -/
def optimizeFindsWrong : ChangeSpec := { name := "optimizeFinds", fn := fun _ => fun
  | [d1, d2, d3] => { results := [.lit (.bool false)], args := [d1, d2, d3] }
  | _ => none }
def OptimizeFindsWrongFalsely : Prop := optimizeFindsRow.holds Tryz.pinned (OpenSpec.ofChange optimizeFindsWrong)

/-- 'nsglaw36.OptimizeReplays': WHATEVER THE INPUT: true; the input reads as it did. -/
def optimizeReplaysSpec : ChangeSpec := { name := "optimizeReplays", fn := fun _ => fun
  | [d1, d2, d3] => { results := [.lit (.bool true)], args := [d1, d2, d3] }
  | _ => none }
def optimizeReplaysRow : OpenClaim := { program := "ytbdfblgdmappeaagreatdoor", sum := "2829ea9eb905309118cd36d51f1213aceca38b3b89993824f3cd2e925eea17be", func := "netsegment/nsglaw36.OptimizeReplays", spec := "optimizeReplays", unfollowed := true, recurses := true, named := ["netsegment/box.tops", "netsegment/expand.widths"], apart := false, laid := [("netsegment/box.tops", laid_netsegment_box_tops), ("netsegment/expand.widths", laid_netsegment_expand_widths)] }
def OptimizeReplaysSaid : Prop := optimizeReplaysRow.holds Tryz.pinned (OpenSpec.ofChange optimizeReplaysSpec)

/-- ITS FALSE NEIGHBOUR: 'it returns false'. Refute it at one input. -/
def optimizeReplaysWrong : ChangeSpec := { name := "optimizeReplays", fn := fun _ => fun
  | [d1, d2, d3] => { results := [.lit (.bool false)], args := [d1, d2, d3] }
  | _ => none }
def OptimizeReplaysWrongFalsely : Prop := optimizeReplaysRow.holds Tryz.pinned (OpenSpec.ofChange optimizeReplaysWrong)

/-- 'nsglaw36.OptimizeKeeps': WHATEVER THE INPUT: true; the input reads as it did. -/
def optimizeKeepsSpec : ChangeSpec := { name := "optimizeKeeps", fn := fun _ => fun
  | [d1, d2] => { results := [.lit (.bool true)], args := [d1, d2] }
  | _ => none }
def optimizeKeepsRow : OpenClaim := { program := "ytbdfblgdmappeaagreatdoor", sum := "2829ea9eb905309118cd36d51f1213aceca38b3b89993824f3cd2e925eea17be", func := "netsegment/nsglaw36.OptimizeKeeps", spec := "optimizeKeeps", unfollowed := true, recurses := true, named := ["netsegment/box.tops", "netsegment/expand.widths"], apart := false, laid := [("netsegment/box.tops", laid_netsegment_box_tops), ("netsegment/expand.widths", laid_netsegment_expand_widths)] }
def OptimizeKeepsSaid : Prop := optimizeKeepsRow.holds Tryz.pinned (OpenSpec.ofChange optimizeKeepsSpec)

/-- ITS FALSE NEIGHBOUR: 'it returns false'. Refute it at one input. -/
def optimizeKeepsWrong : ChangeSpec := { name := "optimizeKeeps", fn := fun _ => fun
  | [d1, d2] => { results := [.lit (.bool false)], args := [d1, d2] }
  | _ => none }
def OptimizeKeepsWrongFalsely : Prop := optimizeKeepsRow.holds Tryz.pinned (OpenSpec.ofChange optimizeKeepsWrong)

/-- 'nsglaw36.OptimizeProves': WHATEVER THE INPUT: true; the input reads as it did. -/
def optimizeProvesSpec : ChangeSpec := { name := "optimizeProves", fn := fun _ => fun
  | [d1, d2] => { results := [.lit (.bool true)], args := [d1, d2] }
  | _ => none }
def optimizeProvesRow : OpenClaim := { program := "ytbdfblgdmappeaagreatdoor", sum := "2829ea9eb905309118cd36d51f1213aceca38b3b89993824f3cd2e925eea17be", func := "netsegment/nsglaw36.OptimizeProves", spec := "optimizeProves", unfollowed := true, recurses := true, named := ["netsegment/box.tops", "netsegment/expand.widths"], apart := false, laid := [("netsegment/box.tops", laid_netsegment_box_tops), ("netsegment/expand.widths", laid_netsegment_expand_widths)] }
def OptimizeProvesSaid : Prop := optimizeProvesRow.holds Tryz.pinned (OpenSpec.ofChange optimizeProvesSpec)

/-- ITS FALSE NEIGHBOUR: 'it returns false'. Refute it at one input. -/
def optimizeProvesWrong : ChangeSpec := { name := "optimizeProves", fn := fun _ => fun
  | [d1, d2] => { results := [.lit (.bool false)], args := [d1, d2] }
  | _ => none }
def OptimizeProvesWrongFalsely : Prop := optimizeProvesRow.holds Tryz.pinned (OpenSpec.ofChange optimizeProvesWrong)

/-- 'nsglaw36.OptimizeFits': WHATEVER THE INPUT: true; the input reads as it did. -/
def optimizeFitsSpec : ChangeSpec := { name := "optimizeFits", fn := fun _ => fun
  | [d1, d2] => { results := [.lit (.bool true)], args := [d1, d2] }
  | _ => none }
def optimizeFitsRow : OpenClaim := { program := "ytbdfblgdmappeaagreatdoor", sum := "2829ea9eb905309118cd36d51f1213aceca38b3b89993824f3cd2e925eea17be", func := "netsegment/nsglaw36.OptimizeFits", spec := "optimizeFits", unfollowed := true, recurses := true, named := ["netsegment/box.tops", "netsegment/expand.widths"], apart := false, laid := [("netsegment/box.tops", laid_netsegment_box_tops), ("netsegment/expand.widths", laid_netsegment_expand_widths)] }
def OptimizeFitsSaid : Prop := optimizeFitsRow.holds Tryz.pinned (OpenSpec.ofChange optimizeFitsSpec)

/-- ITS FALSE NEIGHBOUR: 'it returns false'. Refute it at one input. -/
def optimizeFitsWrong : ChangeSpec := { name := "optimizeFits", fn := fun _ => fun
  | [d1, d2] => { results := [.lit (.bool false)], args := [d1, d2] }
  | _ => none }
def OptimizeFitsWrongFalsely : Prop := optimizeFitsRow.holds Tryz.pinned (OpenSpec.ofChange optimizeFitsWrong)

/-- 'nsglaw4.PacketsetCombines': WHATEVER THE INPUT: true; the input reads as it did. -/
def packetsetCombinesSpec : ChangeSpec := { name := "packetsetCombines", fn := fun _ => fun
  | [d1, d2, d3] => { results := [.lit (.bool true)], args := [d1, d2, d3] }
  | _ => none }
def packetsetCombinesRow : OpenClaim := { program := "ytbdfblgdmappeaagreatdoor", sum := "2829ea9eb905309118cd36d51f1213aceca38b3b89993824f3cd2e925eea17be", func := "netsegment/nsglaw4.PacketsetCombines", spec := "packetsetCombines", unfollowed := true, recurses := true, named := ["netsegment/box.tops"], apart := false, laid := [("netsegment/box.tops", laid_netsegment_box_tops)] }
def PacketsetCombinesSaid : Prop := packetsetCombinesRow.holds Tryz.pinned (OpenSpec.ofChange packetsetCombinesSpec)

/-- ITS FALSE NEIGHBOUR: 'it returns false'. Refute it at one input. -/
def packetsetCombinesWrong : ChangeSpec := { name := "packetsetCombines", fn := fun _ => fun
  | [d1, d2, d3] => { results := [.lit (.bool false)], args := [d1, d2, d3] }
  | _ => none }
def PacketsetCombinesWrongFalsely : Prop := packetsetCombinesRow.holds Tryz.pinned (OpenSpec.ofChange packetsetCombinesWrong)

/-- 'nsglaw4.PacketsetMakes': WHATEVER THE INPUT: true; the input reads as it did. -/
def packetsetMakesSpec : ChangeSpec := { name := "packetsetMakes", fn := fun _ => fun
  | [d1, d2, d3, d4] => { results := [.lit (.bool true)], args := [d1, d2, d3, d4] }
  | _ => none }
def packetsetMakesRow : OpenClaim := { program := "ytbdfblgdmappeaagreatdoor", sum := "2829ea9eb905309118cd36d51f1213aceca38b3b89993824f3cd2e925eea17be", func := "netsegment/nsglaw4.PacketsetMakes", spec := "packetsetMakes", unfollowed := true, recurses := true, named := ["netsegment/box.tops"], apart := false, laid := [("netsegment/box.tops", laid_netsegment_box_tops)] }
def PacketsetMakesSaid : Prop := packetsetMakesRow.holds Tryz.pinned (OpenSpec.ofChange packetsetMakesSpec)

/-- ITS FALSE NEIGHBOUR: 'it returns false'. Refute it at one input. -/
def packetsetMakesWrong : ChangeSpec := { name := "packetsetMakes", fn := fun _ => fun
  | [d1, d2, d3, d4] => { results := [.lit (.bool false)], args := [d1, d2, d3, d4] }
  | _ => none }
def PacketsetMakesWrongFalsely : Prop := packetsetMakesRow.holds Tryz.pinned (OpenSpec.ofChange packetsetMakesWrong)

/- THE SECOND FORM. 'bulk': how many values and letters a reading holds, each counted each time it is reached (what is shared counts as often as it is met; a slice's spare places count too). A statement '..UptoSaid' is the law's where the arguments, and the package variables that the reading takes, are together of bulk at most 1048576: NARROWER than '..Said'. Prove '..Said' where nothing that the law and all that it calls make is longer than what came in: it says more and counts as full. Else prove '..UptoSaid'. A law counts once. -/
mutual
def uptoBulk {H : Type} : DataW H → Nat
  | .lit (.string bytes) => bytes.length + 1
  | .lit _ => 1
  | .nil => 1
  | .ptr d => uptoBulk d + 1
  | .slice elems spare => uptoBulkAll elems + uptoBulkAll spare + 1
  | .agg parts => uptoBulkAll parts + 1
  | .iface _ d => uptoBulk d + 1
  | .map entries => uptoBulkEntries entries + 1
  | .held _ => 1
def uptoBulkAll {H : Type} : List (DataW H) → Nat
  | [] => 0
  | d :: r => uptoBulk d + uptoBulkAll r
def uptoBulkEntries {H : Type} : List (Lit × DataW H) → Nat
  | [] => 0
  | x :: r => uptoBulkEntry x + uptoBulkEntries r
def uptoBulkEntry {H : Type} : Lit × DataW H → Nat
  | (.string bytes, d) => bytes.length + uptoBulk d + 1
  | (_, d) => uptoBulk d + 1
 end
def uptoSmall : (H : Type) → List (DataW H) → Bool := fun _ ds => decide (uptoBulkAll ds ≤ 1048576)
def OpenSpec.upto (s : _root_.Go.ChangeSpec) : _root_.Go.OpenSpec := { _root_.Go.OpenSpec.ofChange s with cond := some uptoSmall }

/-- 'nsglaw36.OptimizeApplies', WHERE WHAT IT READS IS OF BULK AT MOST 1048576: true; the input reads as it did. -/
def optimizeAppliesUptoRow : OpenClaim := { program := "ytbdfblgdmappeaagreatdoor", sum := "2829ea9eb905309118cd36d51f1213aceca38b3b89993824f3cd2e925eea17be", func := "netsegment/nsglaw36.OptimizeApplies", spec := "optimizeApplies", unfollowed := true, recurses := true, named := ["netsegment/box.tops", "netsegment/expand.widths"], apart := false, laid := [("netsegment/box.tops", laid_netsegment_box_tops), ("netsegment/expand.widths", laid_netsegment_expand_widths)], narrowed := true }
def OptimizeAppliesUptoSaid : Prop := optimizeAppliesUptoRow.holds Tryz.pinned (OpenSpec.upto optimizeAppliesSpec)

/-- 'nsglaw36.OptimizeFinds', WHERE WHAT IT READS IS OF BULK AT MOST 1048576: true; the input reads as it did. -/
def optimizeFindsUptoRow : OpenClaim := { program := "ytbdfblgdmappeaagreatdoor", sum := "2829ea9eb905309118cd36d51f1213aceca38b3b89993824f3cd2e925eea17be", func := "netsegment/nsglaw36.OptimizeFinds", spec := "optimizeFinds", unfollowed := true, recurses := true, named := ["netsegment/box.tops", "netsegment/expand.widths"], apart := false, laid := [("netsegment/box.tops", laid_netsegment_box_tops), ("netsegment/expand.widths", laid_netsegment_expand_widths)], narrowed := true }
def OptimizeFindsUptoSaid : Prop := optimizeFindsUptoRow.holds Tryz.pinned (OpenSpec.upto optimizeFindsSpec)

/-- 'nsglaw36.OptimizeReplays', WHERE WHAT IT READS IS OF BULK AT MOST 1048576: true; the input reads as it did. -/
def optimizeReplaysUptoRow : OpenClaim := { program := "ytbdfblgdmappeaagreatdoor", sum := "2829ea9eb905309118cd36d51f1213aceca38b3b89993824f3cd2e925eea17be", func := "netsegment/nsglaw36.OptimizeReplays", spec := "optimizeReplays", unfollowed := true, recurses := true, named := ["netsegment/box.tops", "netsegment/expand.widths"], apart := false, laid := [("netsegment/box.tops", laid_netsegment_box_tops), ("netsegment/expand.widths", laid_netsegment_expand_widths)], narrowed := true }
def OptimizeReplaysUptoSaid : Prop := optimizeReplaysUptoRow.holds Tryz.pinned (OpenSpec.upto optimizeReplaysSpec)

/-- 'nsglaw36.OptimizeKeeps', WHERE WHAT IT READS IS OF BULK AT MOST 1048576: true; the input reads as it did. -/
def optimizeKeepsUptoRow : OpenClaim := { program := "ytbdfblgdmappeaagreatdoor", sum := "2829ea9eb905309118cd36d51f1213aceca38b3b89993824f3cd2e925eea17be", func := "netsegment/nsglaw36.OptimizeKeeps", spec := "optimizeKeeps", unfollowed := true, recurses := true, named := ["netsegment/box.tops", "netsegment/expand.widths"], apart := false, laid := [("netsegment/box.tops", laid_netsegment_box_tops), ("netsegment/expand.widths", laid_netsegment_expand_widths)], narrowed := true }
def OptimizeKeepsUptoSaid : Prop := optimizeKeepsUptoRow.holds Tryz.pinned (OpenSpec.upto optimizeKeepsSpec)

/-- 'nsglaw36.OptimizeProves', WHERE WHAT IT READS IS OF BULK AT MOST 1048576: true; the input reads as it did. -/
def optimizeProvesUptoRow : OpenClaim := { program := "ytbdfblgdmappeaagreatdoor", sum := "2829ea9eb905309118cd36d51f1213aceca38b3b89993824f3cd2e925eea17be", func := "netsegment/nsglaw36.OptimizeProves", spec := "optimizeProves", unfollowed := true, recurses := true, named := ["netsegment/box.tops", "netsegment/expand.widths"], apart := false, laid := [("netsegment/box.tops", laid_netsegment_box_tops), ("netsegment/expand.widths", laid_netsegment_expand_widths)], narrowed := true }
def OptimizeProvesUptoSaid : Prop := optimizeProvesUptoRow.holds Tryz.pinned (OpenSpec.upto optimizeProvesSpec)

/-- 'nsglaw36.OptimizeFits', WHERE WHAT IT READS IS OF BULK AT MOST 1048576: true; the input reads as it did. -/
def optimizeFitsUptoRow : OpenClaim := { program := "ytbdfblgdmappeaagreatdoor", sum := "2829ea9eb905309118cd36d51f1213aceca38b3b89993824f3cd2e925eea17be", func := "netsegment/nsglaw36.OptimizeFits", spec := "optimizeFits", unfollowed := true, recurses := true, named := ["netsegment/box.tops", "netsegment/expand.widths"], apart := false, laid := [("netsegment/box.tops", laid_netsegment_box_tops), ("netsegment/expand.widths", laid_netsegment_expand_widths)], narrowed := true }
def OptimizeFitsUptoSaid : Prop := optimizeFitsUptoRow.holds Tryz.pinned (OpenSpec.upto optimizeFitsSpec)

/-- 'nsglaw4.PacketsetCombines', WHERE WHAT IT READS IS OF BULK AT MOST 1048576: true; the input reads as it did. -/
def packetsetCombinesUptoRow : OpenClaim := { program := "ytbdfblgdmappeaagreatdoor", sum := "2829ea9eb905309118cd36d51f1213aceca38b3b89993824f3cd2e925eea17be", func := "netsegment/nsglaw4.PacketsetCombines", spec := "packetsetCombines", unfollowed := true, recurses := true, named := ["netsegment/box.tops"], apart := false, laid := [("netsegment/box.tops", laid_netsegment_box_tops)], narrowed := true }
def PacketsetCombinesUptoSaid : Prop := packetsetCombinesUptoRow.holds Tryz.pinned (OpenSpec.upto packetsetCombinesSpec)

/-- 'nsglaw4.PacketsetMakes', WHERE WHAT IT READS IS OF BULK AT MOST 1048576: true; the input reads as it did. -/
def packetsetMakesUptoRow : OpenClaim := { program := "ytbdfblgdmappeaagreatdoor", sum := "2829ea9eb905309118cd36d51f1213aceca38b3b89993824f3cd2e925eea17be", func := "netsegment/nsglaw4.PacketsetMakes", spec := "packetsetMakes", unfollowed := true, recurses := true, named := ["netsegment/box.tops"], apart := false, laid := [("netsegment/box.tops", laid_netsegment_box_tops)], narrowed := true }
def PacketsetMakesUptoSaid : Prop := packetsetMakesUptoRow.holds Tryz.pinned (OpenSpec.upto packetsetMakesSpec)

end Rows
end Go.Proofs.YtbdfblgdmappeaaGreatDoor
