/-
  NARROWER THAN 'FOR EVERY INPUT', by the rows' own cells (each row's printed sentence says how): PacketChecksum: laid · PacketChecksumVerifies: laid · PacketReads: laid · PacketWrites: laid · PacketComesBack: laid · PacketNotices: laid · PacketProbes: laid · PacketAnswers: laid · PacketHops: laid · PacketRewrites: laid · PacketRewritesHeaderOnly: laid.
  DERIVED. THE GIVEN ROWS OF THIS SEAT. 11 by the template 'for every input the law returns true; each argument reads behind the call as it read before'; 0 by the template 'total and deterministic' (their statements: YtjfiipbjphabeaaDoorTotals.lean).
  GIVEN WITH THE SEED: the statements are not yours to turn. If you find one false, say at which input.
  Laid BY PROGRAM, IN A SANDBOX (cutbox-rows.mjs): the forced cells as the released guide's own fill.sh prints them over the translation 3d77ef4a7e230cf0… (all of the seat's roots in one cut). By AI agents, Wed Nov 11 2026. No macro, syntax, notation, axiom, sorry.
-/
import Derived.Test.YtjfiipbjphabeaaDoorChecked
import GoSem.Claim
import GoSem.ClaimJoined
import GoSem.ClaimMapViews
import Derived.JoinedTies
import Derived.KernelRfl
namespace Go.Proofs.YtjfiipbjphabeaaDoor
/- THE CELL 'sum', in the pinned program and in every row, IS THE sha256 OF THE DUMP (.gsa) THAT YtjfiipbjphabeaaDoorProg.lean LOADS. Nothing in Lean hashes anything: it is a label: what it is worth is what the hold of that sum in a sandbox is worth. -/
noncomputable def Tryd.pinned : Pinned := { name := "ytjfiipbjphabeaadoor", sum := "3d77ef4a7e230cf0cae904727b2f4ce5ab2fd381e78293bccdf93383b9bbc52a", checked := Tryd.checked }
namespace Rows
def none {H : Type} : Left H := { results := [], args := [] }

/- WHAT THE LISTED PACKAGE-LEVEL VARIABLES READ AS WHEN THE CALL BEGINS. Each datum BY PROGRAM (the guide's laid-datum.mjs) off the statement by which the dump's own 'gosem.cut.vars' lays the variable. In a bare row this is a premise. The card (YtjfiipbjphabeaaDoorCards.lean) ties it to the program's text. -/
def laid_netsegment_box_tops {H : Type} : DataW H := .agg [.lit (.int .u32 4294967295), .lit (.int .u32 4294967295), .lit (.int .u32 255), .lit (.int .u32 65535), .lit (.int .u32 65535)]

/-- 'nsglaw24.PacketChecksum': WHATEVER THE INPUT: true; the input reads as it did. -/
def packetChecksumSpec : ChangeSpec := { name := "packetChecksum", fn := fun _ => fun
  | [d1, d2] => { results := [.lit (.bool true)], args := [d1, d2] }
  | _ => none }
def packetChecksumRow : OpenClaim := { program := "ytjfiipbjphabeaadoor", sum := "3d77ef4a7e230cf0cae904727b2f4ce5ab2fd381e78293bccdf93383b9bbc52a", func := "netsegment/nsglaw24.PacketChecksum", spec := "packetChecksum", unfollowed := true, recurses := true, named := ["netsegment/box.tops"], apart := false, laid := [("netsegment/box.tops", laid_netsegment_box_tops)] }
def PacketChecksumSaid : Prop := packetChecksumRow.holds Tryd.pinned (OpenSpec.ofChange packetChecksumSpec)

/-- ITS FALSE NEIGHBOUR: 'it returns false'. Refute it at one input. -/
def packetChecksumWrong : ChangeSpec := { name := "packetChecksum", fn := fun _ => fun
  | [d1, d2] => { results := [.lit (.bool false)], args := [d1, d2] }
  | _ => none }
def PacketChecksumWrongFalsely : Prop := packetChecksumRow.holds Tryd.pinned (OpenSpec.ofChange packetChecksumWrong)

/-- 'nsglaw24.PacketChecksumVerifies': WHATEVER THE INPUT: true; the input reads as it did. -/
def packetChecksumVerifiesSpec : ChangeSpec := { name := "packetChecksumVerifies", fn := fun _ => fun
  | [d1, d2] => { results := [.lit (.bool true)], args := [d1, d2] }
  | _ => none }
def packetChecksumVerifiesRow : OpenClaim := { program := "ytjfiipbjphabeaadoor", sum := "3d77ef4a7e230cf0cae904727b2f4ce5ab2fd381e78293bccdf93383b9bbc52a", func := "netsegment/nsglaw24.PacketChecksumVerifies", spec := "packetChecksumVerifies", unfollowed := true, recurses := true, named := ["netsegment/box.tops"], apart := false, laid := [("netsegment/box.tops", laid_netsegment_box_tops)] }
def PacketChecksumVerifiesSaid : Prop := packetChecksumVerifiesRow.holds Tryd.pinned (OpenSpec.ofChange packetChecksumVerifiesSpec)

/-- ITS FALSE NEIGHBOUR: 'it returns false'. Refute it at one input. -/
def packetChecksumVerifiesWrong : ChangeSpec := { name := "packetChecksumVerifies", fn := fun _ => fun
  | [d1, d2] => { results := [.lit (.bool false)], args := [d1, d2] }
  | _ => none }
def PacketChecksumVerifiesWrongFalsely : Prop := packetChecksumVerifiesRow.holds Tryd.pinned (OpenSpec.ofChange packetChecksumVerifiesWrong)

/-- 'nsglaw24.PacketReads': WHATEVER THE INPUT: true; the input reads as it did. -/
def packetReadsSpec : ChangeSpec := { name := "packetReads", fn := fun _ => fun
  | [d1, d2] => { results := [.lit (.bool true)], args := [d1, d2] }
  | _ => none }
def packetReadsRow : OpenClaim := { program := "ytjfiipbjphabeaadoor", sum := "3d77ef4a7e230cf0cae904727b2f4ce5ab2fd381e78293bccdf93383b9bbc52a", func := "netsegment/nsglaw24.PacketReads", spec := "packetReads", unfollowed := true, recurses := true, named := ["netsegment/box.tops"], apart := false, laid := [("netsegment/box.tops", laid_netsegment_box_tops)] }
def PacketReadsSaid : Prop := packetReadsRow.holds Tryd.pinned (OpenSpec.ofChange packetReadsSpec)

/-- ITS FALSE NEIGHBOUR: 'it returns false'. Refute it at one input. -/
def packetReadsWrong : ChangeSpec := { name := "packetReads", fn := fun _ => fun
  | [d1, d2] => { results := [.lit (.bool false)], args := [d1, d2] }
  | _ => none }
def PacketReadsWrongFalsely : Prop := packetReadsRow.holds Tryd.pinned (OpenSpec.ofChange packetReadsWrong)

/-- 'nsglaw24.PacketWrites': WHATEVER THE INPUT: true; the input reads as it did. -/
def packetWritesSpec : ChangeSpec := { name := "packetWrites", fn := fun _ => fun
  | [d1, d2] => { results := [.lit (.bool true)], args := [d1, d2] }
  | _ => none }
def packetWritesRow : OpenClaim := { program := "ytjfiipbjphabeaadoor", sum := "3d77ef4a7e230cf0cae904727b2f4ce5ab2fd381e78293bccdf93383b9bbc52a", func := "netsegment/nsglaw24.PacketWrites", spec := "packetWrites", unfollowed := true, recurses := true, named := ["netsegment/box.tops"], apart := false, laid := [("netsegment/box.tops", laid_netsegment_box_tops)] }
def PacketWritesSaid : Prop := packetWritesRow.holds Tryd.pinned (OpenSpec.ofChange packetWritesSpec)

/-- ITS FALSE NEIGHBOUR: 'it returns false'. Refute it at one input. -/
def packetWritesWrong : ChangeSpec := { name := "packetWrites", fn := fun _ => fun
  | [d1, d2] => { results := [.lit (.bool false)], args := [d1, d2] }
  | _ => none }
def PacketWritesWrongFalsely : Prop := packetWritesRow.holds Tryd.pinned (OpenSpec.ofChange packetWritesWrong)

/-- 'nsglaw24.PacketComesBack': WHATEVER THE INPUT: true; the input reads as it did. -/
def packetComesBackSpec : ChangeSpec := { name := "packetComesBack", fn := fun _ => fun
  | [d1, d2] => { results := [.lit (.bool true)], args := [d1, d2] }
  | _ => none }
def packetComesBackRow : OpenClaim := { program := "ytjfiipbjphabeaadoor", sum := "3d77ef4a7e230cf0cae904727b2f4ce5ab2fd381e78293bccdf93383b9bbc52a", func := "netsegment/nsglaw24.PacketComesBack", spec := "packetComesBack", unfollowed := true, recurses := true, named := ["netsegment/box.tops"], apart := false, laid := [("netsegment/box.tops", laid_netsegment_box_tops)] }
def PacketComesBackSaid : Prop := packetComesBackRow.holds Tryd.pinned (OpenSpec.ofChange packetComesBackSpec)

/-- ITS FALSE NEIGHBOUR: 'it returns false'. Refute it at one input. -/
def packetComesBackWrong : ChangeSpec := { name := "packetComesBack", fn := fun _ => fun
  | [d1, d2] => { results := [.lit (.bool false)], args := [d1, d2] }
  | _ => none }
def PacketComesBackWrongFalsely : Prop := packetComesBackRow.holds Tryd.pinned (OpenSpec.ofChange packetComesBackWrong)

/-- 'nsglaw24.PacketNotices': WHATEVER THE INPUT: true; the input reads as it did. -/
def packetNoticesSpec : ChangeSpec := { name := "packetNotices", fn := fun _ => fun
  | [d1, d2, d3] => { results := [.lit (.bool true)], args := [d1, d2, d3] }
  | _ => none }
def packetNoticesRow : OpenClaim := { program := "ytjfiipbjphabeaadoor", sum := "3d77ef4a7e230cf0cae904727b2f4ce5ab2fd381e78293bccdf93383b9bbc52a", func := "netsegment/nsglaw24.PacketNotices", spec := "packetNotices", unfollowed := true, recurses := true, named := ["netsegment/box.tops"], apart := false, laid := [("netsegment/box.tops", laid_netsegment_box_tops)] }
def PacketNoticesSaid : Prop := packetNoticesRow.holds Tryd.pinned (OpenSpec.ofChange packetNoticesSpec)

/-- ITS FALSE NEIGHBOUR: 'it returns false'. Refute it at one input. -/
def packetNoticesWrong : ChangeSpec := { name := "packetNotices", fn := fun _ => fun
  | [d1, d2, d3] => { results := [.lit (.bool false)], args := [d1, d2, d3] }
  | _ => none }
def PacketNoticesWrongFalsely : Prop := packetNoticesRow.holds Tryd.pinned (OpenSpec.ofChange packetNoticesWrong)

/-- 'nsglaw24.PacketProbes': WHATEVER THE INPUT: true; the input reads as it did. -/
def packetProbesSpec : ChangeSpec := { name := "packetProbes", fn := fun _ => fun
  | [d1, d2] => { results := [.lit (.bool true)], args := [d1, d2] }
  | _ => none }
def packetProbesRow : OpenClaim := { program := "ytjfiipbjphabeaadoor", sum := "3d77ef4a7e230cf0cae904727b2f4ce5ab2fd381e78293bccdf93383b9bbc52a", func := "netsegment/nsglaw24.PacketProbes", spec := "packetProbes", unfollowed := true, recurses := true, named := ["netsegment/box.tops"], apart := false, laid := [("netsegment/box.tops", laid_netsegment_box_tops)] }
def PacketProbesSaid : Prop := packetProbesRow.holds Tryd.pinned (OpenSpec.ofChange packetProbesSpec)

/-- ITS FALSE NEIGHBOUR: 'it returns false'. Refute it at one input. -/
def packetProbesWrong : ChangeSpec := { name := "packetProbes", fn := fun _ => fun
  | [d1, d2] => { results := [.lit (.bool false)], args := [d1, d2] }
  | _ => none }
def PacketProbesWrongFalsely : Prop := packetProbesRow.holds Tryd.pinned (OpenSpec.ofChange packetProbesWrong)

/-- 'nsglaw24.PacketAnswers': WHATEVER THE INPUT: true; the input reads as it did. -/
def packetAnswersSpec : ChangeSpec := { name := "packetAnswers", fn := fun _ => fun
  | [d1, d2] => { results := [.lit (.bool true)], args := [d1, d2] }
  | _ => none }
def packetAnswersRow : OpenClaim := { program := "ytjfiipbjphabeaadoor", sum := "3d77ef4a7e230cf0cae904727b2f4ce5ab2fd381e78293bccdf93383b9bbc52a", func := "netsegment/nsglaw24.PacketAnswers", spec := "packetAnswers", unfollowed := true, recurses := true, named := ["netsegment/box.tops"], apart := false, laid := [("netsegment/box.tops", laid_netsegment_box_tops)] }
def PacketAnswersSaid : Prop := packetAnswersRow.holds Tryd.pinned (OpenSpec.ofChange packetAnswersSpec)

/-- ITS FALSE NEIGHBOUR: 'it returns false'. Refute it at one input. -/
def packetAnswersWrong : ChangeSpec := { name := "packetAnswers", fn := fun _ => fun
  | [d1, d2] => { results := [.lit (.bool false)], args := [d1, d2] }
  | _ => none }
def PacketAnswersWrongFalsely : Prop := packetAnswersRow.holds Tryd.pinned (OpenSpec.ofChange packetAnswersWrong)

/-- 'nsglaw24.PacketHops': WHATEVER THE INPUT: true; the input reads as it did. -/
def packetHopsSpec : ChangeSpec := { name := "packetHops", fn := fun _ => fun
  | [d1, d2] => { results := [.lit (.bool true)], args := [d1, d2] }
  | _ => none }
def packetHopsRow : OpenClaim := { program := "ytjfiipbjphabeaadoor", sum := "3d77ef4a7e230cf0cae904727b2f4ce5ab2fd381e78293bccdf93383b9bbc52a", func := "netsegment/nsglaw24.PacketHops", spec := "packetHops", unfollowed := true, recurses := true, named := ["netsegment/box.tops"], apart := false, laid := [("netsegment/box.tops", laid_netsegment_box_tops)] }
def PacketHopsSaid : Prop := packetHopsRow.holds Tryd.pinned (OpenSpec.ofChange packetHopsSpec)

/-- ITS FALSE NEIGHBOUR: 'it returns false'. Refute it at one input. -/
def packetHopsWrong : ChangeSpec := { name := "packetHops", fn := fun _ => fun
  | [d1, d2] => { results := [.lit (.bool false)], args := [d1, d2] }
  | _ => none }
def PacketHopsWrongFalsely : Prop := packetHopsRow.holds Tryd.pinned (OpenSpec.ofChange packetHopsWrong)

/-- 'nsglaw24.PacketRewrites': WHATEVER THE INPUT: true; the input reads as it did. -/
def packetRewritesSpec : ChangeSpec := { name := "packetRewrites", fn := fun _ => fun
  | [d1, d2, d3] => { results := [.lit (.bool true)], args := [d1, d2, d3] }
  | _ => none }
def packetRewritesRow : OpenClaim := { program := "ytjfiipbjphabeaadoor", sum := "3d77ef4a7e230cf0cae904727b2f4ce5ab2fd381e78293bccdf93383b9bbc52a", func := "netsegment/nsglaw24.PacketRewrites", spec := "packetRewrites", unfollowed := true, recurses := true, named := ["netsegment/box.tops"], apart := false, laid := [("netsegment/box.tops", laid_netsegment_box_tops)] }
def PacketRewritesSaid : Prop := packetRewritesRow.holds Tryd.pinned (OpenSpec.ofChange packetRewritesSpec)

/-- ITS FALSE NEIGHBOUR: 'it returns false'. Refute it at one input. -/
def packetRewritesWrong : ChangeSpec := { name := "packetRewrites", fn := fun _ => fun
  | [d1, d2, d3] => { results := [.lit (.bool false)], args := [d1, d2, d3] }
  | _ => none }
def PacketRewritesWrongFalsely : Prop := packetRewritesRow.holds Tryd.pinned (OpenSpec.ofChange packetRewritesWrong)

/-- 'nsglaw24.PacketRewritesHeaderOnly': WHATEVER THE INPUT: true; the input reads as it did. -/
def packetRewritesHeaderOnlySpec : ChangeSpec := { name := "packetRewritesHeaderOnly", fn := fun _ => fun
  | [d] => { results := [.lit (.bool true)], args := [d] }
  | _ => none }
def packetRewritesHeaderOnlyRow : OpenClaim := { program := "ytjfiipbjphabeaadoor", sum := "3d77ef4a7e230cf0cae904727b2f4ce5ab2fd381e78293bccdf93383b9bbc52a", func := "netsegment/nsglaw24.PacketRewritesHeaderOnly", spec := "packetRewritesHeaderOnly", unfollowed := true, recurses := true, named := ["netsegment/box.tops"], apart := false, laid := [("netsegment/box.tops", laid_netsegment_box_tops)] }
def PacketRewritesHeaderOnlySaid : Prop := packetRewritesHeaderOnlyRow.holds Tryd.pinned (OpenSpec.ofChange packetRewritesHeaderOnlySpec)

/-- ITS FALSE NEIGHBOUR: 'it returns false'. Refute it at one input. -/
def packetRewritesHeaderOnlyWrong : ChangeSpec := { name := "packetRewritesHeaderOnly", fn := fun _ => fun
  | [d] => { results := [.lit (.bool false)], args := [d] }
  | _ => none }
def PacketRewritesHeaderOnlyWrongFalsely : Prop := packetRewritesHeaderOnlyRow.holds Tryd.pinned (OpenSpec.ofChange packetRewritesHeaderOnlyWrong)

/- THE SECOND FORM. 'bulk': how many values and letters a reading holds, each counted each time it is reached (what is shared counts as often as it is met; a slice's spare places count too). A statement '..UptoSaid' is the law's where the arguments, and the package variables that the reading takes, are together of bulk at most 1048576: NARROWER than '..Said'. Prove '..Said' where nothing that the law and all that it calls make is longer than what came in: it says more and counts as full. Else prove '..UptoSaid'. A law counts once. -/
mutual
def uptoBulk {H : Type} : DataW H → Nat
  | .lit (.string bytes) => bytes.length + 1
  | .lit _ => 1
  | .nil => 1
  | .ptr d => uptoBulk d + 1
  | .slice elems spare => uptoBulkAll elems + uptoBulkAll spare + 1
  | .agg parts => uptoBulkAll parts + 1
  | .iface _ d => uptoBulk d + 1
  | .map entries => uptoBulkEntries entries + 1
  | .held _ => 1
def uptoBulkAll {H : Type} : List (DataW H) → Nat
  | [] => 0
  | d :: r => uptoBulk d + uptoBulkAll r
def uptoBulkEntries {H : Type} : List (Lit × DataW H) → Nat
  | [] => 0
  | x :: r => uptoBulkEntry x + uptoBulkEntries r
def uptoBulkEntry {H : Type} : Lit × DataW H → Nat
  | (.string bytes, d) => bytes.length + uptoBulk d + 1
  | (_, d) => uptoBulk d + 1
 end
def uptoSmall : (H : Type) → List (DataW H) → Bool := fun _ ds => decide (uptoBulkAll ds ≤ 1048576)
def OpenSpec.upto (s : _root_.Go.ChangeSpec) : _root_.Go.OpenSpec := { _root_.Go.OpenSpec.ofChange s with cond := some uptoSmall }

/-- 'nsglaw24.PacketChecksum', WHERE WHAT IT READS IS OF BULK AT MOST 1048576: true; the input reads as it did. -/
def packetChecksumUptoRow : OpenClaim := { program := "ytjfiipbjphabeaadoor", sum := "3d77ef4a7e230cf0cae904727b2f4ce5ab2fd381e78293bccdf93383b9bbc52a", func := "netsegment/nsglaw24.PacketChecksum", spec := "packetChecksum", unfollowed := true, recurses := true, named := ["netsegment/box.tops"], apart := false, laid := [("netsegment/box.tops", laid_netsegment_box_tops)], narrowed := true }
def PacketChecksumUptoSaid : Prop := packetChecksumUptoRow.holds Tryd.pinned (OpenSpec.upto packetChecksumSpec)

/-- 'nsglaw24.PacketChecksumVerifies', WHERE WHAT IT READS IS OF BULK AT MOST 1048576: true; the input reads as it did. -/
def packetChecksumVerifiesUptoRow : OpenClaim := { program := "ytjfiipbjphabeaadoor", sum := "3d77ef4a7e230cf0cae904727b2f4ce5ab2fd381e78293bccdf93383b9bbc52a", func := "netsegment/nsglaw24.PacketChecksumVerifies", spec := "packetChecksumVerifies", unfollowed := true, recurses := true, named := ["netsegment/box.tops"], apart := false, laid := [("netsegment/box.tops", laid_netsegment_box_tops)], narrowed := true }
def PacketChecksumVerifiesUptoSaid : Prop := packetChecksumVerifiesUptoRow.holds Tryd.pinned (OpenSpec.upto packetChecksumVerifiesSpec)

/-- 'nsglaw24.PacketReads', WHERE WHAT IT READS IS OF BULK AT MOST 1048576: true; the input reads as it did. -/
def packetReadsUptoRow : OpenClaim := { program := "ytjfiipbjphabeaadoor", sum := "3d77ef4a7e230cf0cae904727b2f4ce5ab2fd381e78293bccdf93383b9bbc52a", func := "netsegment/nsglaw24.PacketReads", spec := "packetReads", unfollowed := true, recurses := true, named := ["netsegment/box.tops"], apart := false, laid := [("netsegment/box.tops", laid_netsegment_box_tops)], narrowed := true }
def PacketReadsUptoSaid : Prop := packetReadsUptoRow.holds Tryd.pinned (OpenSpec.upto packetReadsSpec)

/-- 'nsglaw24.PacketWrites', WHERE WHAT IT READS IS OF BULK AT MOST 1048576: true; the input reads as it did. -/
def packetWritesUptoRow : OpenClaim := { program := "ytjfiipbjphabeaadoor", sum := "3d77ef4a7e230cf0cae904727b2f4ce5ab2fd381e78293bccdf93383b9bbc52a", func := "netsegment/nsglaw24.PacketWrites", spec := "packetWrites", unfollowed := true, recurses := true, named := ["netsegment/box.tops"], apart := false, laid := [("netsegment/box.tops", laid_netsegment_box_tops)], narrowed := true }
def PacketWritesUptoSaid : Prop := packetWritesUptoRow.holds Tryd.pinned (OpenSpec.upto packetWritesSpec)

/-- 'nsglaw24.PacketComesBack', WHERE WHAT IT READS IS OF BULK AT MOST 1048576: true; the input reads as it did. -/
def packetComesBackUptoRow : OpenClaim := { program := "ytjfiipbjphabeaadoor", sum := "3d77ef4a7e230cf0cae904727b2f4ce5ab2fd381e78293bccdf93383b9bbc52a", func := "netsegment/nsglaw24.PacketComesBack", spec := "packetComesBack", unfollowed := true, recurses := true, named := ["netsegment/box.tops"], apart := false, laid := [("netsegment/box.tops", laid_netsegment_box_tops)], narrowed := true }
def PacketComesBackUptoSaid : Prop := packetComesBackUptoRow.holds Tryd.pinned (OpenSpec.upto packetComesBackSpec)

/-- 'nsglaw24.PacketNotices', WHERE WHAT IT READS IS OF BULK AT MOST 1048576: true; the input reads as it did. -/
def packetNoticesUptoRow : OpenClaim := { program := "ytjfiipbjphabeaadoor", sum := "3d77ef4a7e230cf0cae904727b2f4ce5ab2fd381e78293bccdf93383b9bbc52a", func := "netsegment/nsglaw24.PacketNotices", spec := "packetNotices", unfollowed := true, recurses := true, named := ["netsegment/box.tops"], apart := false, laid := [("netsegment/box.tops", laid_netsegment_box_tops)], narrowed := true }
def PacketNoticesUptoSaid : Prop := packetNoticesUptoRow.holds Tryd.pinned (OpenSpec.upto packetNoticesSpec)

/-- 'nsglaw24.PacketProbes', WHERE WHAT IT READS IS OF BULK AT MOST 1048576: true; the input reads as it did. -/
def packetProbesUptoRow : OpenClaim := { program := "ytjfiipbjphabeaadoor", sum := "3d77ef4a7e230cf0cae904727b2f4ce5ab2fd381e78293bccdf93383b9bbc52a", func := "netsegment/nsglaw24.PacketProbes", spec := "packetProbes", unfollowed := true, recurses := true, named := ["netsegment/box.tops"], apart := false, laid := [("netsegment/box.tops", laid_netsegment_box_tops)], narrowed := true }
def PacketProbesUptoSaid : Prop := packetProbesUptoRow.holds Tryd.pinned (OpenSpec.upto packetProbesSpec)

/-- 'nsglaw24.PacketAnswers', WHERE WHAT IT READS IS OF BULK AT MOST 1048576: true; the input reads as it did. -/
def packetAnswersUptoRow : OpenClaim := { program := "ytjfiipbjphabeaadoor", sum := "3d77ef4a7e230cf0cae904727b2f4ce5ab2fd381e78293bccdf93383b9bbc52a", func := "netsegment/nsglaw24.PacketAnswers", spec := "packetAnswers", unfollowed := true, recurses := true, named := ["netsegment/box.tops"], apart := false, laid := [("netsegment/box.tops", laid_netsegment_box_tops)], narrowed := true }
def PacketAnswersUptoSaid : Prop := packetAnswersUptoRow.holds Tryd.pinned (OpenSpec.upto packetAnswersSpec)

/-- 'nsglaw24.PacketHops', WHERE WHAT IT READS IS OF BULK AT MOST 1048576: true; the input reads as it did. -/
def packetHopsUptoRow : OpenClaim := { program := "ytjfiipbjphabeaadoor", sum := "3d77ef4a7e230cf0cae904727b2f4ce5ab2fd381e78293bccdf93383b9bbc52a", func := "netsegment/nsglaw24.PacketHops", spec := "packetHops", unfollowed := true, recurses := true, named := ["netsegment/box.tops"], apart := false, laid := [("netsegment/box.tops", laid_netsegment_box_tops)], narrowed := true }
def PacketHopsUptoSaid : Prop := packetHopsUptoRow.holds Tryd.pinned (OpenSpec.upto packetHopsSpec)

/-- 'nsglaw24.PacketRewrites', WHERE WHAT IT READS IS OF BULK AT MOST 1048576: true; the input reads as it did. -/
def packetRewritesUptoRow : OpenClaim := { program := "ytjfiipbjphabeaadoor", sum := "3d77ef4a7e230cf0cae904727b2f4ce5ab2fd381e78293bccdf93383b9bbc52a", func := "netsegment/nsglaw24.PacketRewrites", spec := "packetRewrites", unfollowed := true, recurses := true, named := ["netsegment/box.tops"], apart := false, laid := [("netsegment/box.tops", laid_netsegment_box_tops)], narrowed := true }
def PacketRewritesUptoSaid : Prop := packetRewritesUptoRow.holds Tryd.pinned (OpenSpec.upto packetRewritesSpec)

/-- 'nsglaw24.PacketRewritesHeaderOnly', WHERE WHAT IT READS IS OF BULK AT MOST 1048576: true; the input reads as it did. -/
def packetRewritesHeaderOnlyUptoRow : OpenClaim := { program := "ytjfiipbjphabeaadoor", sum := "3d77ef4a7e230cf0cae904727b2f4ce5ab2fd381e78293bccdf93383b9bbc52a", func := "netsegment/nsglaw24.PacketRewritesHeaderOnly", spec := "packetRewritesHeaderOnly", unfollowed := true, recurses := true, named := ["netsegment/box.tops"], apart := false, laid := [("netsegment/box.tops", laid_netsegment_box_tops)], narrowed := true }
def PacketRewritesHeaderOnlyUptoSaid : Prop := packetRewritesHeaderOnlyUptoRow.holds Tryd.pinned (OpenSpec.upto packetRewritesHeaderOnlySpec)

end Rows
end Go.Proofs.YtjfiipbjphabeaaDoor
