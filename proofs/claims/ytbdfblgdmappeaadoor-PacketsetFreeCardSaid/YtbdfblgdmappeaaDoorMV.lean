/- Contracts of the reference of layer 3 (fourth part): Same. -/
import Derived.Test.YtbdfblgdmappeaaDoorMB
import Derived.Test.YtbdfblgdmappeaaDoorMS
import Derived.Test.YtbdfblgdmappeaaDoorMN
import Derived.Test.YtbdfblgdmappeaaDoorMO
import Derived.Test.YtbdfblgdmappeaaDoorME
import Derived.Test.YtbdfblgdmappeaaDoorMP
namespace Go.Proofs.YtbdfblgdmappeaaDoor
open Go.RowKit
set_option maxRecDepth 100000
end Go.Proofs.YtbdfblgdmappeaaDoor
namespace Go.Proofs.YtbdfblgdmappeaaDoor
set_option maxRecDepth 100000
def IsSet (l : List Bx) : Prop := vL l ∧ l.length ≤ 4096 ∧ Cn 0 5 l
theorem IsSet.setF {l : List Bx} (h : IsSet l) : setF l = some l := by
 unfold Go.Proofs.YtbdfblgdmappeaaDoor.setF validF
 rw [if_pos]
 rw [valF_id h.1, (dvd_zero h.1).2 h.2.2]
 simp [h.2.1]
theorem IsSet.ext {a b : List Bx} (ha : IsSet a) (hb : IsSet b) (h : ∀ p, okP p → inq a p = inq b p) : a = b := Cn.extq ha.2.2 hb.2.2 h
theorem IsSet.full : IsSet [fullBx] := by
 have hv : vL [fullBx] := by
  have h := valF_vL okL_full
  rwa [show valF [fullBx] = [fullBx] by decide +kernel] at h
 exact ⟨hv, by decide, (dvd_zero hv).1 (by decide +kernel)⟩
end Go.Proofs.YtbdfblgdmappeaaDoor
namespace Go.Proofs.YtbdfblgdmappeaaDoor
open Go.RowKit
set_option maxRecDepth 100000
theorem vL.okL {l : List Bx} (h : vL l) : okL l := fun b hb k hk => by
 have h1 := h b hb k hk
 have h2 := topOf_le k
 omega
theorem IsSet.ok {l : List Bx} (h : IsSet l) : okL l := h.1.okL
theorem IsSet.le {l : List Bx} (h : IsSet l) : l.length ≤ 1000000000000 := Nat.le_trans h.2.1 (by omega)
def BoxesQ (q : Nat) (w : World) (v : Value) (l : List Bx) : Prop := FormB v l ∧ ∀ s ∈ roS v (cellsB l), w.rangeAt s.g s.o s.xs ∧ (s.xs ≠ [] → s.g ≠ q)
theorem BoxesQ.is {q : Nat} {w : World} {v : Value} {l : List Bx} (h : BoxesQ q w v l) : IsBoxes w v l := by
 rcases h.1 with h1 | ⟨g, o, c, rfl, hc⟩
 ·exact .inl h1
 ·exact .inr ⟨g, o, c, rfl, hc, (h.2 ⟨g, o, cellsB l⟩ (by simp [roS])).1⟩
end Go.Proofs.YtbdfblgdmappeaaDoor
namespace Go.Proofs.YtbdfblgdmappeaaDoor
open Go.ChangeShapes Go.WideShapes Go.ChangeAt Go.RowKit
set_option maxRecDepth 100000
section
variable {H : Type} {enc : TypeId × Value → H} {w : World} {base : Nat} {spare : Nat → Bool} {held : Bool}
end
end Go.Proofs.YtbdfblgdmappeaaDoor
namespace Go.Proofs.YtbdfblgdmappeaaDoor
open Go.RowKit
theorem IsSet.make {x : List Bx} (h : IsSet x) : makeF x = some x := by
 unfold makeF
 rw [valF_id h.1]
 exact makeGo_canon h.2.2 h.2.1
theorem IsSet.val {x : List Bx} (h : IsSet x) : validF x = true := by
 unfold validF
 rw [valF_id h.1, (dvd_zero h.1).2 h.2.2]
 simp [h.2.1]
end Go.Proofs.YtbdfblgdmappeaaDoor
