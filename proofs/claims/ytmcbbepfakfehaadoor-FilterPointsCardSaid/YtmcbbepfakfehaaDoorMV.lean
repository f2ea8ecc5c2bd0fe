/- Contracts of the reference of layer 3 (fourth part): Same. -/
import Derived.Test.YtmcbbepfakfehaaDoorMB
import Derived.Test.YtmcbbepfakfehaaDoorMS
namespace Go.Proofs.YtmcbbepfakfehaaDoor
open Go.RowKit
set_option maxRecDepth 100000

end Go.Proofs.YtmcbbepfakfehaaDoor

/- Packet sets as values: operations on canonical lists answer alike where their members are alike; the intersection of two sets of at most two boxes each has at most 3125 boxes. No program in sight. -/
namespace Go.Proofs.YtmcbbepfakfehaaDoor
set_option maxRecDepth 100000
/-- packet sets -/
def IsSet (l : List Bx) : Prop := vL l ∧ l.length ≤ 4096 ∧ Cn 0 5 l
theorem IsSet.setF {l : List Bx} (h : IsSet l) : setF l = some l := by
  unfold Go.Proofs.YtmcbbepfakfehaaDoor.setF validF
  rw [if_pos]
  rw [valF_id h.1, (dvd_zero h.1).2 h.2.2]
  simp [h.2.1]
theorem IsSet.ext {a b : List Bx} (ha : IsSet a) (hb : IsSet b) (h : ∀ p, okP p → inq a p = inq b p) : a = b := Cn.extq ha.2.2 hb.2.2 h
theorem IsSet.full : IsSet [fullBx] := by
  have hv : vL [fullBx] := by
    have h := valF_vL okL_full
    rwa [show valF [fullBx] = [fullBx] by decide +kernel] at h
  exact ⟨hv, by decide, (dvd_zero hv).1 (by decide +kernel)⟩
end Go.Proofs.YtmcbbepfakfehaaDoor

/- nsgref4.Same; sets of boxes are good. -/
namespace Go.Proofs.YtmcbbepfakfehaaDoor
open Go.RowKit
set_option maxRecDepth 100000
theorem vL.okL {l : List Bx} (h : vL l) : okL l := fun b hb k hk => by
  have h1 := h b hb k hk
  have h2 := topOf_le k
  omega
theorem IsSet.ok {l : List Bx} (h : IsSet l) : okL l := h.1.okL
theorem IsSet.le {l : List Bx} (h : IsSet l) : l.length ≤ 1000000000000 := Nat.le_trans h.2.1 (by omega)
end Go.Proofs.YtmcbbepfakfehaaDoor
