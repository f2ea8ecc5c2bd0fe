/- PacketsetCanonical's plain law: sets with equal members are equal; a list is within another one exactly if nothing remains. No program in sight. -/
import Derived.Test.YtjoionnnpjajmaaGreatDoorMV
namespace Go.Proofs.YtjoionnnpjajmaaGreatDoor
open Go.RowKit
theorem make_set {l x : List Bx} (kl : okL l) (h : makeF l = some x) : IsSet x ∧ ∀ p, okP p → inq x p = inq (valF l) p := by
 obtain ⟨h1, h2, h3⟩ := makeGo_spec (cn_nil 0 5) (by simp) (valF_vL kl) h
 exact ⟨⟨h1.valid rfl, h2, h1⟩, fun p hp => by rw [h3 p hp, inq_nil, Bool.false_or]⟩
theorem IsSet.make {x : List Bx} (h : IsSet x) : makeF x = some x := by
 unfold makeF
 rw [valF_id h.1]
 exact makeGo_canon h.2.2 h.2.1
theorem IsSet.val {x : List Bx} (h : IsSet x) : validF x = true := by
 unfold validF
 rw [valF_id h.1, (dvd_zero h.1).2 h.2.2]
 simp [h.2.1]
end Go.Proofs.YtjoionnnpjajmaaGreatDoor
