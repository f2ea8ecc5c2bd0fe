/- PacketsetCanonical's plain law: sets with equal members are equal; a list is within another one exactly if nothing remains. No program in sight. -/
import Derived.Test.YtjoionnnpjajmaaDoorMV
namespace Go.Proofs.YtjoionnnpjajmaaDoor
open Go.RowKit
theorem sub_iff {a b : List Bx} (ka : vL a) (kb : vL b) : (canonF exB 0 5 a b).isEmpty = true ↔ ∀ h, okP h → inq a h = true → inq b h = true := by
 have hv := (canonF_cn exB 5 0 rfl ka kb).valid rfl
 constructor
 ·intro h0 h hok h1
  have h2 := inq_canon (op := exB) hok ka kb
  rw [List.isEmpty_iff.1 h0, inq_nil, h1] at h2
  cases hb : inq b h
  ·rw [hb] at h2; cases h2
  ·rfl
 ·intro H
  cases hD : canonF exB 0 5 a b with
  | nil => rfl
  | cons x xs =>
   exfalso
   rw [hD] at hv
   have hx := hv x (by simp)
   have hok : okP fun k => (x.at k).lo := fun k hk => by have := hx k hk; dsimp only; omega
   have h2 := inq_canon (op := exB) hok ka kb
   rw [hD, inq_iff.2 (inL_lows hx)] at h2
   cases h1 : inq a fun k => (x.at k).lo
   ·rw [h1] at h2; cases h2
   ·rw [h1, H _ hok h1] at h2; cases h2
theorem make_set {l x : List Bx} (kl : okL l) (h : makeF l = some x) : IsSet x ∧ ∀ p, okP p → inq x p = inq (valF l) p := by
 obtain ⟨h1, h2, h3⟩ := makeGo_spec (cn_nil 0 5) (by simp) (valF_vL kl) h
 exact ⟨⟨h1.valid rfl, h2, h1⟩, fun p hp => by rw [h3 p hp, inq_nil, Bool.false_or]⟩
theorem IsSet.make {x : List Bx} (h : IsSet x) : makeF x = some x := by
 unfold makeF
 rw [valF_id h.1]
 exact makeGo_canon h.2.2 h.2.1
theorem IsSet.val {x : List Bx} (h : IsSet x) : validF x = true := by
 unfold validF
 rw [valF_id h.1, (dvd_zero h.1).2 h.2.2]
 simp [h.2.1]
end Go.Proofs.YtjoionnnpjajmaaDoor
