/- The reference of findings: Analyze. -/
import Derived.Test.YtjoionnnpjajmaaDoorPD
import Derived.Test.YtjoionnnpjajmaaDoorPC
namespace Go.Proofs.YtjoionnnpjajmaaDoor
open Go.RowKit
set_option maxRecDepth 100000
def blC (l : List Bool) : List Value := l.map Value.bool
theorem slice_Bools : SliceT Tryd.prog 48 4 1 1 := ⟨Tryd.underlying48, by omega, by
 obtain ⟨i, h1, h2, h3, h4⟩ := info_parts (show (Tryd.prog.info? 4).map (fun i => (i.zero, i.size, i.bytes)) = some (some (.bool false), 1, 1) by kernel_rfl)
 exact ⟨i, _, h1, h2, h3, h4, rfl⟩⟩
theorem Own.rowRoX {M : List Nat} {w0 w : World} {X : List Chunk} {R : List Row} {S : List Ro} {v : Value} {k size : Nat} {xs : List Value} {e : TypeId} (hO : Own M w0 X (⟨v, k, xs, e, size⟩ :: R) S w) : Own M w0 X R (roS v xs ++ S) w := by
 have h1 := hO.sub (X' := X) (R' := R) (S' := S) (.refl _) (.cons _ (.refl _)) (fun _ h => h)
 have hr := hO.rowIs (v := v) (k := k) (xs := xs) List.mem_cons_self
 rcases hr with ⟨rfl, rfl, rfl⟩ | ⟨g, o, c, rfl, _, hr⟩
 ·exact h1
 ·refine h1.addRo ⟨g, o, xs⟩ hr fun _ hm => ?_
  have hnd := nodup_blocks (A := []) (B := R) (r := ⟨.slice (some ⟨g, o, none⟩) k c, k, xs, e, size⟩) |>.1 hO.nd
  exact (hnd.2 g rfl) (by simpa [excl] using hm)
theorem rmP_at {t : List Rul} {k : Nat} (hV : validT t = true) (hk : k < t.length) : rmP t (k : Int) = (stB (stF t k), stE (stF t k)) := by
 unfold rmP
 rw [if_pos hV, if_neg (by omega), Int.toNat_natCast]
end Go.Proofs.YtjoionnnpjajmaaDoor
