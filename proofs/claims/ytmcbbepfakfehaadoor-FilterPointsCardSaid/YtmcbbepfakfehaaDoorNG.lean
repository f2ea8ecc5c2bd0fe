/- Differ, of the program and of the reference; the reference's lows, First, Order. -/
import Derived.Test.YtmcbbepfakfehaaDoorMW
import Derived.Test.YtmcbbepfakfehaaDoorMX
import Derived.Test.YtmcbbepfakfehaaDoorNC
import Derived.Test.YtmcbbepfakfehaaDoorMV
import Derived.Test.YtmcbbepfakfehaaDoorMS
import Derived.Test.YtmcbbepfakfehaaDoorMB
namespace Go.Proofs.YtmcbbepfakfehaaDoor
open Go.RowKit
set_option maxRecDepth 100000
theorem psDiffer_any {va vb : Value} {la lb : List Bx} (w : World) (ht : Tops w) (hva : IsBoxes w va la) (hvb : IsBoxes w vb lb) (ka : okL la) (kb : okL lb) (na : la.length ≤ 1000000000000) (nb : lb.length ≤ 1000000000000) :
    Calls Tryd.prog 50 #[va, vb] w fun e w' => e = .returned (.tuple #[hv (firstH (canonF xorB 0 5 (valF la) (valF lb))), .bool (!(canonF xorB 0 5 (valF la) (valF lb)).isEmpty)]) ∧ Below w.heap.size w w' := by
  have hO := own_start [] w
  have h1 := fun w ht hva hvb => first_any op_different (va := va) (vb := vb) (la := la) (lb := lb) w ht hva hvb ka kb na nb
  generalize firstH (canonF xorB 0 5 (valF la) (valF lb)) = fh at *
  generalize (!(canonF xorB 0 5 (valF la) (valF lb)).isEmpty) = b at *
  go_enter Tryd.func50, Tryd.ntmps50
  go_wp2_with (first | ((with_reducible refine is_load ?_); refine own_ld (h := ?_)) | ((with_reducible refine is_store ?_); (first | refine own_stR (hO := hO) (h := ?_) | refine own_st1 (hO := hO) (h := ?_)); clear hO; intro wv hO) | ((with_reducible refine is_alloc ?_); (first | (refine own_al (o := ⟨some 4, _, _, _, _, _⟩) (hO := hO) (h := ?_); clear hO; intro n4 wv hO))) | (go_at_call 67; refine (h1 _ (hO.tops ht (by simp)) (hva.keep0 hO) (hvb.keep0 hO)).mono ?_; rintro e wv ⟨rfl, hb⟩; replace hO := hO.call hb; clear hb))
  exact bodyPost_ret (own_res_cell_tmp hO Tryd.results50 rfl (by (repeat (first | exact List.mem_cons_self | refine List.mem_cons_of_mem _ ?_))) (by (exact row_len (by (with_reducible (first | exact row_Box | exact row_Range | exact row_Header | exact row_Five | exact row_Tape | exact row_Prefix | exact row_Truths | exact row_Packet | exact row_Group))) (by rfl))) rfl rfl) rfl ⟨rfl, hO.keep.below⟩
end Go.Proofs.YtmcbbepfakfehaaDoor

/- The reference's Differ and Order; what they say. -/
namespace Go.Proofs.YtmcbbepfakfehaaDoor
open Go.RowKit
set_option maxRecDepth 100000
/-! ### plain -/
theorem xor_none {a b : List Bx} (ka : vL a) (kb : vL b) : (canonF xorB 0 5 a b).isEmpty = ((canonF exB 0 5 a b).isEmpty && (canonF exB 0 5 b a).isEmpty) := by
  have hv := (canonF_cn xorB 5 0 rfl ka kb).valid rfl
  rw [Bool.eq_iff_iff, Bool.and_eq_true, sub_iff ka kb, sub_iff kb ka]
  constructor
  · intro h0
    have key : ∀ h, okP h → inq a h = inq b h := fun h hok => by
      have h2 := inq_canon (op := xorB) hok ka kb
      rw [List.isEmpty_iff.1 h0, inq_nil] at h2
      unfold xorB at h2
      revert h2; cases inq a h <;> cases inq b h <;> decide
    exact ⟨fun h hok h1 => by rw [← key h hok]; exact h1, fun h hok h1 => by rw [key h hok]; exact h1⟩
  · rintro ⟨h1, h2⟩
    cases hD : canonF xorB 0 5 a b with
    | nil => rfl
    | cons x xs =>
      exfalso
      rw [hD] at hv
      have hx := hv x (by simp)
      have hok : okP fun k => (x.at k).lo := fun k hk => by have := hx k hk; dsimp only; omega
      have h3 := inq_canon (op := xorB) hok ka kb
      rw [hD, inq_iff.2 (inL_lows hx)] at h3
      have h4 := h1 _ hok
      have h5 := h2 _ hok
      unfold xorB at h3
      revert h3 h4 h5
      cases inq a fun k => (x.at k).lo <;> cases inq b fun k => (x.at k).lo <;> simp
end Go.Proofs.YtmcbbepfakfehaaDoor
