/- Differ, of the program and of the reference; the reference's lows, First, Order. -/
import Derived.Test.YtjoionnnpjajmaaDoorMW
import Derived.Test.YtjoionnnpjajmaaDoorMX
import Derived.Test.YtjoionnnpjajmaaDoorNC
import Derived.Test.YtjoionnnpjajmaaDoorMV
import Derived.Test.YtjoionnnpjajmaaDoorMS
import Derived.Test.YtjoionnnpjajmaaDoorMB
namespace Go.Proofs.YtjoionnnpjajmaaDoor
open Go.RowKit
set_option maxRecDepth 100000
theorem psDiffer_any {va vb : Value} {la lb : List Bx} (w : World) (ht : Tops w) (hva : IsBoxes w va la) (hvb : IsBoxes w vb lb) (ka : okL la) (kb : okL lb) (na : la.length ≤ 1000000000000) (nb : lb.length ≤ 1000000000000) :
  Calls Tryd.prog 38 #[va, vb] w fun e w' => e = .returned (.tuple #[hv (firstH (canonF xorB 0 5 (valF la) (valF lb))), .bool (!(canonF xorB 0 5 (valF la) (valF lb)).isEmpty)]) ∧ Below w.heap.size w w' := by
 have hO := own_start [] w
 have h1 := fun w ht hva hvb => first_any op_different (va := va) (vb := vb) (la := la) (lb := lb) w ht hva hvb ka kb na nb
 generalize firstH (canonF xorB 0 5 (valF la) (valF lb)) = fh at *
 generalize (!(canonF xorB 0 5 (valF la) (valF lb)).isEmpty) = b at *
 go_enter Tryd.func38, Tryd.ntmps38
 go_wp2_with (first | refine ldN ?_ | ((first | refine stN hO ?_ | refine st1N hO ?_); clear hO; intro wv hO) | (refine al9 4 hO ?_; clear hO; intro n4 wv hO) | (go_at_call 59; refine (h1 _ (hO.tops ht (by simp)) (hva.keep0 hO) (hvb.keep0 hO)).mono ?_; rintro e wv ⟨rfl, hb⟩; replace hO := hO.call hb; clear hb))
 exact bodyPost_ret (own_res_cell_tmp hO Tryd.results38 rfl (by (repeat (first | exact List.mem_cons_self | refine List.mem_cons_of_mem _ ?_))) (by (exact row_len (by (with_reducible (first | exact row_Box | exact row_Range | exact row_Header | exact row_Five | exact row_Tape | exact row_Prefix | exact row_Truths | exact row_Packet | exact row_Group))) (by rfl))) rfl rfl) rfl ⟨rfl, hO.keep.below⟩
theorem canon_small10 {op : Bool → Bool → Bool} {N M : Nat} {a b : List Bx} (ha : Ends N a) (hb : Ends M b) (h : N + M ≤ 90) : (canonF op 0 5 a b).length ≤ 10000000000 :=
 Nat.le_trans (canon_len ha hb (f := 0) rfl) (Nat.le_trans (Nat.pow_le_pow_left (show N + M + 2 ≤ 92 by omega) 5) (by decide))
theorem xor_none {a b : List Bx} (ka : vL a) (kb : vL b) : (canonF xorB 0 5 a b).isEmpty = ((canonF exB 0 5 a b).isEmpty && (canonF exB 0 5 b a).isEmpty) := by
 have hv := (canonF_cn xorB 5 0 rfl ka kb).valid rfl
 rw [Bool.eq_iff_iff, Bool.and_eq_true, sub_iff ka kb, sub_iff kb ka]
 constructor
 ·intro h0
  have key : ∀ h, okP h → inq a h = inq b h := fun h hok => by
   have h2 := inq_canon (op := xorB) hok ka kb
   rw [List.isEmpty_iff.1 h0, inq_nil] at h2
   unfold xorB at h2
   revert h2; cases inq a h <;> cases inq b h <;> decide
  exact ⟨fun h hok h1 => by rw [← key h hok]; exact h1, fun h hok h1 => by rw [key h hok]; exact h1⟩
 ·rintro ⟨h1, h2⟩
  cases hD : canonF xorB 0 5 a b with
  | nil => rfl
  | cons x xs =>
   exfalso
   rw [hD] at hv
   have hx := hv x (by simp)
   have hok : okP fun k => (x.at k).lo := fun k hk => by have := hx k hk; dsimp only; omega
   have h3 := inq_canon (op := xorB) hok ka kb
   rw [hD, inq_iff.2 (inL_lows hx)] at h3
   have h4 := h1 _ hok
   have h5 := h2 _ hok
   unfold xorB at h3
   revert h3 h4 h5
   cases inq a fun k => (x.at k).lo <;> cases inq b fun k => (x.at k).lo <;> simp
theorem xor_same {a b : List Bx} (ka : vL a) (kb : vL b) (h0 : canonF xorB 0 5 a b = []) {h : Nat → Int} (hok : okP h) : inq a h = inq b h := by
 have h2 := inq_canon (op := xorB) hok ka kb
 rw [h0, inq_nil] at h2
 unfold xorB at h2
 revert h2; cases inq a h <;> cases inq b h <;> decide
theorem hd_at (p : Nat → Int) {k : Nat} (hk : k < 5) : (Hd.of p).at k = p k := by
 rcases five hk with rfl | rfl | rfl | rfl | rfl <;> rfl
theorem first_spec {a b : List Bx} (ka : vL a) (kb : vL b) (h0 : canonF xorB 0 5 a b ≠ []) :
  (firstH (canonF xorB 0 5 a b)).ok ∧ inq a (firstH (canonF xorB 0 5 a b)).at = !inq b (firstH (canonF xorB 0 5 a b)).at ∧
  ∀ g : Nat → Int, okP g → inq a g ≠ inq b g → lexLe 0 5 (firstH (canonF xorB 0 5 a b)).at g := by
 have hc := canonF_cn xorB 5 0 rfl ka kb
 have hv := hc.valid rfl
 cases hD : canonF xorB 0 5 a b with
 | nil => exact absurd hD h0
 | cons x xs =>
  rw [hD] at hv hc
  have hx := hv x (by simp)
  have hat : ∀ k, k < 5 → (firstH (x :: xs)).at k = (x.at k).lo := fun k hk => hd_at (fun k => (x.at k).lo) hk
  have hok : okP fun k => (x.at k).lo := fun k hk => by have := hx k hk; dsimp only; omega
  have hin : ∀ l : List Bx, inq l (firstH (x :: xs)).at = inq l fun k => (x.at k).lo := fun l => by
   rw [Bool.eq_iff_iff, inq_iff, inq_iff]
   exact inL_congr fun k _ hk => hat k hk
  refine ⟨?_, ?_, fun g hg hne => ?_⟩
  ·have h0 := hx 0 (by omega)
   have h1 := hx 1 (by omega)
   have h2 := hx 2 (by omega)
   have h3 := hx 3 (by omega)
   have h4 := hx 4 (by omega)
   simp only [topOf] at h0 h1 h2 h3 h4
   simp only [firstH, hdTo, Hd.ok]
   omega
  ·have h3 := inq_canon (op := xorB) hok ka kb
   rw [hD, inq_iff.2 (inL_lows hx)] at h3
   rw [hin, hin]
   unfold xorB at h3
   revert h3
   cases inq a fun k => (x.at k).lo <;> cases inq b fun k => (x.at k).lo <;> simp
  ·have h3 := inq_canon (op := xorB) hg ka kb
   have h4 : inq (x :: xs) g = true := by
    rw [← hD, h3]; unfold xorB
    revert hne; cases inq a g <;> cases inq b g <;> simp
   have := hc.least rfl g (inq_iff.1 h4)
   exact (lexLe_congr fun k _ hk => hat k (by omega)).2 this
theorem cmpI_pos {x y : Int} (h : y < x) : 0 < cmpI x y := by unfold cmpI; repeat' split <;> omega
theorem orI_pos {c d : Int} (h : 0 < c ∨ c = 0 ∧ 0 ≤ d) : 0 ≤ orI c d := by unfold orI; split <;> omega
theorem cmpR_pt {a b : Int} : cmpR ⟨a, a⟩ ⟨b, b⟩ = cmpI a b := by unfold cmpR orI; dsimp only; split <;> simp_all
theorem order_ge {g h : Hd} (hl : lexLe 0 5 h.at g.at) : 0 ≤ cmpB (ofHd g) (ofHd h) := by
 have e : ∀ x y : Int, x = y → cmpI x y = 0 := fun x y h => cmpI_zero.2 h
 have hc : cmpB (ofHd g) (ofHd h) = orI (cmpI (g.at 0) (h.at 0)) (orI (cmpI (g.at 1) (h.at 1)) (orI (cmpI (g.at 2) (h.at 2)) (orI (cmpI (g.at 3) (h.at 3)) (cmpI (g.at 4) (h.at 4))))) := by
  rw [← cmpR_pt, ← cmpR_pt, ← cmpR_pt, ← cmpR_pt, ← cmpR_pt]; rfl
 rw [hc]
 rcases hl with h0 | ⟨h0, hl⟩
 ·exact orI_pos (.inl (cmpI_pos h0))
 refine orI_pos (.inr ⟨e _ _ h0.symm, ?_⟩)
 rcases hl with h1 | ⟨h1, hl⟩
 ·exact orI_pos (.inl (cmpI_pos h1))
 refine orI_pos (.inr ⟨e _ _ h1.symm, ?_⟩)
 rcases hl with h2 | ⟨h2, hl⟩
 ·exact orI_pos (.inl (cmpI_pos h2))
 refine orI_pos (.inr ⟨e _ _ h2.symm, ?_⟩)
 rcases hl with h3 | ⟨h3, hl⟩
 ·exact orI_pos (.inl (cmpI_pos h3))
 refine orI_pos (.inr ⟨e _ _ h3.symm, ?_⟩)
 rcases hl with h4 | ⟨h4, _⟩
 ·exact Int.le_of_lt (cmpI_pos h4)
 ·rw [e _ _ h4.symm]; exact Int.le_refl 0
end Go.Proofs.YtjoionnnpjajmaaDoor
