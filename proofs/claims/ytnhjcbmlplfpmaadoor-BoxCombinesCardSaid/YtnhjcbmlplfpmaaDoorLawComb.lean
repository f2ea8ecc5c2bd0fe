/- BoxCombines: the walk of 'combines'. -/
import Derived.Test.YtnhjcbmlplfpmaaDoorLawT
import Derived.Test.YtnhjcbmlplfpmaaDoorSubLaw
import Derived.Test.YtnhjcbmlplfpmaaDoorLawMem
import Derived.Test.YtnhjcbmlplfpmaaDoorOrders
import Derived.Test.YtnhjcbmlplfpmaaDoorRefBoxC
import Derived.Test.YtnhjcbmlplfpmaaDoorRefBoxS
import Derived.Test.YtnhjcbmlplfpmaaDoorAppS
namespace Go.Proofs.YtnhjcbmlplfpmaaDoor
open Go.RowKit
set_option maxRecDepth 100000

set_option maxHeartbeats 8000000 in
theorem combines_any (a b : Bx) (w : World) (ht : Tops w) (ka : a.ok) (kb : b.ok) :
    Calls Tryd.prog 31 #[bv a, bv b] w fun e w' => e = .returned (.bool true) ∧ Below w.heap.size w w' := by
  have hO := own_start [] w
  have hI := intersect_any a b w ht
  have e1 : decide ((interB a b).1 = (interB a b).1) = true := by simp
  have e2 : ((interB a b).2 == (interB a b).2) = true := by simp
  have e3 : (subB a b == subB a b) = true := by simp
  have e4 : (cmpB a b == cmpB a b) = true := by simp
  have hle := subtrB_le a b
  go_enter Tryd.func31, Tryd.ntmps31
  go_wp2_with (first | ((with_reducible refine is_load ?_); (first | (refine own_ld (h := ?_)))) | ((with_reducible refine is_store ?_); (first | (refine own_stR (hO := hO) (h := ?_); clear hO; intro wv hO) | (refine own_st1 (hO := hO) (h := ?_); clear hO; intro wv hO))) | ((with_reducible refine is_box ?_); (first | (refine own_bx (o := ⟨some 2, _, _, _, _, _⟩) (hO := hO) (h := ?_); clear hO; intro n2 wv hO) | (refine own_bx (o := ⟨some 3, _, _, _, _, _⟩) (hO := hO) (h := ?_); clear hO; intro n3 wv hO))) | ((with_reducible refine is_alloc ?_); (first | (refine own_al (o := ⟨some 5, _, _, _, _, _⟩) (hO := hO) (h := ?_); clear hO; intro n5 wv hO) | (refine own_al (o := ⟨some 7, _, _, _, _, _⟩) (hO := hO) (h := ?_); clear hO; intro n7 wv hO))) | (go_at_call 11; refine (intersect_any _ _ _ (hO.tops ht (by simp))).mono ?_; rintro e wv ⟨rfl, hb⟩; replace hO := hO.call hb; clear hb) | (go_at_call 30; refine (rintersect_any _ _ _).mono ?_; rintro e wv ⟨rfl, hb⟩; replace hO := hO.call hb; clear hb))
  (try simp only [Act.put]); (try simp only [List.setIfInBounds_toArray, List.set_cons_zero, List.set_cons_succ]); (refine own_loose 35 [(32, fun v _ => v = .bool (subB a b)), (35, fun v _ => v = .bool (subB a b)), (41, fun v w => IsOff [n7, n5, n3, n2] w v (subtrB a b)), (44, fun v w => IsOff [n7, n5, n3, n2] w v (subtrB a b)), (45, fun v _ => v = .bool true), (50, fun v _ => v = .int .i64 (cmpB a b)), (53, fun v _ => v = .int .i64 (cmpB a b))] hO (by kernel_rfl) (by kernel_rfl) (by rfl) (by repeat (first | exact Split.zero _ | apply Split.succ)) ?_ ?_); (focus (repeat (first | exact lasts_nil | (refine lasts_cons (fun v w w' _ _ hk h => ?_) ?_; focus (first | exact h | exact h.keep hk | (obtain ⟨h1, h2⟩ := h; exact ⟨h1, h2.keep hk⟩)))))); clear hO; (repeat (first | (refine loose_plain (by (intro _ hd; cases hd; rfl)) (by rfl) (fun _ h => h) ?_; (first | go_big_quiet_skip | (go_big_quiet_want; (first | ((with_reducible refine is_loadQ ?_); (first | (refine q_ld (h := ?_))); (try simp only [Act.put]); (try simp only [List.setIfInBounds_toArray, List.set_cons_zero, List.set_cons_succ]); go_big_quiet_on) | (go_big_quiet_op; (first | go_big_quiet_on | ((refine ⟨_, fun _ _ => rfl, ?_⟩); go_big_quiet_on)))))); refine wpQuiet_nil ?_; (try simp only [Act.put]); (try simp only [List.setIfInBounds_toArray, List.set_cons_zero, List.set_cons_succ])) | (refine loose_fact (by rfl) rfl (by rfl) ?_ ?_ (Nat.le_of_ble_eq_true rfl); (focus (intro w1 hO hF; (first | (go_simp; (first | (go_at_call 14; refine (subset_any _ _ _ (hO.tops ht (by simp))).mono ?_; rintro e w3 ⟨rfl, hb⟩; exact ⟨_, rfl, keep_of_below hb _, hO.call hb, rfl⟩) | (go_at_call 50; refine (rsubset_any _ _ _).mono ?_; rintro e w3 ⟨rfl, hb⟩; exact ⟨_, rfl, keep_of_below hb _, hO.call hb, rfl⟩) | (go_at_call 12; refine (subtract_any _ _ _ (hO.tops ht (by simp)) ka kb).mono ?_; rintro e w3 ⟨v, rfl, ⟨hv, hn⟩, hb⟩; exact ⟨v, rfl, keep_of_below hb _, hO.call hb, hv, off_of_new hO hn⟩) | (go_at_call 52; refine (rsubtract_any _ _ _ ka kb).mono ?_; rintro e w3 ⟨v, rfl, ⟨hv, hn⟩, hb⟩; exact ⟨v, rfl, keep_of_below hb _, hO.call hb, hv, off_of_new hO hn⟩) | (have g1 := hF 41 (by simp [insF]) List.mem_cons_self _ rfl; have g2 := hF 44 (by simp [insF]) (List.mem_cons_of_mem _ List.mem_cons_self) _ rfl; go_at_call 51; refine (rsame_any _ _ _ _ _ g1.1 g2.1 (by omega) (by omega)).mono ?_; rintro e w3 ⟨rfl, hb⟩; exact ⟨_, rfl, keep_of_below hb _, hO.call hb, by simp⟩) | (go_at_call 29; refine (compare_any _ _ _).mono ?_; rintro e w3 ⟨rfl, hb⟩; exact ⟨_, rfl, keep_of_below hb _, hO.call hb, rfl⟩) | (go_at_call 53; refine (rcompare_any _ _ _).mono ?_; rintro e w3 ⟨rfl, hb⟩; exact ⟨_, rfl, keep_of_below hb _, hO.call hb, rfl⟩)))))); (intro u w1 hO hu; (try subst hu); (try simp only [Act.put]); (try simp only [List.setIfInBounds_toArray, List.set_cons_zero, List.set_cons_succ]))) | (refine loose_skip (by rfl) ?_; (try simp only [Act.put]); (try simp only [List.setIfInBounds_toArray, List.set_cons_zero, List.set_cons_succ])))); (refine wpLoose_nil ?_); intro wv hI; have hO := hI.1; (try refine wpList_done ?_)
  go_wp2_with (first | ((with_reducible refine is_load ?_); (first | (refine own_ld (h := ?_)))) | ((with_reducible refine is_store ?_); (first | (refine own_stR (hO := hO) (h := ?_); clear hO; intro wv hO) | (refine own_st1 (hO := hO) (h := ?_); clear hO; intro wv hO))))
  go_ret
  exact ⟨rfl, hO.keep.below⟩
end Go.Proofs.YtnhjcbmlplfpmaaDoor
