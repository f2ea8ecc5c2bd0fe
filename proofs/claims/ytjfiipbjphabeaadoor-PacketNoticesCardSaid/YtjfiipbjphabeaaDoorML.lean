/- Checksums are set right again: the walk. -/
import Derived.Test.YtjfiipbjphabeaaDoorMK
namespace Go.Proofs.YtjfiipbjphabeaaDoor
open Go.RowKit
set_option maxRecDepth 100000

set_option maxHeartbeats 4000000 in
theorem mend_none {v : Value} {l : List Int} (nz : Bool) (w : World) (hv : OwnsB w 0 v l) (hb : BOk l) (hk : 20 ≤ l.length) (hl : l.length ≤ 65536) (hA : mendAt l = 0) :
    Calls Tryd.prog 24 #[v, .bool nz] w (WPost w v l (mendF l nz) v) := by
  have hF : mendF l nz = hdSum l := by unfold mendF; rw [if_pos hA]
  rw [hF]
  clear hF
  obtain ⟨g, c, rfl, hc⟩ := hv.pos (by omega)
  have hO := own_takeRow hv [] (by simp)
  clear hv
  have hn := p16_length l 10 0
  have hb2 := hb.p16 10 (x := 0) (by omega) (by omega)
  have HM := Lib.hid (show (l.set 10 0).set 11 0 = p16 l 10 0 from rfl)
  have hnH : (hdSum l).length = l.length := hdSum_length l
  have hbH : BOk (hdSum l) := hb.hdSum
  have h9 : gt (hdSum l) 9 = gt l 9 := gt_hd (by omega)
  have hE : p16 (p16 l 10 0) 10 (ck ((p16 l 10 0).take 20)) = hdSum l := rfl
  generalize p16 l 10 0 = m at *
  have h3 := fun w hv => rcksum_any (v := .slice (some ⟨g, 0, none⟩) 20 c) (l := m.take 20) w hv (hb2.take 20) (by simp; omega)
  obtain ⟨s0, s1⟩ := ck_bd (m.take 20)
  generalize ck (m.take 20) = s at *
  have HH := Lib.hid (show (m.set 10 (s / 256)).set 11 (s % 256) = hdSum l from hE)
  unfold mendAt at hA
  clear hE hb hb2
  generalize hdSum l = H at *
  have c9 := bc_at (l := H) (k := 9) (by omega)
  rw [h9] at c9
  rcases proto_cases (gt l 9) with hp | hp | hp | ⟨q1, q2, q3⟩
  · rw [hp] at hA c9
    have d0 : decide (40 ≤ (l.length : Int)) = false := by
      by_cases h : 40 ≤ l.length
      · rw [if_pos b66, if_pos h] at hA; cases hA
      · simp; omega
    clear hA
    clear hbH h9
    go_enter Tryd.func24, Tryd.ntmps24
    (repeat' (first | go_skip | ((first | ((with_reducible apply wp_move_bool); (focus rfl)) | ((with_reducible apply wp_move_boolG); (focus rfl); (focus rfl))); intro cb hcb; (cases cb <;> (first | (with_reducible exact no_tf hcb) | (with_reducible exact no_ft hcb) | skip)); all_goals ((try simp only [Act.put]); (try simp only [List.setIfInBounds_toArray, List.set_cons_zero, List.set_cons_succ]))) | (go_big_may; (first | ((with_reducible refine is_load ?_); (first | (refine own_ldP hO (h := ?_)) | (refine own_ld (h := ?_)))) | ((with_reducible refine is_store ?_); (first | (refine own_stRp (hO := hO) (h := ?_); clear hO; intro wv hO) | (refine own_st1p (hO := hO) (h := ?_); clear hO; intro wv hO) | (refine own_stR (hO := hO) (h := ?_); clear hO; intro wv hO) | (refine own_st1 (hO := hO) (h := ?_); clear hO; intro wv hO))) | ((with_reducible refine is_append ?_); (first | (refine own_ap (o := ⟨some 74, _, _, _, _, _⟩) (hO := hO) (h := ?_); clear hO; intro g74 c74 wv hO) | (refine own_ap (o := ⟨some 83, _, _, _, _, _⟩) (hO := hO) (h := ?_); clear hO; intro g83 c83 wv hO) | (refine own_ap (o := ⟨some 93, _, _, _, _, _⟩) (hO := hO) (h := ?_); clear hO; intro g93 c93 wv hO) | (refine own_ap (o := ⟨some 96, _, _, _, _, _⟩) (hO := hO) (h := ?_); clear hO; intro g96 c96 wv hO))) | (go_at_call 15; (rw [HM.out] at hO); refine (h3 _ (IsB.front (show IsB _ _ _ by unfold IsB; rw [hn]; exact hO.rowIs List.mem_cons_self) (by omega) (by omega))).mono ?_; rintro e wv ⟨rfl, hb2⟩; replace hO := hO.call hb2; clear hb2 h3) | ((with_reducible refine is_load ?_); (rw [HH.out] at hO); (refine own_ldW (hO := hO) (h := ?_))) | ((with_reducible refine is_load ?_); (refine own_ldW (hO := hO) (h := ?_))) | ((with_reducible refine is_store ?_); (refine own_stW (hO := hO) (h := ?_); clear hO; intro wv hO)))) | go_values | go_skip | go_guarded | go_step | go_upon | go_back | (simp only at *; go_simp) | (go_values <;> (try go_simp)) | (go_ite <;> go_prune <;> (try go_simp)) | (split <;> (first | (rename_i hx; exact (hx _ rfl).elim) | go_prune))))
    go_ret
    exact ⟨rfl, hO.keep, hO.row _ List.mem_cons_self⟩
  · rw [hp] at hA c9
    have d0 : decide (28 ≤ (l.length : Int)) = false := by
      by_cases h : 28 ≤ l.length
      · rw [if_neg (by decide), if_pos b1717, if_pos h] at hA; cases hA
      · simp; omega
    clear hA
    clear hbH h9
    go_enter Tryd.func24, Tryd.ntmps24
    (repeat' (first | go_skip | ((first | ((with_reducible apply wp_move_bool); (focus rfl)) | ((with_reducible apply wp_move_boolG); (focus rfl); (focus rfl))); intro cb hcb; (cases cb <;> (first | (with_reducible exact no_tf hcb) | (with_reducible exact no_ft hcb) | skip)); all_goals ((try simp only [Act.put]); (try simp only [List.setIfInBounds_toArray, List.set_cons_zero, List.set_cons_succ]))) | (go_big_may; (first | ((with_reducible refine is_load ?_); (first | (refine own_ldP hO (h := ?_)) | (refine own_ld (h := ?_)))) | ((with_reducible refine is_store ?_); (first | (refine own_stRp (hO := hO) (h := ?_); clear hO; intro wv hO) | (refine own_st1p (hO := hO) (h := ?_); clear hO; intro wv hO) | (refine own_stR (hO := hO) (h := ?_); clear hO; intro wv hO) | (refine own_st1 (hO := hO) (h := ?_); clear hO; intro wv hO))) | ((with_reducible refine is_append ?_); (first | (refine own_ap (o := ⟨some 74, _, _, _, _, _⟩) (hO := hO) (h := ?_); clear hO; intro g74 c74 wv hO) | (refine own_ap (o := ⟨some 83, _, _, _, _, _⟩) (hO := hO) (h := ?_); clear hO; intro g83 c83 wv hO) | (refine own_ap (o := ⟨some 93, _, _, _, _, _⟩) (hO := hO) (h := ?_); clear hO; intro g93 c93 wv hO) | (refine own_ap (o := ⟨some 96, _, _, _, _, _⟩) (hO := hO) (h := ?_); clear hO; intro g96 c96 wv hO))) | (go_at_call 15; (rw [HM.out] at hO); refine (h3 _ (IsB.front (show IsB _ _ _ by unfold IsB; rw [hn]; exact hO.rowIs List.mem_cons_self) (by omega) (by omega))).mono ?_; rintro e wv ⟨rfl, hb2⟩; replace hO := hO.call hb2; clear hb2 h3) | ((with_reducible refine is_load ?_); (rw [HH.out] at hO); (refine own_ldW (hO := hO) (h := ?_))) | ((with_reducible refine is_load ?_); (refine own_ldW (hO := hO) (h := ?_))) | ((with_reducible refine is_store ?_); (refine own_stW (hO := hO) (h := ?_); clear hO; intro wv hO)))) | go_values | go_skip | go_guarded | go_step | go_upon | go_back | (simp only at *; go_simp) | (go_values <;> (try go_simp)) | (go_ite <;> go_prune <;> (try go_simp)) | (split <;> (first | (rename_i hx; exact (hx _ rfl).elim) | go_prune))))
    go_ret
    exact ⟨rfl, hO.keep, hO.row _ List.mem_cons_self⟩
  · rw [hp] at hA c9
    have d0 : decide (28 ≤ (l.length : Int)) = false := by
      by_cases h : 28 ≤ l.length
      · rw [if_neg (by decide), if_neg (by decide), if_pos b11, if_pos h] at hA; cases hA
      · simp; omega
    clear hA
    clear hbH h9
    go_enter Tryd.func24, Tryd.ntmps24
    (repeat' (first | go_skip | ((first | ((with_reducible apply wp_move_bool); (focus rfl)) | ((with_reducible apply wp_move_boolG); (focus rfl); (focus rfl))); intro cb hcb; (cases cb <;> (first | (with_reducible exact no_tf hcb) | (with_reducible exact no_ft hcb) | skip)); all_goals ((try simp only [Act.put]); (try simp only [List.setIfInBounds_toArray, List.set_cons_zero, List.set_cons_succ]))) | (go_big_may; (first | ((with_reducible refine is_load ?_); (first | (refine own_ldP hO (h := ?_)) | (refine own_ld (h := ?_)))) | ((with_reducible refine is_store ?_); (first | (refine own_stRp (hO := hO) (h := ?_); clear hO; intro wv hO) | (refine own_st1p (hO := hO) (h := ?_); clear hO; intro wv hO) | (refine own_stR (hO := hO) (h := ?_); clear hO; intro wv hO) | (refine own_st1 (hO := hO) (h := ?_); clear hO; intro wv hO))) | ((with_reducible refine is_append ?_); (first | (refine own_ap (o := ⟨some 74, _, _, _, _, _⟩) (hO := hO) (h := ?_); clear hO; intro g74 c74 wv hO) | (refine own_ap (o := ⟨some 83, _, _, _, _, _⟩) (hO := hO) (h := ?_); clear hO; intro g83 c83 wv hO) | (refine own_ap (o := ⟨some 93, _, _, _, _, _⟩) (hO := hO) (h := ?_); clear hO; intro g93 c93 wv hO) | (refine own_ap (o := ⟨some 96, _, _, _, _, _⟩) (hO := hO) (h := ?_); clear hO; intro g96 c96 wv hO))) | (go_at_call 15; (rw [HM.out] at hO); refine (h3 _ (IsB.front (show IsB _ _ _ by unfold IsB; rw [hn]; exact hO.rowIs List.mem_cons_self) (by omega) (by omega))).mono ?_; rintro e wv ⟨rfl, hb2⟩; replace hO := hO.call hb2; clear hb2 h3) | ((with_reducible refine is_load ?_); (rw [HH.out] at hO); (refine own_ldW (hO := hO) (h := ?_))) | ((with_reducible refine is_load ?_); (refine own_ldW (hO := hO) (h := ?_))) | ((with_reducible refine is_store ?_); (refine own_stW (hO := hO) (h := ?_); clear hO; intro wv hO)))) | go_values | go_skip | go_guarded | go_step | go_upon | go_back | (simp only at *; go_simp) | (go_values <;> (try go_simp)) | (go_ite <;> go_prune <;> (try go_simp)) | (split <;> (first | (rename_i hx; exact (hx _ rfl).elim) | go_prune))))
    go_ret
    exact ⟨rfl, hO.keep, hO.row _ List.mem_cons_self⟩
  · clear hA
    generalize gt l 9 = p at *
    clear hbH h9
    go_enter Tryd.func24, Tryd.ntmps24
    (repeat' (first | go_skip | ((first | ((with_reducible apply wp_move_bool); (focus rfl)) | ((with_reducible apply wp_move_boolG); (focus rfl); (focus rfl))); intro cb hcb; (cases cb <;> (first | (with_reducible exact no_tf hcb) | (with_reducible exact no_ft hcb) | skip)); all_goals ((try simp only [Act.put]); (try simp only [List.setIfInBounds_toArray, List.set_cons_zero, List.set_cons_succ]))) | (go_big_may; (first | ((with_reducible refine is_load ?_); (first | (refine own_ldP hO (h := ?_)) | (refine own_ld (h := ?_)))) | ((with_reducible refine is_store ?_); (first | (refine own_stRp (hO := hO) (h := ?_); clear hO; intro wv hO) | (refine own_st1p (hO := hO) (h := ?_); clear hO; intro wv hO) | (refine own_stR (hO := hO) (h := ?_); clear hO; intro wv hO) | (refine own_st1 (hO := hO) (h := ?_); clear hO; intro wv hO))) | ((with_reducible refine is_append ?_); (first | (refine own_ap (o := ⟨some 74, _, _, _, _, _⟩) (hO := hO) (h := ?_); clear hO; intro g74 c74 wv hO) | (refine own_ap (o := ⟨some 83, _, _, _, _, _⟩) (hO := hO) (h := ?_); clear hO; intro g83 c83 wv hO) | (refine own_ap (o := ⟨some 93, _, _, _, _, _⟩) (hO := hO) (h := ?_); clear hO; intro g93 c93 wv hO) | (refine own_ap (o := ⟨some 96, _, _, _, _, _⟩) (hO := hO) (h := ?_); clear hO; intro g96 c96 wv hO))) | (go_at_call 15; (rw [HM.out] at hO); refine (h3 _ (IsB.front (show IsB _ _ _ by unfold IsB; rw [hn]; exact hO.rowIs List.mem_cons_self) (by omega) (by omega))).mono ?_; rintro e wv ⟨rfl, hb2⟩; replace hO := hO.call hb2; clear hb2 h3) | ((with_reducible refine is_load ?_); (rw [HH.out] at hO); (refine own_ldW (hO := hO) (h := ?_))) | ((with_reducible refine is_load ?_); (refine own_ldW (hO := hO) (h := ?_))) | ((with_reducible refine is_store ?_); (refine own_stW (hO := hO) (h := ?_); clear hO; intro wv hO)))) | go_values | go_skip | go_guarded | go_step | go_upon | go_back | (simp only at *; go_simp) | (go_values <;> (try go_simp)) | (go_ite <;> go_prune <;> (try go_simp)) | (split <;> (first | (rename_i hx; exact (hx _ rfl).elim) | go_prune))))
    go_ret
    exact ⟨rfl, hO.keep, hO.row _ List.mem_cons_self⟩
set_option maxHeartbeats 4000000 in
theorem mend_zero {v : Value} {l : List Int} (w : World) (hv : OwnsB w 0 v l) (hb : BOk l) (hk : 20 ≤ l.length) (hl : l.length ≤ 65536) (hA : mendAt l = 26) (hp : gt l 9 = 17) (hq : 28 ≤ l.length) :
    Calls Tryd.prog 24 #[v, .bool true] w (WPost w v l (mendF l true) v) := by
  obtain ⟨nz, hz⟩ : ∃ nz, nz = true := ⟨_, rfl⟩
  rw [← hz]
  have hF : mendF l nz = mendK (hdSum l) 26 nz := by unfold mendF; rw [hA, if_neg (by decide)]
  rw [hF]
  clear hF hA
  obtain ⟨g, c, rfl, hc⟩ := hv.pos (by omega)
  have hO := own_takeRow hv [] (by simp)
  clear hv
  have hn := p16_length l 10 0
  have hb2 := hb.p16 10 (x := 0) (by omega) (by omega)
  have HM := Lib.hid (show (l.set 10 0).set 11 0 = p16 l 10 0 from rfl)
  have hnH : (hdSum l).length = l.length := hdSum_length l
  have hbH : BOk (hdSum l) := hb.hdSum
  have h9 : gt (hdSum l) 9 = gt l 9 := gt_hd (by omega)
  have hE : p16 (p16 l 10 0) 10 (ck ((p16 l 10 0).take 20)) = hdSum l := rfl
  generalize p16 l 10 0 = m at *
  have h3 := fun w hv => rcksum_any (v := .slice (some ⟨g, 0, none⟩) 20 c) (l := m.take 20) w hv (hb2.take 20) (by simp; omega)
  obtain ⟨s0, s1⟩ := ck_bd (m.take 20)
  generalize ck (m.take 20) = s at *
  have HH := Lib.hid (show (m.set 10 (s / 256)).set 11 (s % 256) = hdSum l from hE)
  clear hE hb hb2
  generalize hdSum l = H at *
  have c9 := bc_at (l := H) (k := 9) (by omega)
  rw [h9] at c9
  rw [hp] at h9 c9
  have hK := p16_length H 26 0
  have hbK := hbH.p16 26 (x := 0) (by omega) (by omega)
  have h9K : gt (p16 H 26 0) 9 = 17 := (gt_p16_ne (by omega) (by omega)).trans h9
  subst hz
  have d0 : decide (28 ≤ (l.length : Int)) = true := by simp; omega
  clear hbK h9K hbH h9
  go_enter Tryd.func24, Tryd.ntmps24
  (repeat' (first | go_skip | ((first | ((with_reducible apply wp_move_bool); (focus rfl)) | ((with_reducible apply wp_move_boolG); (focus rfl); (focus rfl))); intro cb hcb; (cases cb <;> (first | (with_reducible exact no_tf hcb) | (with_reducible exact no_ft hcb) | skip)); all_goals ((try simp only [Act.put]); (try simp only [List.setIfInBounds_toArray, List.set_cons_zero, List.set_cons_succ]))) | (go_big_may; (first | ((with_reducible refine is_load ?_); (first | (refine own_ldP hO (h := ?_)) | (refine own_ld (h := ?_)))) | ((with_reducible refine is_store ?_); (first | (refine own_stRp (hO := hO) (h := ?_); clear hO; intro wv hO) | (refine own_st1p (hO := hO) (h := ?_); clear hO; intro wv hO) | (refine own_stR (hO := hO) (h := ?_); clear hO; intro wv hO) | (refine own_st1 (hO := hO) (h := ?_); clear hO; intro wv hO))) | ((with_reducible refine is_append ?_); (first | (refine own_ap (o := ⟨some 74, _, _, _, _, _⟩) (hO := hO) (h := ?_); clear hO; intro g74 c74 wv hO) | (refine own_ap (o := ⟨some 83, _, _, _, _, _⟩) (hO := hO) (h := ?_); clear hO; intro g83 c83 wv hO) | (refine own_ap (o := ⟨some 93, _, _, _, _, _⟩) (hO := hO) (h := ?_); clear hO; intro g93 c93 wv hO) | (refine own_ap (o := ⟨some 96, _, _, _, _, _⟩) (hO := hO) (h := ?_); clear hO; intro g96 c96 wv hO))) | (go_at_call 15; (rw [HM.out] at hO); refine (h3 _ (IsB.front (show IsB _ _ _ by unfold IsB; rw [hn]; exact hO.rowIs List.mem_cons_self) (by omega) (by omega))).mono ?_; rintro e wv ⟨rfl, hb2⟩; replace hO := hO.call hb2; clear hb2 h3) | ((with_reducible refine is_load ?_); (rw [HH.out] at hO); (refine own_ldW (hO := hO) (h := ?_))) | ((with_reducible refine is_load ?_); (refine own_ldW (hO := hO) (h := ?_))) | ((with_reducible refine is_store ?_); (refine own_stW (hO := hO) (h := ?_); clear hO; intro wv hO)))) | go_values | go_skip | go_guarded | go_step | go_upon | go_back | (simp only at *; go_simp) | (go_values <;> (try go_simp)) | (go_ite <;> go_prune <;> (try go_simp)) | (split <;> (first | (rename_i hx; exact (hx _ rfl).elim) | go_prune))))
  go_ret
  exact ⟨rfl, hO.keep, hO.row _ List.mem_cons_self⟩
set_option maxHeartbeats 4000000 in
theorem mend_icmp {v : Value} {l : List Int} (nz : Bool) (w : World) (hv : OwnsB w 0 v l) (hb : BOk l) (hk : 20 ≤ l.length) (hl : l.length ≤ 65536) (hA : mendAt l = 22) (hp : gt l 9 = 1) (hq : 28 ≤ l.length) :
    Calls Tryd.prog 24 #[v, .bool nz] w (WPost w v l (mendF l nz) v) := by
  have hF : mendF l nz = mendK (hdSum l) 22 nz := by unfold mendF; rw [hA, if_neg (by decide)]
  rw [hF]
  clear hF hA
  obtain ⟨g, c, rfl, hc⟩ := hv.pos (by omega)
  have hO := own_takeRow hv [] (by simp)
  clear hv
  have hn := p16_length l 10 0
  have hb2 := hb.p16 10 (x := 0) (by omega) (by omega)
  have HM := Lib.hid (show (l.set 10 0).set 11 0 = p16 l 10 0 from rfl)
  have hnH : (hdSum l).length = l.length := hdSum_length l
  have hbH : BOk (hdSum l) := hb.hdSum
  have h9 : gt (hdSum l) 9 = gt l 9 := gt_hd (by omega)
  have hE : p16 (p16 l 10 0) 10 (ck ((p16 l 10 0).take 20)) = hdSum l := rfl
  generalize p16 l 10 0 = m at *
  have h3 := fun w hv => rcksum_any (v := .slice (some ⟨g, 0, none⟩) 20 c) (l := m.take 20) w hv (hb2.take 20) (by simp; omega)
  obtain ⟨s0, s1⟩ := ck_bd (m.take 20)
  generalize ck (m.take 20) = s at *
  have HH := Lib.hid (show (m.set 10 (s / 256)).set 11 (s % 256) = hdSum l from hE)
  clear hE hb hb2
  generalize hdSum l = H at *
  have c9 := bc_at (l := H) (k := 9) (by omega)
  rw [h9] at c9
  rw [hp] at h9 c9
  have hK := p16_length H 22 0
  have hbK := hbH.p16 22 (x := 0) (by omega) (by omega)
  have h9K : gt (p16 H 22 0) 9 = 1 := (gt_p16_ne (by omega) (by omega)).trans h9
  have hE2 : mendK H 22 nz = p16 (p16 H 22 0) 22 (ck (cov (p16 H 22 0))) := by unfold mendK; rw [if_neg (by simp)]
  rw [hE2]
  clear hE2
  have HK := Lib.hid (show (H.set 22 0).set (22 + 1) 0 = p16 H 22 0 from rfl)
  clear h9 hbH
  generalize p16 H 22 0 = K at *
  have c9K := bc_at (l := K) (k := 9) (by omega)
  rw [h9K] at c9K
  obtain ⟨S0, S1⟩ := ck_bd (cov K)
  have HD := Lib.hid (show p16 K 22 (ck (cov K)) = (K.set 22 (ck (cov K) / 256)).set (22 + 1) (ck (cov K) % 256) from rfl)
  have d0 : decide (28 ≤ (l.length : Int)) = true := by simp; omega
  have hcv : cov K = K.drop 20 := by unfold cov; rw [h9K]; rfl
  have hlen : ((K.drop 20).take (l.length - 20)) = K.drop 20 := List.take_of_length_le (by simp; omega)
  have HC := Lib.hid (show bc (cov K) = bc ((K.drop 20).take (l.length - 20)) by rw [hcv, hlen])
  have hCL : (cov K).length = l.length - 20 := by rw [hcv]; simp; omega
  have hck := fun v w hv => rcksum_any (v := v) (l := cov K) w hv (by rw [hcv]; exact hbK.drop 20) (by omega)
  clear hcv hlen hbK h9K
  generalize ck (cov K) = S at *
  generalize cov K = C at *
  rw [HD.out]
  clear HD
  cases nz
  all_goals
    go_enter Tryd.func24, Tryd.ntmps24
    (repeat' (first | go_skip | ((first | ((with_reducible apply wp_move_bool); (focus rfl)) | ((with_reducible apply wp_move_boolG); (focus rfl); (focus rfl))); intro cb hcb; (cases cb <;> (first | (with_reducible exact no_tf hcb) | (with_reducible exact no_ft hcb) | skip)); all_goals ((try simp only [Act.put]); (try simp only [List.setIfInBounds_toArray, List.set_cons_zero, List.set_cons_succ]))) | (go_big_may; (first | ((with_reducible refine is_load ?_); (first | (refine own_ldP hO (h := ?_)) | (refine own_ld (h := ?_)))) | ((with_reducible refine is_store ?_); (first | (refine own_stRp (hO := hO) (h := ?_); clear hO; intro wv hO) | (refine own_st1p (hO := hO) (h := ?_); clear hO; intro wv hO) | (refine own_stR (hO := hO) (h := ?_); clear hO; intro wv hO) | (refine own_st1 (hO := hO) (h := ?_); clear hO; intro wv hO))) | ((with_reducible refine is_append ?_); (first | (refine own_ap (o := ⟨some 74, _, _, _, _, _⟩) (hO := hO) (h := ?_); clear hO; intro g74 c74 wv hO) | (refine own_ap (o := ⟨some 83, _, _, _, _, _⟩) (hO := hO) (h := ?_); clear hO; intro g83 c83 wv hO) | (refine own_ap (o := ⟨some 93, _, _, _, _, _⟩) (hO := hO) (h := ?_); clear hO; intro g93 c93 wv hO) | (refine own_ap (o := ⟨some 96, _, _, _, _, _⟩) (hO := hO) (h := ?_); clear hO; intro g96 c96 wv hO))) | (go_at_call 15; (rw [HM.out] at hO); refine (h3 _ (IsB.front (show IsB _ _ _ by unfold IsB; rw [hn]; exact hO.rowIs List.mem_cons_self) (by omega) (by omega))).mono ?_; rintro e wv ⟨rfl, hb2⟩; replace hO := hO.call hb2; clear hb2 h3) | ((with_reducible refine is_load ?_); (rw [HH.out] at hO); (refine own_ldW (hO := hO) (h := ?_))) | ((with_reducible refine is_build ?_); (rw [HK.out] at hO); ((with_reducible refine is_build ?_); (refine own_build0 (o := ⟨some 71, _, _, _, _, _⟩) hO (by rfl) rfl slice_u8 ?_); clear hO; intro n71 wv hO)) | ((with_reducible refine is_append ?_); (refine own_appendP (o := ⟨some 74, _, _, _, _, _⟩) hO rfl rfl slice_u8 rfl rfl (src_of_cells (IsB.cells (show IsB _ _ _ by unfold IsB; rw [hK, hnH]; exact hO.rowIs (by (repeat (first | exact List.mem_cons_self | refine List.mem_cons_of_mem _ ?_)))) (i := 20) (n := l.length - 20) (c' := c - 20) (by omega) (by omega)) (by simp [bc_length]; try omega)) (bc_one _) (fun _ => by repeat (first | exact UpdR.here | apply UpdR.there)) (by first | omega | (simp; omega)) (by unfold maxLen; first | omega | (simp; omega)) (by first | omega | (simp; done) | (simp; omega)) ?_); clear hO; intro g74 c74 wv hO; (try simp only [Nat.zero_add, List.nil_append] at hO)) | (go_at_call 15; refine (hck _ _ (show IsB _ _ _ by unfold IsB; rw [hCL, HC.out]; exact hO.rowIs List.mem_cons_self)).mono ?_; rintro e wv ⟨rfl, hb2⟩; replace hO := hO.call hb2; clear hb2 hck) | ((with_reducible refine is_load ?_); (refine own_ldW (hO := hO) (h := ?_))) | ((with_reducible refine is_store ?_); (refine own_stW (hO := hO) (h := ?_); clear hO; intro wv hO)))) | go_values | go_skip | go_guarded | go_step | go_upon | go_back | (simp only at *; go_simp) | (go_values <;> (try go_simp)) | (go_ite <;> go_prune <;> (try go_simp)) | (split <;> (first | (rename_i hx; exact (hx _ rfl).elim) | go_prune))))
    go_ret
    exact ⟨rfl, hO.keep, hO.row ⟨.slice (some ⟨g, 0, none⟩) l.length c, l.length, _, _, _⟩ (by (repeat (first | exact List.mem_cons_self | refine List.mem_cons_of_mem _ ?_)))⟩
set_option maxHeartbeats 4000000 in
theorem mend_tcp {v : Value} {l : List Int} (nz : Bool) (w : World) (hv : OwnsB w 0 v l) (hb : BOk l) (hk : 20 ≤ l.length) (hl : l.length ≤ 65536) (hA : mendAt l = 36) (hp : gt l 9 = 6) (hq : 40 ≤ l.length) :
    Calls Tryd.prog 24 #[v, .bool nz] w (WPost w v l (mendF l nz) v) := by
  have hF : mendF l nz = mendK (hdSum l) 36 nz := by unfold mendF; rw [hA, if_neg (by decide)]
  rw [hF]
  clear hF hA
  obtain ⟨g, c, rfl, hc⟩ := hv.pos (by omega)
  have hO := own_takeRow hv [] (by simp)
  clear hv
  have hn := p16_length l 10 0
  have hb2 := hb.p16 10 (x := 0) (by omega) (by omega)
  have HM := Lib.hid (show (l.set 10 0).set 11 0 = p16 l 10 0 from rfl)
  have hnH : (hdSum l).length = l.length := hdSum_length l
  have hbH : BOk (hdSum l) := hb.hdSum
  have h9 : gt (hdSum l) 9 = gt l 9 := gt_hd (by omega)
  have hE : p16 (p16 l 10 0) 10 (ck ((p16 l 10 0).take 20)) = hdSum l := rfl
  generalize p16 l 10 0 = m at *
  have h3 := fun w hv => rcksum_any (v := .slice (some ⟨g, 0, none⟩) 20 c) (l := m.take 20) w hv (hb2.take 20) (by simp; omega)
  obtain ⟨s0, s1⟩ := ck_bd (m.take 20)
  generalize ck (m.take 20) = s at *
  have HH := Lib.hid (show (m.set 10 (s / 256)).set 11 (s % 256) = hdSum l from hE)
  clear hE hb hb2
  generalize hdSum l = H at *
  have c9 := bc_at (l := H) (k := 9) (by omega)
  rw [h9] at c9
  rw [hp] at h9 c9
  have hK := p16_length H 36 0
  have hbK := hbH.p16 36 (x := 0) (by omega) (by omega)
  have h9K : gt (p16 H 36 0) 9 = 6 := (gt_p16_ne (by omega) (by omega)).trans h9
  have hE2 : mendK H 36 nz = p16 (p16 H 36 0) 36 (ck (cov (p16 H 36 0))) := by unfold mendK; rw [if_neg (by simp)]
  rw [hE2]
  clear hE2
  have HK := Lib.hid (show (H.set 36 0).set (36 + 1) 0 = p16 H 36 0 from rfl)
  clear h9 hbH
  generalize p16 H 36 0 = K at *
  have c9K := bc_at (l := K) (k := 9) (by omega)
  rw [h9K] at c9K
  obtain ⟨S0, S1⟩ := ck_bd (cov K)
  have HD := Lib.hid (show p16 K 36 (ck (cov K)) = (K.set 36 (ck (cov K) / 256)).set (36 + 1) (ck (cov K) % 256) from rfl)
  have d0 : decide (40 ≤ (l.length : Int)) = true := by simp; omega
  have hlen : ((K.drop 20).take (l.length - 20)) = K.drop 20 := List.take_of_length_le (by simp; omega)
  have hcv : cov K = (K.drop 12).take 8 ++ [0, 6, ((l.length : Int) - 20) / 256, ((l.length : Int) - 20) % 256] ++ K.drop 20 := by unfold cov; rw [h9K, hK, hnH]; rfl
  have HC := Lib.hid (show bc (cov K) = [] ++ bc ((K.drop 12).take 8) ++ [.int .u8 0, .int .u8 6, .int .u8 (((l.length : Int) - 20) / 256), .int .u8 (((l.length : Int) - 20) % 256)] ++ bc ((K.drop 20).take (l.length - 20)) by rw [hlen, hcv]; simp [bc])
  have hCL : (cov K).length = 0 + 8 + 4 + (l.length - 20) := by rw [hcv]; simp; omega
  have hck := fun v w hv => rcksum_any (v := v) (l := cov K) w hv (by
    rw [hcv]
    refine ((hbK.part 12 8).append fun x hx => ?_).append (hbK.drop 20)
    simp only [List.mem_cons, List.not_mem_nil, or_false] at hx
    omega) (by omega)
  clear hcv hlen hbK h9K
  generalize ck (cov K) = S at *
  generalize cov K = C at *
  rw [HD.out]
  clear HD
  cases nz
  all_goals
    go_enter Tryd.func24, Tryd.ntmps24
    (repeat' (first | go_skip | ((first | ((with_reducible apply wp_move_bool); (focus rfl)) | ((with_reducible apply wp_move_boolG); (focus rfl); (focus rfl))); intro cb hcb; (cases cb <;> (first | (with_reducible exact no_tf hcb) | (with_reducible exact no_ft hcb) | skip)); all_goals ((try simp only [Act.put]); (try simp only [List.setIfInBounds_toArray, List.set_cons_zero, List.set_cons_succ]))) | (go_big_may; (first | ((with_reducible refine is_load ?_); (first | (refine own_ldP hO (h := ?_)) | (refine own_ld (h := ?_)))) | ((with_reducible refine is_store ?_); (first | (refine own_stRp (hO := hO) (h := ?_); clear hO; intro wv hO) | (refine own_st1p (hO := hO) (h := ?_); clear hO; intro wv hO) | (refine own_stR (hO := hO) (h := ?_); clear hO; intro wv hO) | (refine own_st1 (hO := hO) (h := ?_); clear hO; intro wv hO))) | ((with_reducible refine is_append ?_); (first | (refine own_ap (o := ⟨some 74, _, _, _, _, _⟩) (hO := hO) (h := ?_); clear hO; intro g74 c74 wv hO) | (refine own_ap (o := ⟨some 83, _, _, _, _, _⟩) (hO := hO) (h := ?_); clear hO; intro g83 c83 wv hO) | (refine own_ap (o := ⟨some 93, _, _, _, _, _⟩) (hO := hO) (h := ?_); clear hO; intro g93 c93 wv hO) | (refine own_ap (o := ⟨some 96, _, _, _, _, _⟩) (hO := hO) (h := ?_); clear hO; intro g96 c96 wv hO))) | (go_at_call 15; (rw [HM.out] at hO); refine (h3 _ (IsB.front (show IsB _ _ _ by unfold IsB; rw [hn]; exact hO.rowIs List.mem_cons_self) (by omega) (by omega))).mono ?_; rintro e wv ⟨rfl, hb2⟩; replace hO := hO.call hb2; clear hb2 h3) | ((with_reducible refine is_load ?_); (rw [HH.out] at hO); (refine own_ldW (hO := hO) (h := ?_))) | ((with_reducible refine is_build ?_); (rw [HK.out] at hO); ((with_reducible refine is_build ?_); (refine own_build0 (o := ⟨some 71, _, _, _, _, _⟩) hO (by rfl) rfl slice_u8 ?_); clear hO; intro n71 wv hO)) | ((with_reducible refine is_append ?_); (refine own_appendP (o := ⟨some 74, _, _, _, _, _⟩) hO rfl rfl slice_u8 rfl rfl (src_of_cells (IsB.cells (show IsB _ _ _ by unfold IsB; rw [hK, hnH]; exact hO.rowIs (by (repeat (first | exact List.mem_cons_self | refine List.mem_cons_of_mem _ ?_)))) (i := 20) (n := l.length - 20) (c' := c - 20) (by omega) (by omega)) (by simp [bc_length]; try omega)) (bc_one _) (fun _ => by repeat (first | exact UpdR.here | apply UpdR.there)) (by first | omega | (simp; omega)) (by unfold maxLen; first | omega | (simp; omega)) (by first | omega | (simp; done) | (simp; omega)) ?_); clear hO; intro g74 c74 wv hO; (try simp only [Nat.zero_add, List.nil_append] at hO)) | ((with_reducible refine is_load ?_); (refine own_ldW (hO := hO) (h := ?_))) | ((with_reducible refine is_store ?_); (refine own_stW (hO := hO) (h := ?_); clear hO; intro wv hO)))) | go_values | go_skip | go_guarded | go_step | go_upon | go_back | (simp only at *; go_simp) | (go_values <;> (try go_simp)) | (go_ite <;> go_prune <;> (try go_simp)) | (split <;> (first | (rename_i hx; exact (hx _ rfl).elim) | go_prune))))
    (try simp only [Act.put]); (try simp only [List.setIfInBounds_toArray, List.set_cons_zero, List.set_cons_succ])
    refine wp_region_any (by kernel_rfl) ?_
    replace hO := hO.drew
    refine wpAny_takePL 1 rfl (by kernel_rfl) (by kernel_rfl) (by kernel_rfl) (by intro c d v a w h; cases d <;> exact h) (by rfl) ?_
    (first | go_big_quiet_skip | (go_big_quiet_want; (go_big_quiet_op; (first | go_big_quiet_on | ((refine ⟨_, fun _ _ => rfl, ?_⟩); go_big_quiet_on))))); (refine wpQuiet_nil ?_); (try simp only [Act.put]); (try simp only [List.setIfInBounds_toArray, List.set_cons_zero, List.set_cons_succ])
    refine wpAny_takePL 2 rfl (by kernel_rfl) (by kernel_rfl) (by kernel_rfl) (by intro c d v a w h; cases d <;> exact h) (by rfl) ?_
    (first | go_big_quiet_skip | (go_big_quiet_want; (go_big_quiet_op; (first | go_big_quiet_on | ((refine ⟨_, fun _ _ => rfl, ?_⟩); go_big_quiet_on))))); (refine wpQuiet_nil ?_); (try simp only [Act.put]); (try simp only [List.setIfInBounds_toArray, List.set_cons_zero, List.set_cons_succ])
    refine wpAny_takePL 4 rfl (by kernel_rfl) (by kernel_rfl) (by kernel_rfl) (by intro c d v a w h; cases d <;> exact h) (by rfl) ?_
    (first | go_big_quiet_skip | (go_big_quiet_want; (go_big_quiet_op; (first | go_big_quiet_on | ((refine ⟨_, fun _ _ => rfl, ?_⟩); go_big_quiet_on))))); (refine wpQuiet_nil ?_); (try simp only [Act.put]); (try simp only [List.setIfInBounds_toArray, List.set_cons_zero, List.set_cons_succ])
    refine wpAny_takePL 5 rfl (by kernel_rfl) (by kernel_rfl) (by kernel_rfl) (by intro c d v a w h; cases d <;> exact h) (by rfl) ?_
    (first | go_big_quiet_skip | (go_big_quiet_want; (go_big_quiet_op; (first | go_big_quiet_on | ((refine ⟨_, fun _ _ => rfl, ?_⟩); go_big_quiet_on))))); (refine wpQuiet_nil ?_); (try simp only [Act.put]); (try simp only [List.setIfInBounds_toArray, List.set_cons_zero, List.set_cons_succ])
    refine wpAny_takePL 7 rfl (by kernel_rfl) (by kernel_rfl) (by kernel_rfl) (by intro c d v a w h; cases d <;> exact h) (by rfl) ?_
    (first | go_big_quiet_skip | (go_big_quiet_want; (go_big_quiet_op; (first | go_big_quiet_on | ((refine ⟨_, fun _ _ => rfl, ?_⟩); go_big_quiet_on))))); (refine wpQuiet_nil ?_); (try simp only [Act.put]); (try simp only [List.setIfInBounds_toArray, List.set_cons_zero, List.set_cons_succ])
    refine wpAny_takePL 8 rfl (by kernel_rfl) (by kernel_rfl) (by kernel_rfl) (by intro c d v a w h; cases d <;> exact h) (by rfl) ?_
    (first | go_big_quiet_skip | (go_big_quiet_want; (go_big_quiet_op; (first | go_big_quiet_on | ((refine ⟨_, fun _ _ => rfl, ?_⟩); go_big_quiet_on))))); (refine wpQuiet_nil ?_); (try simp only [Act.put]); (try simp only [List.setIfInBounds_toArray, List.set_cons_zero, List.set_cons_succ])
    refine wpAny_takePL 9 rfl (by kernel_rfl) (by kernel_rfl) (by kernel_rfl) (by intro c d v a w h; cases d <;> exact h) (by rfl) ?_
    (first | go_big_quiet_skip | (go_big_quiet_want; (go_big_quiet_op; (first | go_big_quiet_on | ((refine ⟨_, fun _ _ => rfl, ?_⟩); go_big_quiet_on))))); (refine wpQuiet_nil ?_); (try simp only [Act.put]); (try simp only [List.setIfInBounds_toArray, List.set_cons_zero, List.set_cons_succ])
    refine wpAny_takePL 10 rfl (by kernel_rfl) (by kernel_rfl) (by kernel_rfl) (by intro c d v a w h; cases d <;> exact h) (by rfl) ?_
    (first | go_big_quiet_skip | (go_big_quiet_want; (go_big_quiet_op; (first | go_big_quiet_on | ((refine ⟨_, fun _ _ => rfl, ?_⟩); go_big_quiet_on))))); (refine wpQuiet_nil ?_); (try simp only [Act.put]); (try simp only [List.setIfInBounds_toArray, List.set_cons_zero, List.set_cons_succ])
    refine wpAny_takePL 11 rfl (by kernel_rfl) (by kernel_rfl) (by kernel_rfl) (by intro c d v a w h; cases d <;> exact h) (by rfl) ?_
    (first | go_big_quiet_skip | (go_big_quiet_want; (go_big_quiet_op; (first | go_big_quiet_on | ((refine ⟨_, fun _ _ => rfl, ?_⟩); go_big_quiet_on))))); (refine wpQuiet_nil ?_); (try simp only [Act.put]); (try simp only [List.setIfInBounds_toArray, List.set_cons_zero, List.set_cons_succ])
    refine wpAny_takePL 14 rfl (by kernel_rfl) (by kernel_rfl) (by kernel_rfl) (by intro c d v a w h; cases d <;> exact h) (by rfl) ?_
    (first | go_big_quiet_skip | (go_big_quiet_want; (go_big_quiet_op; (first | go_big_quiet_on | ((refine ⟨_, fun _ _ => rfl, ?_⟩); go_big_quiet_on))))); (refine wpQuiet_nil ?_); (try simp only [Act.put]); (try simp only [List.setIfInBounds_toArray, List.set_cons_zero, List.set_cons_succ])
    refine wpAny_takePL 15 rfl (by kernel_rfl) (by kernel_rfl) (by kernel_rfl) (by intro c d v a w h; cases d <;> exact h) (by rfl) ?_
    (first | go_big_quiet_skip | (go_big_quiet_want; (go_big_quiet_op; (first | go_big_quiet_on | ((refine ⟨_, fun _ _ => rfl, ?_⟩); go_big_quiet_on))))); (refine wpQuiet_nil ?_); (try simp only [Act.put]); (try simp only [List.setIfInBounds_toArray, List.set_cons_zero, List.set_cons_succ])
    refine wpAny_all (rs := [0, 6]) (by kernel_rfl) (by simp) (ord_cons ?_ (ord_cons ?_ ord_nil))
    rotate_left 2
    all_goals
      refine wpOp_of_listL rfl ?_
      (first | ((with_reducible refine is_load ?_); (first | (refine own_ld (h := ?_)))) | ((with_reducible refine is_store ?_); (first | (refine own_stR (hO := hO) (h := ?_); clear hO; intro wv hO) | (refine own_st1 (hO := hO) (h := ?_); clear hO; intro wv hO))) | ((with_reducible refine is_append ?_); (first | (refine own_ap (o := ⟨some 83, _, _, _, _, _⟩) (hO := hO) (h := ?_); clear hO; intro g83 c83 wv hO) | (refine own_ap (o := ⟨some 93, _, _, _, _, _⟩) (hO := hO) (h := ?_); clear hO; intro g93 c93 wv hO) | (refine own_ap (o := ⟨some 96, _, _, _, _, _⟩) (hO := hO) (h := ?_); clear hO; intro g96 c96 wv hO))) | ((with_reducible refine is_build ?_); (refine own_build0 (o := ⟨some 80, _, _, _, _, _⟩) hO (by rfl) rfl slice_u8 ?_); clear hO; intro n80 wv hO) | ((with_reducible refine is_append ?_); (refine own_appendP (o := ⟨some 83, _, _, _, _, _⟩) hO rfl rfl slice_u8 rfl rfl (src_of_cells (IsB.cells (show IsB _ _ _ by unfold IsB; rw [hK, hnH]; exact hO.rowIs (by (repeat (first | exact List.mem_cons_self | refine List.mem_cons_of_mem _ ?_)))) (i := 12) (n := 8) (c' := c - 12) (by omega) (by omega)) (by simp [bc_length]; try omega)) (bc_one _) (fun _ => by repeat (first | exact UpdR.here | apply UpdR.there)) (by first | omega | (simp; omega)) (by unfold maxLen; first | omega | (simp; omega)) (by first | omega | (simp; done) | (simp; omega)) ?_); clear hO; intro g83 c83 wv hO) | ((with_reducible refine is_build ?_); (refine' own_buildP (o := ⟨some 92, _, _, _, _, _⟩) [.int .u8 0, .int .u8 6, .int .u8 (((l.length : Int) - 20) / 256), .int .u8 (((l.length : Int) - 20) % 256)] hO (by rfl) rfl slice_u8 rfl rfl (by rfl) (by decide) (by decide) ?_); clear hO; intro n92 wv hO) | ((with_reducible refine is_append ?_); (refine own_appendP (o := ⟨some 96, _, _, _, _, _⟩) hO rfl rfl slice_u8 rfl rfl (src_of_cells (IsB.cells (show IsB _ _ _ by unfold IsB; rw [hK, hnH]; exact hO.rowIs (by (repeat (first | exact List.mem_cons_self | refine List.mem_cons_of_mem _ ?_)))) (i := 20) (n := l.length - 20) (c' := c - 20) (by omega) (by omega)) (by simp [bc_length]; try omega)) (bc_one _) (fun _ => by repeat (first | exact UpdR.here | apply UpdR.there)) (by first | omega | (simp; omega)) (by unfold maxLen; first | omega | (simp; omega)) (by first | omega | (simp; done) | (simp; omega)) ?_); clear hO; intro g96 c96 wv hO) | ((with_reducible refine is_load ?_); (refine own_ldW (hO := hO) (h := ?_))) | ((with_reducible refine is_store ?_); (refine own_stW (hO := hO) (h := ?_); clear hO; intro wv hO)) | ((refine wpList_step (fun K hK => ?_)); go_simp; (first | ((refine hK _ _ ?_); clear hK K)))); (try simp only [Act.put]); (try simp only [List.setIfInBounds_toArray, List.set_cons_zero, List.set_cons_succ])
      refine wpList_done (qk_intro ?_)
    refine wpAny_all (rs := [3, 6]) (by kernel_rfl) (by simp) (ord_cons ?_ (ord_cons ?_ ord_nil))
    rotate_left 2
    refine wpAny_all (rs := [0, 12]) (by kernel_rfl) (by simp) (ord_cons ?_ (ord_cons ?_ ord_nil))
    rotate_left 2
    all_goals
      refine wpOp_of_listL rfl ?_
      (first | ((with_reducible refine is_load ?_); (first | (refine own_ld (h := ?_)))) | ((with_reducible refine is_store ?_); (first | (refine own_stR (hO := hO) (h := ?_); clear hO; intro wv hO) | (refine own_st1 (hO := hO) (h := ?_); clear hO; intro wv hO))) | ((with_reducible refine is_append ?_); (first | (refine own_ap (o := ⟨some 83, _, _, _, _, _⟩) (hO := hO) (h := ?_); clear hO; intro g83 c83 wv hO) | (refine own_ap (o := ⟨some 93, _, _, _, _, _⟩) (hO := hO) (h := ?_); clear hO; intro g93 c93 wv hO) | (refine own_ap (o := ⟨some 96, _, _, _, _, _⟩) (hO := hO) (h := ?_); clear hO; intro g96 c96 wv hO))) | ((with_reducible refine is_build ?_); (refine own_build0 (o := ⟨some 80, _, _, _, _, _⟩) hO (by rfl) rfl slice_u8 ?_); clear hO; intro n80 wv hO) | ((with_reducible refine is_append ?_); (refine own_appendP (o := ⟨some 83, _, _, _, _, _⟩) hO rfl rfl slice_u8 rfl rfl (src_of_cells (IsB.cells (show IsB _ _ _ by unfold IsB; rw [hK, hnH]; exact hO.rowIs (by (repeat (first | exact List.mem_cons_self | refine List.mem_cons_of_mem _ ?_)))) (i := 12) (n := 8) (c' := c - 12) (by omega) (by omega)) (by simp [bc_length]; try omega)) (bc_one _) (fun _ => by repeat (first | exact UpdR.here | apply UpdR.there)) (by first | omega | (simp; omega)) (by unfold maxLen; first | omega | (simp; omega)) (by first | omega | (simp; done) | (simp; omega)) ?_); clear hO; intro g83 c83 wv hO) | ((with_reducible refine is_build ?_); (refine' own_buildP (o := ⟨some 92, _, _, _, _, _⟩) [.int .u8 0, .int .u8 6, .int .u8 (((l.length : Int) - 20) / 256), .int .u8 (((l.length : Int) - 20) % 256)] hO (by rfl) rfl slice_u8 rfl rfl (by rfl) (by decide) (by decide) ?_); clear hO; intro n92 wv hO) | ((with_reducible refine is_append ?_); (refine own_appendP (o := ⟨some 96, _, _, _, _, _⟩) hO rfl rfl slice_u8 rfl rfl (src_of_cells (IsB.cells (show IsB _ _ _ by unfold IsB; rw [hK, hnH]; exact hO.rowIs (by (repeat (first | exact List.mem_cons_self | refine List.mem_cons_of_mem _ ?_)))) (i := 20) (n := l.length - 20) (c' := c - 20) (by omega) (by omega)) (by simp [bc_length]; try omega)) (bc_one _) (fun _ => by repeat (first | exact UpdR.here | apply UpdR.there)) (by first | omega | (simp; omega)) (by unfold maxLen; first | omega | (simp; omega)) (by first | omega | (simp; done) | (simp; omega)) ?_); clear hO; intro g96 c96 wv hO) | ((with_reducible refine is_load ?_); (refine own_ldW (hO := hO) (h := ?_))) | ((with_reducible refine is_store ?_); (refine own_stW (hO := hO) (h := ?_); clear hO; intro wv hO)) | ((refine wpList_step (fun K hK => ?_)); go_simp; (first | ((refine hK _ _ ?_); clear hK K)))); (try simp only [Act.put]); (try simp only [List.setIfInBounds_toArray, List.set_cons_zero, List.set_cons_succ])
      refine wpList_done (qk_intro ?_)
    refine wpAny_all (rs := [6]) (by kernel_rfl) (by simp) (ord_cons ?_ ord_nil)
    rotate_left 1
    refine wpAny_all (rs := [3, 12]) (by kernel_rfl) (by simp) (ord_cons ?_ (ord_cons ?_ ord_nil))
    rotate_left 2
    refine wpAny_all (rs := [3, 12]) (by kernel_rfl) (by simp) (ord_cons ?_ (ord_cons ?_ ord_nil))
    rotate_left 2
    refine wpAny_all (rs := [0]) (by kernel_rfl) (by simp) (ord_cons ?_ ord_nil)
    rotate_left 1
    all_goals
      refine wpOp_of_listL rfl ?_
      (first | ((with_reducible refine is_load ?_); (first | (refine own_ld (h := ?_)))) | ((with_reducible refine is_store ?_); (first | (refine own_stR (hO := hO) (h := ?_); clear hO; intro wv hO) | (refine own_st1 (hO := hO) (h := ?_); clear hO; intro wv hO))) | ((with_reducible refine is_append ?_); (first | (refine own_ap (o := ⟨some 83, _, _, _, _, _⟩) (hO := hO) (h := ?_); clear hO; intro g83 c83 wv hO) | (refine own_ap (o := ⟨some 93, _, _, _, _, _⟩) (hO := hO) (h := ?_); clear hO; intro g93 c93 wv hO) | (refine own_ap (o := ⟨some 96, _, _, _, _, _⟩) (hO := hO) (h := ?_); clear hO; intro g96 c96 wv hO))) | ((with_reducible refine is_build ?_); (refine own_build0 (o := ⟨some 80, _, _, _, _, _⟩) hO (by rfl) rfl slice_u8 ?_); clear hO; intro n80 wv hO) | ((with_reducible refine is_append ?_); (refine own_appendP (o := ⟨some 83, _, _, _, _, _⟩) hO rfl rfl slice_u8 rfl rfl (src_of_cells (IsB.cells (show IsB _ _ _ by unfold IsB; rw [hK, hnH]; exact hO.rowIs (by (repeat (first | exact List.mem_cons_self | refine List.mem_cons_of_mem _ ?_)))) (i := 12) (n := 8) (c' := c - 12) (by omega) (by omega)) (by simp [bc_length]; try omega)) (bc_one _) (fun _ => by repeat (first | exact UpdR.here | apply UpdR.there)) (by first | omega | (simp; omega)) (by unfold maxLen; first | omega | (simp; omega)) (by first | omega | (simp; done) | (simp; omega)) ?_); clear hO; intro g83 c83 wv hO) | ((with_reducible refine is_build ?_); (refine' own_buildP (o := ⟨some 92, _, _, _, _, _⟩) [.int .u8 0, .int .u8 6, .int .u8 (((l.length : Int) - 20) / 256), .int .u8 (((l.length : Int) - 20) % 256)] hO (by rfl) rfl slice_u8 rfl rfl (by rfl) (by decide) (by decide) ?_); clear hO; intro n92 wv hO) | ((with_reducible refine is_append ?_); (refine own_appendP (o := ⟨some 96, _, _, _, _, _⟩) hO rfl rfl slice_u8 rfl rfl (src_of_cells (IsB.cells (show IsB _ _ _ by unfold IsB; rw [hK, hnH]; exact hO.rowIs (by (repeat (first | exact List.mem_cons_self | refine List.mem_cons_of_mem _ ?_)))) (i := 20) (n := l.length - 20) (c' := c - 20) (by omega) (by omega)) (by simp [bc_length]; try omega)) (bc_one _) (fun _ => by repeat (first | exact UpdR.here | apply UpdR.there)) (by first | omega | (simp; omega)) (by unfold maxLen; first | omega | (simp; omega)) (by first | omega | (simp; done) | (simp; omega)) ?_); clear hO; intro g96 c96 wv hO) | ((with_reducible refine is_load ?_); (refine own_ldW (hO := hO) (h := ?_))) | ((with_reducible refine is_store ?_); (refine own_stW (hO := hO) (h := ?_); clear hO; intro wv hO)) | ((refine wpList_step (fun K hK => ?_)); go_simp; (first | ((refine hK _ _ ?_); clear hK K)))); (try simp only [Act.put]); (try simp only [List.setIfInBounds_toArray, List.set_cons_zero, List.set_cons_succ])
      refine wpList_done (qk_intro ?_)
    refine wpAny_all (rs := [12]) (by kernel_rfl) (by simp) (ord_cons ?_ ord_nil)
    rotate_left 1
    refine wpAny_all (rs := [12]) (by kernel_rfl) (by simp) (ord_cons ?_ ord_nil)
    rotate_left 1
    refine wpAny_all (rs := [3]) (by kernel_rfl) (by simp) (ord_cons ?_ ord_nil)
    rotate_left 1
    refine wpAny_all (rs := [12]) (by kernel_rfl) (by simp) (ord_cons ?_ ord_nil)
    rotate_left 1
    refine wpAny_all (rs := [3]) (by kernel_rfl) (by simp) (ord_cons ?_ ord_nil)
    rotate_left 1
    refine wpAny_all (rs := [3]) (by kernel_rfl) (by simp) (ord_cons ?_ ord_nil)
    rotate_left 1
    all_goals
      refine wpOp_of_listL rfl ?_
      (first | ((with_reducible refine is_load ?_); (first | (refine own_ld (h := ?_)))) | ((with_reducible refine is_store ?_); (first | (refine own_stR (hO := hO) (h := ?_); clear hO; intro wv hO) | (refine own_st1 (hO := hO) (h := ?_); clear hO; intro wv hO))) | ((with_reducible refine is_append ?_); (first | (refine own_ap (o := ⟨some 83, _, _, _, _, _⟩) (hO := hO) (h := ?_); clear hO; intro g83 c83 wv hO) | (refine own_ap (o := ⟨some 93, _, _, _, _, _⟩) (hO := hO) (h := ?_); clear hO; intro g93 c93 wv hO) | (refine own_ap (o := ⟨some 96, _, _, _, _, _⟩) (hO := hO) (h := ?_); clear hO; intro g96 c96 wv hO))) | ((with_reducible refine is_build ?_); (refine own_build0 (o := ⟨some 80, _, _, _, _, _⟩) hO (by rfl) rfl slice_u8 ?_); clear hO; intro n80 wv hO) | ((with_reducible refine is_append ?_); (refine own_appendP (o := ⟨some 83, _, _, _, _, _⟩) hO rfl rfl slice_u8 rfl rfl (src_of_cells (IsB.cells (show IsB _ _ _ by unfold IsB; rw [hK, hnH]; exact hO.rowIs (by (repeat (first | exact List.mem_cons_self | refine List.mem_cons_of_mem _ ?_)))) (i := 12) (n := 8) (c' := c - 12) (by omega) (by omega)) (by simp [bc_length]; try omega)) (bc_one _) (fun _ => by repeat (first | exact UpdR.here | apply UpdR.there)) (by first | omega | (simp; omega)) (by unfold maxLen; first | omega | (simp; omega)) (by first | omega | (simp; done) | (simp; omega)) ?_); clear hO; intro g83 c83 wv hO) | ((with_reducible refine is_build ?_); (refine' own_buildP (o := ⟨some 92, _, _, _, _, _⟩) [.int .u8 0, .int .u8 6, .int .u8 (((l.length : Int) - 20) / 256), .int .u8 (((l.length : Int) - 20) % 256)] hO (by rfl) rfl slice_u8 rfl rfl (by rfl) (by decide) (by decide) ?_); clear hO; intro n92 wv hO) | ((with_reducible refine is_append ?_); (refine own_appendP (o := ⟨some 96, _, _, _, _, _⟩) hO rfl rfl slice_u8 rfl rfl (src_of_cells (IsB.cells (show IsB _ _ _ by unfold IsB; rw [hK, hnH]; exact hO.rowIs (by (repeat (first | exact List.mem_cons_self | refine List.mem_cons_of_mem _ ?_)))) (i := 20) (n := l.length - 20) (c' := c - 20) (by omega) (by omega)) (by simp [bc_length]; try omega)) (bc_one _) (fun _ => by repeat (first | exact UpdR.here | apply UpdR.there)) (by first | omega | (simp; omega)) (by unfold maxLen; first | omega | (simp; omega)) (by first | omega | (simp; done) | (simp; omega)) ?_); clear hO; intro g96 c96 wv hO) | ((with_reducible refine is_load ?_); (refine own_ldW (hO := hO) (h := ?_))) | ((with_reducible refine is_store ?_); (refine own_stW (hO := hO) (h := ?_); clear hO; intro wv hO)) | ((refine wpList_step (fun K hK => ?_)); go_simp; (first | ((refine hK _ _ ?_); clear hK K)))); (try simp only [Act.put]); (try simp only [List.setIfInBounds_toArray, List.set_cons_zero, List.set_cons_succ])
      refine wpList_done (qk_intro ?_)
    refine wpAny_all (rs := [13]) (by kernel_rfl) (by simp) (ord_cons ?_ ord_nil)
    rotate_left 1
    refine wpAny_all (rs := [13]) (by kernel_rfl) (by simp) (ord_cons ?_ ord_nil)
    rotate_left 1
    refine wpAny_all (rs := [13]) (by kernel_rfl) (by simp) (ord_cons ?_ ord_nil)
    rotate_left 1
    refine wpAny_all (rs := [13]) (by kernel_rfl) (by simp) (ord_cons ?_ ord_nil)
    rotate_left 1
    refine wpAny_all (rs := [13]) (by kernel_rfl) (by simp) (ord_cons ?_ ord_nil)
    rotate_left 1
    refine wpAny_all (rs := [13]) (by kernel_rfl) (by simp) (ord_cons ?_ ord_nil)
    rotate_left 1
    all_goals
      refine wpOp_of_listL rfl ?_
      (first | ((with_reducible refine is_load ?_); (first | (refine own_ld (h := ?_)))) | ((with_reducible refine is_store ?_); (first | (refine own_stR (hO := hO) (h := ?_); clear hO; intro wv hO) | (refine own_st1 (hO := hO) (h := ?_); clear hO; intro wv hO))) | ((with_reducible refine is_append ?_); (first | (refine own_ap (o := ⟨some 83, _, _, _, _, _⟩) (hO := hO) (h := ?_); clear hO; intro g83 c83 wv hO) | (refine own_ap (o := ⟨some 93, _, _, _, _, _⟩) (hO := hO) (h := ?_); clear hO; intro g93 c93 wv hO) | (refine own_ap (o := ⟨some 96, _, _, _, _, _⟩) (hO := hO) (h := ?_); clear hO; intro g96 c96 wv hO))) | ((with_reducible refine is_build ?_); (refine own_build0 (o := ⟨some 80, _, _, _, _, _⟩) hO (by rfl) rfl slice_u8 ?_); clear hO; intro n80 wv hO) | ((with_reducible refine is_append ?_); (refine own_appendP (o := ⟨some 83, _, _, _, _, _⟩) hO rfl rfl slice_u8 rfl rfl (src_of_cells (IsB.cells (show IsB _ _ _ by unfold IsB; rw [hK, hnH]; exact hO.rowIs (by (repeat (first | exact List.mem_cons_self | refine List.mem_cons_of_mem _ ?_)))) (i := 12) (n := 8) (c' := c - 12) (by omega) (by omega)) (by simp [bc_length]; try omega)) (bc_one _) (fun _ => by repeat (first | exact UpdR.here | apply UpdR.there)) (by first | omega | (simp; omega)) (by unfold maxLen; first | omega | (simp; omega)) (by first | omega | (simp; done) | (simp; omega)) ?_); clear hO; intro g83 c83 wv hO) | ((with_reducible refine is_build ?_); (refine' own_buildP (o := ⟨some 92, _, _, _, _, _⟩) [.int .u8 0, .int .u8 6, .int .u8 (((l.length : Int) - 20) / 256), .int .u8 (((l.length : Int) - 20) % 256)] hO (by rfl) rfl slice_u8 rfl rfl (by rfl) (by decide) (by decide) ?_); clear hO; intro n92 wv hO) | ((with_reducible refine is_append ?_); (refine own_appendP (o := ⟨some 96, _, _, _, _, _⟩) hO rfl rfl slice_u8 rfl rfl (src_of_cells (IsB.cells (show IsB _ _ _ by unfold IsB; rw [hK, hnH]; exact hO.rowIs (by (repeat (first | exact List.mem_cons_self | refine List.mem_cons_of_mem _ ?_)))) (i := 20) (n := l.length - 20) (c' := c - 20) (by omega) (by omega)) (by simp [bc_length]; try omega)) (bc_one _) (fun _ => by repeat (first | exact UpdR.here | apply UpdR.there)) (by first | omega | (simp; omega)) (by unfold maxLen; first | omega | (simp; omega)) (by first | omega | (simp; done) | (simp; omega)) ?_); clear hO; intro g96 c96 wv hO) | ((with_reducible refine is_load ?_); (refine own_ldW (hO := hO) (h := ?_))) | ((with_reducible refine is_store ?_); (refine own_stW (hO := hO) (h := ?_); clear hO; intro wv hO)) | ((refine wpList_step (fun K hK => ?_)); go_simp; (first | ((refine hK _ _ ?_); clear hK K)))); (try simp only [Act.put]); (try simp only [List.setIfInBounds_toArray, List.set_cons_zero, List.set_cons_succ])
      refine wpList_done (qk_intro ?_)
    refine wpAny_all (rs := [16]) (by kernel_rfl) (by simp) (ord_cons ?_ ord_nil)
    rotate_left 1
    refine wpAny_all (rs := [16]) (by kernel_rfl) (by simp) (ord_cons ?_ ord_nil)
    rotate_left 1
    refine wpAny_all (rs := [16]) (by kernel_rfl) (by simp) (ord_cons ?_ ord_nil)
    rotate_left 1
    refine wpAny_all (rs := [16]) (by kernel_rfl) (by simp) (ord_cons ?_ ord_nil)
    rotate_left 1
    refine wpAny_all (rs := [16]) (by kernel_rfl) (by simp) (ord_cons ?_ ord_nil)
    rotate_left 1
    refine wpAny_all (rs := [16]) (by kernel_rfl) (by simp) (ord_cons ?_ ord_nil)
    rotate_left 1
    all_goals
      refine wpOp_of_listL rfl ?_
      (first | ((with_reducible refine is_load ?_); (first | (refine own_ld (h := ?_)))) | ((with_reducible refine is_store ?_); (first | (refine own_stR (hO := hO) (h := ?_); clear hO; intro wv hO) | (refine own_st1 (hO := hO) (h := ?_); clear hO; intro wv hO))) | ((with_reducible refine is_append ?_); (first | (refine own_ap (o := ⟨some 83, _, _, _, _, _⟩) (hO := hO) (h := ?_); clear hO; intro g83 c83 wv hO) | (refine own_ap (o := ⟨some 93, _, _, _, _, _⟩) (hO := hO) (h := ?_); clear hO; intro g93 c93 wv hO) | (refine own_ap (o := ⟨some 96, _, _, _, _, _⟩) (hO := hO) (h := ?_); clear hO; intro g96 c96 wv hO))) | ((with_reducible refine is_build ?_); (refine own_build0 (o := ⟨some 80, _, _, _, _, _⟩) hO (by rfl) rfl slice_u8 ?_); clear hO; intro n80 wv hO) | ((with_reducible refine is_append ?_); (refine own_appendP (o := ⟨some 83, _, _, _, _, _⟩) hO rfl rfl slice_u8 rfl rfl (src_of_cells (IsB.cells (show IsB _ _ _ by unfold IsB; rw [hK, hnH]; exact hO.rowIs (by (repeat (first | exact List.mem_cons_self | refine List.mem_cons_of_mem _ ?_)))) (i := 12) (n := 8) (c' := c - 12) (by omega) (by omega)) (by simp [bc_length]; try omega)) (bc_one _) (fun _ => by repeat (first | exact UpdR.here | apply UpdR.there)) (by first | omega | (simp; omega)) (by unfold maxLen; first | omega | (simp; omega)) (by first | omega | (simp; done) | (simp; omega)) ?_); clear hO; intro g83 c83 wv hO) | ((with_reducible refine is_build ?_); (refine' own_buildP (o := ⟨some 92, _, _, _, _, _⟩) [.int .u8 0, .int .u8 6, .int .u8 (((l.length : Int) - 20) / 256), .int .u8 (((l.length : Int) - 20) % 256)] hO (by rfl) rfl slice_u8 rfl rfl (by rfl) (by decide) (by decide) ?_); clear hO; intro n92 wv hO) | ((with_reducible refine is_append ?_); (refine own_appendP (o := ⟨some 96, _, _, _, _, _⟩) hO rfl rfl slice_u8 rfl rfl (src_of_cells (IsB.cells (show IsB _ _ _ by unfold IsB; rw [hK, hnH]; exact hO.rowIs (by (repeat (first | exact List.mem_cons_self | refine List.mem_cons_of_mem _ ?_)))) (i := 20) (n := l.length - 20) (c' := c - 20) (by omega) (by omega)) (by simp [bc_length]; try omega)) (bc_one _) (fun _ => by repeat (first | exact UpdR.here | apply UpdR.there)) (by first | omega | (simp; omega)) (by unfold maxLen; first | omega | (simp; omega)) (by first | omega | (simp; done) | (simp; omega)) ?_); clear hO; intro g96 c96 wv hO) | ((with_reducible refine is_load ?_); (refine own_ldW (hO := hO) (h := ?_))) | ((with_reducible refine is_store ?_); (refine own_stW (hO := hO) (h := ?_); clear hO; intro wv hO)) | ((refine wpList_step (fun K hK => ?_)); go_simp; (first | ((refine hK _ _ ?_); clear hK K)))); (try simp only [Act.put]); (try simp only [List.setIfInBounds_toArray, List.set_cons_zero, List.set_cons_succ])
      refine wpList_done (qk_intro ?_)
    refine wpAny_all (rs := [17]) (by kernel_rfl) (by simp) (ord_cons ?_ ord_nil)
    rotate_left 1
    refine wpAny_all (rs := [17]) (by kernel_rfl) (by simp) (ord_cons ?_ ord_nil)
    rotate_left 1
    refine wpAny_all (rs := [17]) (by kernel_rfl) (by simp) (ord_cons ?_ ord_nil)
    rotate_left 1
    refine wpAny_all (rs := [17]) (by kernel_rfl) (by simp) (ord_cons ?_ ord_nil)
    rotate_left 1
    refine wpAny_all (rs := [17]) (by kernel_rfl) (by simp) (ord_cons ?_ ord_nil)
    rotate_left 1
    refine wpAny_all (rs := [17]) (by kernel_rfl) (by simp) (ord_cons ?_ ord_nil)
    rotate_left 1
    all_goals
      refine wpOp_of_listL rfl ?_
      (first | ((with_reducible refine is_load ?_); (first | (refine own_ld (h := ?_)))) | ((with_reducible refine is_store ?_); (first | (refine own_stR (hO := hO) (h := ?_); clear hO; intro wv hO) | (refine own_st1 (hO := hO) (h := ?_); clear hO; intro wv hO))) | ((with_reducible refine is_append ?_); (first | (refine own_ap (o := ⟨some 83, _, _, _, _, _⟩) (hO := hO) (h := ?_); clear hO; intro g83 c83 wv hO) | (refine own_ap (o := ⟨some 93, _, _, _, _, _⟩) (hO := hO) (h := ?_); clear hO; intro g93 c93 wv hO) | (refine own_ap (o := ⟨some 96, _, _, _, _, _⟩) (hO := hO) (h := ?_); clear hO; intro g96 c96 wv hO))) | ((with_reducible refine is_build ?_); (refine own_build0 (o := ⟨some 80, _, _, _, _, _⟩) hO (by rfl) rfl slice_u8 ?_); clear hO; intro n80 wv hO) | ((with_reducible refine is_append ?_); (refine own_appendP (o := ⟨some 83, _, _, _, _, _⟩) hO rfl rfl slice_u8 rfl rfl (src_of_cells (IsB.cells (show IsB _ _ _ by unfold IsB; rw [hK, hnH]; exact hO.rowIs (by (repeat (first | exact List.mem_cons_self | refine List.mem_cons_of_mem _ ?_)))) (i := 12) (n := 8) (c' := c - 12) (by omega) (by omega)) (by simp [bc_length]; try omega)) (bc_one _) (fun _ => by repeat (first | exact UpdR.here | apply UpdR.there)) (by first | omega | (simp; omega)) (by unfold maxLen; first | omega | (simp; omega)) (by first | omega | (simp; done) | (simp; omega)) ?_); clear hO; intro g83 c83 wv hO) | ((with_reducible refine is_build ?_); (refine' own_buildP (o := ⟨some 92, _, _, _, _, _⟩) [.int .u8 0, .int .u8 6, .int .u8 (((l.length : Int) - 20) / 256), .int .u8 (((l.length : Int) - 20) % 256)] hO (by rfl) rfl slice_u8 rfl rfl (by rfl) (by decide) (by decide) ?_); clear hO; intro n92 wv hO) | ((with_reducible refine is_append ?_); (refine own_appendP (o := ⟨some 96, _, _, _, _, _⟩) hO rfl rfl slice_u8 rfl rfl (src_of_cells (IsB.cells (show IsB _ _ _ by unfold IsB; rw [hK, hnH]; exact hO.rowIs (by (repeat (first | exact List.mem_cons_self | refine List.mem_cons_of_mem _ ?_)))) (i := 20) (n := l.length - 20) (c' := c - 20) (by omega) (by omega)) (by simp [bc_length]; try omega)) (bc_one _) (fun _ => by repeat (first | exact UpdR.here | apply UpdR.there)) (by first | omega | (simp; omega)) (by unfold maxLen; first | omega | (simp; omega)) (by first | omega | (simp; done) | (simp; omega)) ?_); clear hO; intro g96 c96 wv hO) | ((with_reducible refine is_load ?_); (refine own_ldW (hO := hO) (h := ?_))) | ((with_reducible refine is_store ?_); (refine own_stW (hO := hO) (h := ?_); clear hO; intro wv hO)) | ((refine wpList_step (fun K hK => ?_)); go_simp; (first | ((refine hK _ _ ?_); clear hK K)))); (try simp only [Act.put]); (try simp only [List.setIfInBounds_toArray, List.set_cons_zero, List.set_cons_succ])
      refine wpList_done (qk_intro ?_)
    refine wpAny_done (by kernel_rfl) ?_ _
    rotate_left
    refine wpAny_done (by kernel_rfl) ?_ _
    rotate_left
    refine wpAny_done (by kernel_rfl) ?_ _
    rotate_left
    refine wpAny_done (by kernel_rfl) ?_ _
    rotate_left
    refine wpAny_done (by kernel_rfl) ?_ _
    rotate_left
    refine wpAny_done (by kernel_rfl) ?_ _
    rotate_left
    all_goals
      go_wp2_with (first | ((with_reducible refine is_load ?_); (first | (refine own_ldP hO (h := ?_)) | (refine own_ld (h := ?_)))) | ((with_reducible refine is_store ?_); (first | (refine own_stRp (hO := hO) (h := ?_); clear hO; intro wv hO) | (refine own_st1p (hO := hO) (h := ?_); clear hO; intro wv hO) | (refine own_stR (hO := hO) (h := ?_); clear hO; intro wv hO) | (refine own_st1 (hO := hO) (h := ?_); clear hO; intro wv hO))) | ((with_reducible refine is_append ?_); (first | (refine own_ap (o := ⟨some 74, _, _, _, _, _⟩) (hO := hO) (h := ?_); clear hO; intro g74 c74 wv hO) | (refine own_ap (o := ⟨some 83, _, _, _, _, _⟩) (hO := hO) (h := ?_); clear hO; intro g83 c83 wv hO) | (refine own_ap (o := ⟨some 93, _, _, _, _, _⟩) (hO := hO) (h := ?_); clear hO; intro g93 c93 wv hO) | (refine own_ap (o := ⟨some 96, _, _, _, _, _⟩) (hO := hO) (h := ?_); clear hO; intro g96 c96 wv hO))) | (go_at_call 15; refine (hck _ _ (show IsB _ _ _ by unfold IsB; rw [hCL, HC.out]; exact hO.rowIs List.mem_cons_self)).mono ?_; rintro e wv ⟨rfl, hb2⟩; replace hO := hO.call hb2; clear hb2 hck) | ((with_reducible refine is_load ?_); (refine own_ldW (hO := hO) (h := ?_))) | ((with_reducible refine is_store ?_); (refine own_stW (hO := hO) (h := ?_); clear hO; intro wv hO)))
      go_ret
      exact ⟨rfl, hO.keep, hO.row ⟨.slice (some ⟨g, 0, none⟩) l.length c, l.length, _, _, _⟩ (by (repeat (first | exact List.mem_cons_self | refine List.mem_cons_of_mem _ ?_)))⟩
set_option maxHeartbeats 4000000 in
theorem mend_udp {v : Value} {l : List Int} (w : World) (hv : OwnsB w 0 v l) (hb : BOk l) (hk : 20 ≤ l.length) (hl : l.length ≤ 65536) (hA : mendAt l = 26) (hp : gt l 9 = 17) (hq : 28 ≤ l.length) :
    Calls Tryd.prog 24 #[v, .bool false] w (WPost w v l (mendF l false) v) := by
  obtain ⟨nz, hz⟩ : ∃ nz, nz = false := ⟨_, rfl⟩
  rw [← hz]
  have hF : mendF l nz = mendK (hdSum l) 26 nz := by unfold mendF; rw [hA, if_neg (by decide)]
  rw [hF]
  clear hF hA
  obtain ⟨g, c, rfl, hc⟩ := hv.pos (by omega)
  have hO := own_takeRow hv [] (by simp)
  clear hv
  have hn := p16_length l 10 0
  have hb2 := hb.p16 10 (x := 0) (by omega) (by omega)
  have HM := Lib.hid (show (l.set 10 0).set 11 0 = p16 l 10 0 from rfl)
  have hnH : (hdSum l).length = l.length := hdSum_length l
  have hbH : BOk (hdSum l) := hb.hdSum
  have h9 : gt (hdSum l) 9 = gt l 9 := gt_hd (by omega)
  have hE : p16 (p16 l 10 0) 10 (ck ((p16 l 10 0).take 20)) = hdSum l := rfl
  generalize p16 l 10 0 = m at *
  have h3 := fun w hv => rcksum_any (v := .slice (some ⟨g, 0, none⟩) 20 c) (l := m.take 20) w hv (hb2.take 20) (by simp; omega)
  obtain ⟨s0, s1⟩ := ck_bd (m.take 20)
  generalize ck (m.take 20) = s at *
  have HH := Lib.hid (show (m.set 10 (s / 256)).set 11 (s % 256) = hdSum l from hE)
  clear hE hb hb2
  generalize hdSum l = H at *
  have c9 := bc_at (l := H) (k := 9) (by omega)
  rw [h9] at c9
  rw [hp] at h9 c9
  have hK := p16_length H 26 0
  have hbK := hbH.p16 26 (x := 0) (by omega) (by omega)
  have h9K : gt (p16 H 26 0) 9 = 17 := (gt_p16_ne (by omega) (by omega)).trans h9
  have hE2 : mendK H 26 nz = p16 (p16 H 26 0) 26 (ck (cov (p16 H 26 0))) := by unfold mendK; rw [if_neg (by simp [hz])]
  rw [hE2]
  clear hE2
  have HK := Lib.hid (show (H.set 26 0).set (26 + 1) 0 = p16 H 26 0 from rfl)
  clear h9 hbH
  generalize p16 H 26 0 = K at *
  have c9K := bc_at (l := K) (k := 9) (by omega)
  rw [h9K] at c9K
  obtain ⟨S0, S1⟩ := ck_bd (cov K)
  have HD := Lib.hid (show p16 K 26 (ck (cov K)) = (K.set 26 (ck (cov K) / 256)).set (26 + 1) (ck (cov K) % 256) from rfl)
  have d0 : decide (28 ≤ (l.length : Int)) = true := by simp; omega
  have hlen : ((K.drop 20).take (l.length - 20)) = K.drop 20 := List.take_of_length_le (by simp; omega)
  have hcv : cov K = (K.drop 12).take 8 ++ [0, 17, ((l.length : Int) - 20) / 256, ((l.length : Int) - 20) % 256] ++ K.drop 20 := by unfold cov; rw [h9K, hK, hnH]; rfl
  have HC := Lib.hid (show bc (cov K) = [] ++ bc ((K.drop 12).take 8) ++ [.int .u8 0, .int .u8 17, .int .u8 (((l.length : Int) - 20) / 256), .int .u8 (((l.length : Int) - 20) % 256)] ++ bc ((K.drop 20).take (l.length - 20)) by rw [hlen, hcv]; simp [bc])
  have hCL : (cov K).length = 0 + 8 + 4 + (l.length - 20) := by rw [hcv]; simp; omega
  have hck := fun v w hv => rcksum_any (v := v) (l := cov K) w hv (by
    rw [hcv]
    refine ((hbK.part 12 8).append fun x hx => ?_).append (hbK.drop 20)
    simp only [List.mem_cons, List.not_mem_nil, or_false] at hx
    omega) (by omega)
  clear hcv hlen hbK h9K
  generalize ck (cov K) = S at *
  generalize cov K = C at *
  rw [HD.out]
  clear HD
  subst hz
  go_enter Tryd.func24, Tryd.ntmps24
  (repeat' (first | go_skip | ((first | ((with_reducible apply wp_move_bool); (focus rfl)) | ((with_reducible apply wp_move_boolG); (focus rfl); (focus rfl))); intro cb hcb; (cases cb <;> (first | (with_reducible exact no_tf hcb) | (with_reducible exact no_ft hcb) | skip)); all_goals ((try simp only [Act.put]); (try simp only [List.setIfInBounds_toArray, List.set_cons_zero, List.set_cons_succ]))) | (go_big_may; (first | ((with_reducible refine is_load ?_); (first | (refine own_ldP hO (h := ?_)) | (refine own_ld (h := ?_)))) | ((with_reducible refine is_store ?_); (first | (refine own_stRp (hO := hO) (h := ?_); clear hO; intro wv hO) | (refine own_st1p (hO := hO) (h := ?_); clear hO; intro wv hO) | (refine own_stR (hO := hO) (h := ?_); clear hO; intro wv hO) | (refine own_st1 (hO := hO) (h := ?_); clear hO; intro wv hO))) | ((with_reducible refine is_append ?_); (first | (refine own_ap (o := ⟨some 74, _, _, _, _, _⟩) (hO := hO) (h := ?_); clear hO; intro g74 c74 wv hO) | (refine own_ap (o := ⟨some 83, _, _, _, _, _⟩) (hO := hO) (h := ?_); clear hO; intro g83 c83 wv hO) | (refine own_ap (o := ⟨some 93, _, _, _, _, _⟩) (hO := hO) (h := ?_); clear hO; intro g93 c93 wv hO) | (refine own_ap (o := ⟨some 96, _, _, _, _, _⟩) (hO := hO) (h := ?_); clear hO; intro g96 c96 wv hO))) | (go_at_call 15; (rw [HM.out] at hO); refine (h3 _ (IsB.front (show IsB _ _ _ by unfold IsB; rw [hn]; exact hO.rowIs List.mem_cons_self) (by omega) (by omega))).mono ?_; rintro e wv ⟨rfl, hb2⟩; replace hO := hO.call hb2; clear hb2 h3) | ((with_reducible refine is_load ?_); (rw [HH.out] at hO); (refine own_ldW (hO := hO) (h := ?_))) | ((with_reducible refine is_build ?_); (rw [HK.out] at hO); ((with_reducible refine is_build ?_); (refine own_build0 (o := ⟨some 71, _, _, _, _, _⟩) hO (by rfl) rfl slice_u8 ?_); clear hO; intro n71 wv hO)) | ((with_reducible refine is_append ?_); (refine own_appendP (o := ⟨some 74, _, _, _, _, _⟩) hO rfl rfl slice_u8 rfl rfl (src_of_cells (IsB.cells (show IsB _ _ _ by unfold IsB; rw [hK, hnH]; exact hO.rowIs (by (repeat (first | exact List.mem_cons_self | refine List.mem_cons_of_mem _ ?_)))) (i := 20) (n := l.length - 20) (c' := c - 20) (by omega) (by omega)) (by simp [bc_length]; try omega)) (bc_one _) (fun _ => by repeat (first | exact UpdR.here | apply UpdR.there)) (by first | omega | (simp; omega)) (by unfold maxLen; first | omega | (simp; omega)) (by first | omega | (simp; done) | (simp; omega)) ?_); clear hO; intro g74 c74 wv hO; (try simp only [Nat.zero_add, List.nil_append] at hO)) | ((with_reducible refine is_load ?_); (refine own_ldW (hO := hO) (h := ?_))) | ((with_reducible refine is_store ?_); (refine own_stW (hO := hO) (h := ?_); clear hO; intro wv hO)))) | go_values | go_skip | go_guarded | go_step | go_upon | go_back | (simp only at *; go_simp) | (go_values <;> (try go_simp)) | (go_ite <;> go_prune <;> (try go_simp)) | (split <;> (first | (rename_i hx; exact (hx _ rfl).elim) | go_prune))))
  (try simp only [Act.put]); (try simp only [List.setIfInBounds_toArray, List.set_cons_zero, List.set_cons_succ])
  refine wp_region_any (by kernel_rfl) ?_
  replace hO := hO.drew
  refine wpAny_takePL 1 rfl (by kernel_rfl) (by kernel_rfl) (by kernel_rfl) (by intro c d v a w h; cases d <;> exact h) (by rfl) ?_
  (first | go_big_quiet_skip | (go_big_quiet_want; (go_big_quiet_op; (first | go_big_quiet_on | ((refine ⟨_, fun _ _ => rfl, ?_⟩); go_big_quiet_on))))); (refine wpQuiet_nil ?_); (try simp only [Act.put]); (try simp only [List.setIfInBounds_toArray, List.set_cons_zero, List.set_cons_succ])
  refine wpAny_takePL 2 rfl (by kernel_rfl) (by kernel_rfl) (by kernel_rfl) (by intro c d v a w h; cases d <;> exact h) (by rfl) ?_
  (first | go_big_quiet_skip | (go_big_quiet_want; (go_big_quiet_op; (first | go_big_quiet_on | ((refine ⟨_, fun _ _ => rfl, ?_⟩); go_big_quiet_on))))); (refine wpQuiet_nil ?_); (try simp only [Act.put]); (try simp only [List.setIfInBounds_toArray, List.set_cons_zero, List.set_cons_succ])
  refine wpAny_takePL 4 rfl (by kernel_rfl) (by kernel_rfl) (by kernel_rfl) (by intro c d v a w h; cases d <;> exact h) (by rfl) ?_
  (first | go_big_quiet_skip | (go_big_quiet_want; (go_big_quiet_op; (first | go_big_quiet_on | ((refine ⟨_, fun _ _ => rfl, ?_⟩); go_big_quiet_on))))); (refine wpQuiet_nil ?_); (try simp only [Act.put]); (try simp only [List.setIfInBounds_toArray, List.set_cons_zero, List.set_cons_succ])
  refine wpAny_takePL 5 rfl (by kernel_rfl) (by kernel_rfl) (by kernel_rfl) (by intro c d v a w h; cases d <;> exact h) (by rfl) ?_
  (first | go_big_quiet_skip | (go_big_quiet_want; (go_big_quiet_op; (first | go_big_quiet_on | ((refine ⟨_, fun _ _ => rfl, ?_⟩); go_big_quiet_on))))); (refine wpQuiet_nil ?_); (try simp only [Act.put]); (try simp only [List.setIfInBounds_toArray, List.set_cons_zero, List.set_cons_succ])
  refine wpAny_takePL 7 rfl (by kernel_rfl) (by kernel_rfl) (by kernel_rfl) (by intro c d v a w h; cases d <;> exact h) (by rfl) ?_
  (first | go_big_quiet_skip | (go_big_quiet_want; (go_big_quiet_op; (first | go_big_quiet_on | ((refine ⟨_, fun _ _ => rfl, ?_⟩); go_big_quiet_on))))); (refine wpQuiet_nil ?_); (try simp only [Act.put]); (try simp only [List.setIfInBounds_toArray, List.set_cons_zero, List.set_cons_succ])
  refine wpAny_takePL 8 rfl (by kernel_rfl) (by kernel_rfl) (by kernel_rfl) (by intro c d v a w h; cases d <;> exact h) (by rfl) ?_
  (first | go_big_quiet_skip | (go_big_quiet_want; (go_big_quiet_op; (first | go_big_quiet_on | ((refine ⟨_, fun _ _ => rfl, ?_⟩); go_big_quiet_on))))); (refine wpQuiet_nil ?_); (try simp only [Act.put]); (try simp only [List.setIfInBounds_toArray, List.set_cons_zero, List.set_cons_succ])
  refine wpAny_takePL 9 rfl (by kernel_rfl) (by kernel_rfl) (by kernel_rfl) (by intro c d v a w h; cases d <;> exact h) (by rfl) ?_
  (first | go_big_quiet_skip | (go_big_quiet_want; (go_big_quiet_op; (first | go_big_quiet_on | ((refine ⟨_, fun _ _ => rfl, ?_⟩); go_big_quiet_on))))); (refine wpQuiet_nil ?_); (try simp only [Act.put]); (try simp only [List.setIfInBounds_toArray, List.set_cons_zero, List.set_cons_succ])
  refine wpAny_takePL 10 rfl (by kernel_rfl) (by kernel_rfl) (by kernel_rfl) (by intro c d v a w h; cases d <;> exact h) (by rfl) ?_
  (first | go_big_quiet_skip | (go_big_quiet_want; (go_big_quiet_op; (first | go_big_quiet_on | ((refine ⟨_, fun _ _ => rfl, ?_⟩); go_big_quiet_on))))); (refine wpQuiet_nil ?_); (try simp only [Act.put]); (try simp only [List.setIfInBounds_toArray, List.set_cons_zero, List.set_cons_succ])
  refine wpAny_takePL 11 rfl (by kernel_rfl) (by kernel_rfl) (by kernel_rfl) (by intro c d v a w h; cases d <;> exact h) (by rfl) ?_
  (first | go_big_quiet_skip | (go_big_quiet_want; (go_big_quiet_op; (first | go_big_quiet_on | ((refine ⟨_, fun _ _ => rfl, ?_⟩); go_big_quiet_on))))); (refine wpQuiet_nil ?_); (try simp only [Act.put]); (try simp only [List.setIfInBounds_toArray, List.set_cons_zero, List.set_cons_succ])
  refine wpAny_takePL 14 rfl (by kernel_rfl) (by kernel_rfl) (by kernel_rfl) (by intro c d v a w h; cases d <;> exact h) (by rfl) ?_
  (first | go_big_quiet_skip | (go_big_quiet_want; (go_big_quiet_op; (first | go_big_quiet_on | ((refine ⟨_, fun _ _ => rfl, ?_⟩); go_big_quiet_on))))); (refine wpQuiet_nil ?_); (try simp only [Act.put]); (try simp only [List.setIfInBounds_toArray, List.set_cons_zero, List.set_cons_succ])
  refine wpAny_takePL 15 rfl (by kernel_rfl) (by kernel_rfl) (by kernel_rfl) (by intro c d v a w h; cases d <;> exact h) (by rfl) ?_
  (first | go_big_quiet_skip | (go_big_quiet_want; (go_big_quiet_op; (first | go_big_quiet_on | ((refine ⟨_, fun _ _ => rfl, ?_⟩); go_big_quiet_on))))); (refine wpQuiet_nil ?_); (try simp only [Act.put]); (try simp only [List.setIfInBounds_toArray, List.set_cons_zero, List.set_cons_succ])
  refine wpAny_all (rs := [0, 6]) (by kernel_rfl) (by simp) (ord_cons ?_ (ord_cons ?_ ord_nil))
  rotate_left 2
  all_goals
    refine wpOp_of_listL rfl ?_
    (first | ((with_reducible refine is_load ?_); (first | (refine own_ld (h := ?_)))) | ((with_reducible refine is_store ?_); (first | (refine own_stR (hO := hO) (h := ?_); clear hO; intro wv hO) | (refine own_st1 (hO := hO) (h := ?_); clear hO; intro wv hO))) | ((with_reducible refine is_append ?_); (first | (refine own_ap (o := ⟨some 83, _, _, _, _, _⟩) (hO := hO) (h := ?_); clear hO; intro g83 c83 wv hO) | (refine own_ap (o := ⟨some 93, _, _, _, _, _⟩) (hO := hO) (h := ?_); clear hO; intro g93 c93 wv hO) | (refine own_ap (o := ⟨some 96, _, _, _, _, _⟩) (hO := hO) (h := ?_); clear hO; intro g96 c96 wv hO))) | ((with_reducible refine is_build ?_); (refine own_build0 (o := ⟨some 80, _, _, _, _, _⟩) hO (by rfl) rfl slice_u8 ?_); clear hO; intro n80 wv hO) | ((with_reducible refine is_append ?_); (refine own_appendP (o := ⟨some 83, _, _, _, _, _⟩) hO rfl rfl slice_u8 rfl rfl (src_of_cells (IsB.cells (show IsB _ _ _ by unfold IsB; rw [hK, hnH]; exact hO.rowIs (by (repeat (first | exact List.mem_cons_self | refine List.mem_cons_of_mem _ ?_)))) (i := 12) (n := 8) (c' := c - 12) (by omega) (by omega)) (by simp [bc_length]; try omega)) (bc_one _) (fun _ => by repeat (first | exact UpdR.here | apply UpdR.there)) (by first | omega | (simp; omega)) (by unfold maxLen; first | omega | (simp; omega)) (by first | omega | (simp; done) | (simp; omega)) ?_); clear hO; intro g83 c83 wv hO) | ((with_reducible refine is_build ?_); (refine' own_buildP (o := ⟨some 92, _, _, _, _, _⟩) [.int .u8 0, .int .u8 17, .int .u8 (((l.length : Int) - 20) / 256), .int .u8 (((l.length : Int) - 20) % 256)] hO (by rfl) rfl slice_u8 rfl rfl (by rfl) (by decide) (by decide) ?_); clear hO; intro n92 wv hO) | ((with_reducible refine is_append ?_); (refine own_appendP (o := ⟨some 96, _, _, _, _, _⟩) hO rfl rfl slice_u8 rfl rfl (src_of_cells (IsB.cells (show IsB _ _ _ by unfold IsB; rw [hK, hnH]; exact hO.rowIs (by (repeat (first | exact List.mem_cons_self | refine List.mem_cons_of_mem _ ?_)))) (i := 20) (n := l.length - 20) (c' := c - 20) (by omega) (by omega)) (by simp [bc_length]; try omega)) (bc_one _) (fun _ => by repeat (first | exact UpdR.here | apply UpdR.there)) (by first | omega | (simp; omega)) (by unfold maxLen; first | omega | (simp; omega)) (by first | omega | (simp; done) | (simp; omega)) ?_); clear hO; intro g96 c96 wv hO) | ((with_reducible refine is_load ?_); (refine own_ldW (hO := hO) (h := ?_))) | ((with_reducible refine is_store ?_); (refine own_stW (hO := hO) (h := ?_); clear hO; intro wv hO)) | ((refine wpList_step (fun K hK => ?_)); go_simp; (first | ((refine hK _ _ ?_); clear hK K)))); (try simp only [Act.put]); (try simp only [List.setIfInBounds_toArray, List.set_cons_zero, List.set_cons_succ])
    refine wpList_done (qk_intro ?_)
  refine wpAny_all (rs := [3, 6]) (by kernel_rfl) (by simp) (ord_cons ?_ (ord_cons ?_ ord_nil))
  rotate_left 2
  refine wpAny_all (rs := [0, 12]) (by kernel_rfl) (by simp) (ord_cons ?_ (ord_cons ?_ ord_nil))
  rotate_left 2
  all_goals
    refine wpOp_of_listL rfl ?_
    (first | ((with_reducible refine is_load ?_); (first | (refine own_ld (h := ?_)))) | ((with_reducible refine is_store ?_); (first | (refine own_stR (hO := hO) (h := ?_); clear hO; intro wv hO) | (refine own_st1 (hO := hO) (h := ?_); clear hO; intro wv hO))) | ((with_reducible refine is_append ?_); (first | (refine own_ap (o := ⟨some 83, _, _, _, _, _⟩) (hO := hO) (h := ?_); clear hO; intro g83 c83 wv hO) | (refine own_ap (o := ⟨some 93, _, _, _, _, _⟩) (hO := hO) (h := ?_); clear hO; intro g93 c93 wv hO) | (refine own_ap (o := ⟨some 96, _, _, _, _, _⟩) (hO := hO) (h := ?_); clear hO; intro g96 c96 wv hO))) | ((with_reducible refine is_build ?_); (refine own_build0 (o := ⟨some 80, _, _, _, _, _⟩) hO (by rfl) rfl slice_u8 ?_); clear hO; intro n80 wv hO) | ((with_reducible refine is_append ?_); (refine own_appendP (o := ⟨some 83, _, _, _, _, _⟩) hO rfl rfl slice_u8 rfl rfl (src_of_cells (IsB.cells (show IsB _ _ _ by unfold IsB; rw [hK, hnH]; exact hO.rowIs (by (repeat (first | exact List.mem_cons_self | refine List.mem_cons_of_mem _ ?_)))) (i := 12) (n := 8) (c' := c - 12) (by omega) (by omega)) (by simp [bc_length]; try omega)) (bc_one _) (fun _ => by repeat (first | exact UpdR.here | apply UpdR.there)) (by first | omega | (simp; omega)) (by unfold maxLen; first | omega | (simp; omega)) (by first | omega | (simp; done) | (simp; omega)) ?_); clear hO; intro g83 c83 wv hO) | ((with_reducible refine is_build ?_); (refine' own_buildP (o := ⟨some 92, _, _, _, _, _⟩) [.int .u8 0, .int .u8 17, .int .u8 (((l.length : Int) - 20) / 256), .int .u8 (((l.length : Int) - 20) % 256)] hO (by rfl) rfl slice_u8 rfl rfl (by rfl) (by decide) (by decide) ?_); clear hO; intro n92 wv hO) | ((with_reducible refine is_append ?_); (refine own_appendP (o := ⟨some 96, _, _, _, _, _⟩) hO rfl rfl slice_u8 rfl rfl (src_of_cells (IsB.cells (show IsB _ _ _ by unfold IsB; rw [hK, hnH]; exact hO.rowIs (by (repeat (first | exact List.mem_cons_self | refine List.mem_cons_of_mem _ ?_)))) (i := 20) (n := l.length - 20) (c' := c - 20) (by omega) (by omega)) (by simp [bc_length]; try omega)) (bc_one _) (fun _ => by repeat (first | exact UpdR.here | apply UpdR.there)) (by first | omega | (simp; omega)) (by unfold maxLen; first | omega | (simp; omega)) (by first | omega | (simp; done) | (simp; omega)) ?_); clear hO; intro g96 c96 wv hO) | ((with_reducible refine is_load ?_); (refine own_ldW (hO := hO) (h := ?_))) | ((with_reducible refine is_store ?_); (refine own_stW (hO := hO) (h := ?_); clear hO; intro wv hO)) | ((refine wpList_step (fun K hK => ?_)); go_simp; (first | ((refine hK _ _ ?_); clear hK K)))); (try simp only [Act.put]); (try simp only [List.setIfInBounds_toArray, List.set_cons_zero, List.set_cons_succ])
    refine wpList_done (qk_intro ?_)
  refine wpAny_all (rs := [6]) (by kernel_rfl) (by simp) (ord_cons ?_ ord_nil)
  rotate_left 1
  refine wpAny_all (rs := [3, 12]) (by kernel_rfl) (by simp) (ord_cons ?_ (ord_cons ?_ ord_nil))
  rotate_left 2
  refine wpAny_all (rs := [3, 12]) (by kernel_rfl) (by simp) (ord_cons ?_ (ord_cons ?_ ord_nil))
  rotate_left 2
  refine wpAny_all (rs := [0]) (by kernel_rfl) (by simp) (ord_cons ?_ ord_nil)
  rotate_left 1
  all_goals
    refine wpOp_of_listL rfl ?_
    (first | ((with_reducible refine is_load ?_); (first | (refine own_ld (h := ?_)))) | ((with_reducible refine is_store ?_); (first | (refine own_stR (hO := hO) (h := ?_); clear hO; intro wv hO) | (refine own_st1 (hO := hO) (h := ?_); clear hO; intro wv hO))) | ((with_reducible refine is_append ?_); (first | (refine own_ap (o := ⟨some 83, _, _, _, _, _⟩) (hO := hO) (h := ?_); clear hO; intro g83 c83 wv hO) | (refine own_ap (o := ⟨some 93, _, _, _, _, _⟩) (hO := hO) (h := ?_); clear hO; intro g93 c93 wv hO) | (refine own_ap (o := ⟨some 96, _, _, _, _, _⟩) (hO := hO) (h := ?_); clear hO; intro g96 c96 wv hO))) | ((with_reducible refine is_build ?_); (refine own_build0 (o := ⟨some 80, _, _, _, _, _⟩) hO (by rfl) rfl slice_u8 ?_); clear hO; intro n80 wv hO) | ((with_reducible refine is_append ?_); (refine own_appendP (o := ⟨some 83, _, _, _, _, _⟩) hO rfl rfl slice_u8 rfl rfl (src_of_cells (IsB.cells (show IsB _ _ _ by unfold IsB; rw [hK, hnH]; exact hO.rowIs (by (repeat (first | exact List.mem_cons_self | refine List.mem_cons_of_mem _ ?_)))) (i := 12) (n := 8) (c' := c - 12) (by omega) (by omega)) (by simp [bc_length]; try omega)) (bc_one _) (fun _ => by repeat (first | exact UpdR.here | apply UpdR.there)) (by first | omega | (simp; omega)) (by unfold maxLen; first | omega | (simp; omega)) (by first | omega | (simp; done) | (simp; omega)) ?_); clear hO; intro g83 c83 wv hO) | ((with_reducible refine is_build ?_); (refine' own_buildP (o := ⟨some 92, _, _, _, _, _⟩) [.int .u8 0, .int .u8 17, .int .u8 (((l.length : Int) - 20) / 256), .int .u8 (((l.length : Int) - 20) % 256)] hO (by rfl) rfl slice_u8 rfl rfl (by rfl) (by decide) (by decide) ?_); clear hO; intro n92 wv hO) | ((with_reducible refine is_append ?_); (refine own_appendP (o := ⟨some 96, _, _, _, _, _⟩) hO rfl rfl slice_u8 rfl rfl (src_of_cells (IsB.cells (show IsB _ _ _ by unfold IsB; rw [hK, hnH]; exact hO.rowIs (by (repeat (first | exact List.mem_cons_self | refine List.mem_cons_of_mem _ ?_)))) (i := 20) (n := l.length - 20) (c' := c - 20) (by omega) (by omega)) (by simp [bc_length]; try omega)) (bc_one _) (fun _ => by repeat (first | exact UpdR.here | apply UpdR.there)) (by first | omega | (simp; omega)) (by unfold maxLen; first | omega | (simp; omega)) (by first | omega | (simp; done) | (simp; omega)) ?_); clear hO; intro g96 c96 wv hO) | ((with_reducible refine is_load ?_); (refine own_ldW (hO := hO) (h := ?_))) | ((with_reducible refine is_store ?_); (refine own_stW (hO := hO) (h := ?_); clear hO; intro wv hO)) | ((refine wpList_step (fun K hK => ?_)); go_simp; (first | ((refine hK _ _ ?_); clear hK K)))); (try simp only [Act.put]); (try simp only [List.setIfInBounds_toArray, List.set_cons_zero, List.set_cons_succ])
    refine wpList_done (qk_intro ?_)
  refine wpAny_all (rs := [12]) (by kernel_rfl) (by simp) (ord_cons ?_ ord_nil)
  rotate_left 1
  refine wpAny_all (rs := [12]) (by kernel_rfl) (by simp) (ord_cons ?_ ord_nil)
  rotate_left 1
  refine wpAny_all (rs := [3]) (by kernel_rfl) (by simp) (ord_cons ?_ ord_nil)
  rotate_left 1
  refine wpAny_all (rs := [12]) (by kernel_rfl) (by simp) (ord_cons ?_ ord_nil)
  rotate_left 1
  refine wpAny_all (rs := [3]) (by kernel_rfl) (by simp) (ord_cons ?_ ord_nil)
  rotate_left 1
  refine wpAny_all (rs := [3]) (by kernel_rfl) (by simp) (ord_cons ?_ ord_nil)
  rotate_left 1
  all_goals
    refine wpOp_of_listL rfl ?_
    (first | ((with_reducible refine is_load ?_); (first | (refine own_ld (h := ?_)))) | ((with_reducible refine is_store ?_); (first | (refine own_stR (hO := hO) (h := ?_); clear hO; intro wv hO) | (refine own_st1 (hO := hO) (h := ?_); clear hO; intro wv hO))) | ((with_reducible refine is_append ?_); (first | (refine own_ap (o := ⟨some 83, _, _, _, _, _⟩) (hO := hO) (h := ?_); clear hO; intro g83 c83 wv hO) | (refine own_ap (o := ⟨some 93, _, _, _, _, _⟩) (hO := hO) (h := ?_); clear hO; intro g93 c93 wv hO) | (refine own_ap (o := ⟨some 96, _, _, _, _, _⟩) (hO := hO) (h := ?_); clear hO; intro g96 c96 wv hO))) | ((with_reducible refine is_build ?_); (refine own_build0 (o := ⟨some 80, _, _, _, _, _⟩) hO (by rfl) rfl slice_u8 ?_); clear hO; intro n80 wv hO) | ((with_reducible refine is_append ?_); (refine own_appendP (o := ⟨some 83, _, _, _, _, _⟩) hO rfl rfl slice_u8 rfl rfl (src_of_cells (IsB.cells (show IsB _ _ _ by unfold IsB; rw [hK, hnH]; exact hO.rowIs (by (repeat (first | exact List.mem_cons_self | refine List.mem_cons_of_mem _ ?_)))) (i := 12) (n := 8) (c' := c - 12) (by omega) (by omega)) (by simp [bc_length]; try omega)) (bc_one _) (fun _ => by repeat (first | exact UpdR.here | apply UpdR.there)) (by first | omega | (simp; omega)) (by unfold maxLen; first | omega | (simp; omega)) (by first | omega | (simp; done) | (simp; omega)) ?_); clear hO; intro g83 c83 wv hO) | ((with_reducible refine is_build ?_); (refine' own_buildP (o := ⟨some 92, _, _, _, _, _⟩) [.int .u8 0, .int .u8 17, .int .u8 (((l.length : Int) - 20) / 256), .int .u8 (((l.length : Int) - 20) % 256)] hO (by rfl) rfl slice_u8 rfl rfl (by rfl) (by decide) (by decide) ?_); clear hO; intro n92 wv hO) | ((with_reducible refine is_append ?_); (refine own_appendP (o := ⟨some 96, _, _, _, _, _⟩) hO rfl rfl slice_u8 rfl rfl (src_of_cells (IsB.cells (show IsB _ _ _ by unfold IsB; rw [hK, hnH]; exact hO.rowIs (by (repeat (first | exact List.mem_cons_self | refine List.mem_cons_of_mem _ ?_)))) (i := 20) (n := l.length - 20) (c' := c - 20) (by omega) (by omega)) (by simp [bc_length]; try omega)) (bc_one _) (fun _ => by repeat (first | exact UpdR.here | apply UpdR.there)) (by first | omega | (simp; omega)) (by unfold maxLen; first | omega | (simp; omega)) (by first | omega | (simp; done) | (simp; omega)) ?_); clear hO; intro g96 c96 wv hO) | ((with_reducible refine is_load ?_); (refine own_ldW (hO := hO) (h := ?_))) | ((with_reducible refine is_store ?_); (refine own_stW (hO := hO) (h := ?_); clear hO; intro wv hO)) | ((refine wpList_step (fun K hK => ?_)); go_simp; (first | ((refine hK _ _ ?_); clear hK K)))); (try simp only [Act.put]); (try simp only [List.setIfInBounds_toArray, List.set_cons_zero, List.set_cons_succ])
    refine wpList_done (qk_intro ?_)
  refine wpAny_all (rs := [13]) (by kernel_rfl) (by simp) (ord_cons ?_ ord_nil)
  rotate_left 1
  refine wpAny_all (rs := [13]) (by kernel_rfl) (by simp) (ord_cons ?_ ord_nil)
  rotate_left 1
  refine wpAny_all (rs := [13]) (by kernel_rfl) (by simp) (ord_cons ?_ ord_nil)
  rotate_left 1
  refine wpAny_all (rs := [13]) (by kernel_rfl) (by simp) (ord_cons ?_ ord_nil)
  rotate_left 1
  refine wpAny_all (rs := [13]) (by kernel_rfl) (by simp) (ord_cons ?_ ord_nil)
  rotate_left 1
  refine wpAny_all (rs := [13]) (by kernel_rfl) (by simp) (ord_cons ?_ ord_nil)
  rotate_left 1
  all_goals
    refine wpOp_of_listL rfl ?_
    (first | ((with_reducible refine is_load ?_); (first | (refine own_ld (h := ?_)))) | ((with_reducible refine is_store ?_); (first | (refine own_stR (hO := hO) (h := ?_); clear hO; intro wv hO) | (refine own_st1 (hO := hO) (h := ?_); clear hO; intro wv hO))) | ((with_reducible refine is_append ?_); (first | (refine own_ap (o := ⟨some 83, _, _, _, _, _⟩) (hO := hO) (h := ?_); clear hO; intro g83 c83 wv hO) | (refine own_ap (o := ⟨some 93, _, _, _, _, _⟩) (hO := hO) (h := ?_); clear hO; intro g93 c93 wv hO) | (refine own_ap (o := ⟨some 96, _, _, _, _, _⟩) (hO := hO) (h := ?_); clear hO; intro g96 c96 wv hO))) | ((with_reducible refine is_build ?_); (refine own_build0 (o := ⟨some 80, _, _, _, _, _⟩) hO (by rfl) rfl slice_u8 ?_); clear hO; intro n80 wv hO) | ((with_reducible refine is_append ?_); (refine own_appendP (o := ⟨some 83, _, _, _, _, _⟩) hO rfl rfl slice_u8 rfl rfl (src_of_cells (IsB.cells (show IsB _ _ _ by unfold IsB; rw [hK, hnH]; exact hO.rowIs (by (repeat (first | exact List.mem_cons_self | refine List.mem_cons_of_mem _ ?_)))) (i := 12) (n := 8) (c' := c - 12) (by omega) (by omega)) (by simp [bc_length]; try omega)) (bc_one _) (fun _ => by repeat (first | exact UpdR.here | apply UpdR.there)) (by first | omega | (simp; omega)) (by unfold maxLen; first | omega | (simp; omega)) (by first | omega | (simp; done) | (simp; omega)) ?_); clear hO; intro g83 c83 wv hO) | ((with_reducible refine is_build ?_); (refine' own_buildP (o := ⟨some 92, _, _, _, _, _⟩) [.int .u8 0, .int .u8 17, .int .u8 (((l.length : Int) - 20) / 256), .int .u8 (((l.length : Int) - 20) % 256)] hO (by rfl) rfl slice_u8 rfl rfl (by rfl) (by decide) (by decide) ?_); clear hO; intro n92 wv hO) | ((with_reducible refine is_append ?_); (refine own_appendP (o := ⟨some 96, _, _, _, _, _⟩) hO rfl rfl slice_u8 rfl rfl (src_of_cells (IsB.cells (show IsB _ _ _ by unfold IsB; rw [hK, hnH]; exact hO.rowIs (by (repeat (first | exact List.mem_cons_self | refine List.mem_cons_of_mem _ ?_)))) (i := 20) (n := l.length - 20) (c' := c - 20) (by omega) (by omega)) (by simp [bc_length]; try omega)) (bc_one _) (fun _ => by repeat (first | exact UpdR.here | apply UpdR.there)) (by first | omega | (simp; omega)) (by unfold maxLen; first | omega | (simp; omega)) (by first | omega | (simp; done) | (simp; omega)) ?_); clear hO; intro g96 c96 wv hO) | ((with_reducible refine is_load ?_); (refine own_ldW (hO := hO) (h := ?_))) | ((with_reducible refine is_store ?_); (refine own_stW (hO := hO) (h := ?_); clear hO; intro wv hO)) | ((refine wpList_step (fun K hK => ?_)); go_simp; (first | ((refine hK _ _ ?_); clear hK K)))); (try simp only [Act.put]); (try simp only [List.setIfInBounds_toArray, List.set_cons_zero, List.set_cons_succ])
    refine wpList_done (qk_intro ?_)
  refine wpAny_all (rs := [16]) (by kernel_rfl) (by simp) (ord_cons ?_ ord_nil)
  rotate_left 1
  refine wpAny_all (rs := [16]) (by kernel_rfl) (by simp) (ord_cons ?_ ord_nil)
  rotate_left 1
  refine wpAny_all (rs := [16]) (by kernel_rfl) (by simp) (ord_cons ?_ ord_nil)
  rotate_left 1
  refine wpAny_all (rs := [16]) (by kernel_rfl) (by simp) (ord_cons ?_ ord_nil)
  rotate_left 1
  refine wpAny_all (rs := [16]) (by kernel_rfl) (by simp) (ord_cons ?_ ord_nil)
  rotate_left 1
  refine wpAny_all (rs := [16]) (by kernel_rfl) (by simp) (ord_cons ?_ ord_nil)
  rotate_left 1
  all_goals
    refine wpOp_of_listL rfl ?_
    (first | ((with_reducible refine is_load ?_); (first | (refine own_ld (h := ?_)))) | ((with_reducible refine is_store ?_); (first | (refine own_stR (hO := hO) (h := ?_); clear hO; intro wv hO) | (refine own_st1 (hO := hO) (h := ?_); clear hO; intro wv hO))) | ((with_reducible refine is_append ?_); (first | (refine own_ap (o := ⟨some 83, _, _, _, _, _⟩) (hO := hO) (h := ?_); clear hO; intro g83 c83 wv hO) | (refine own_ap (o := ⟨some 93, _, _, _, _, _⟩) (hO := hO) (h := ?_); clear hO; intro g93 c93 wv hO) | (refine own_ap (o := ⟨some 96, _, _, _, _, _⟩) (hO := hO) (h := ?_); clear hO; intro g96 c96 wv hO))) | ((with_reducible refine is_build ?_); (refine own_build0 (o := ⟨some 80, _, _, _, _, _⟩) hO (by rfl) rfl slice_u8 ?_); clear hO; intro n80 wv hO) | ((with_reducible refine is_append ?_); (refine own_appendP (o := ⟨some 83, _, _, _, _, _⟩) hO rfl rfl slice_u8 rfl rfl (src_of_cells (IsB.cells (show IsB _ _ _ by unfold IsB; rw [hK, hnH]; exact hO.rowIs (by (repeat (first | exact List.mem_cons_self | refine List.mem_cons_of_mem _ ?_)))) (i := 12) (n := 8) (c' := c - 12) (by omega) (by omega)) (by simp [bc_length]; try omega)) (bc_one _) (fun _ => by repeat (first | exact UpdR.here | apply UpdR.there)) (by first | omega | (simp; omega)) (by unfold maxLen; first | omega | (simp; omega)) (by first | omega | (simp; done) | (simp; omega)) ?_); clear hO; intro g83 c83 wv hO) | ((with_reducible refine is_build ?_); (refine' own_buildP (o := ⟨some 92, _, _, _, _, _⟩) [.int .u8 0, .int .u8 17, .int .u8 (((l.length : Int) - 20) / 256), .int .u8 (((l.length : Int) - 20) % 256)] hO (by rfl) rfl slice_u8 rfl rfl (by rfl) (by decide) (by decide) ?_); clear hO; intro n92 wv hO) | ((with_reducible refine is_append ?_); (refine own_appendP (o := ⟨some 96, _, _, _, _, _⟩) hO rfl rfl slice_u8 rfl rfl (src_of_cells (IsB.cells (show IsB _ _ _ by unfold IsB; rw [hK, hnH]; exact hO.rowIs (by (repeat (first | exact List.mem_cons_self | refine List.mem_cons_of_mem _ ?_)))) (i := 20) (n := l.length - 20) (c' := c - 20) (by omega) (by omega)) (by simp [bc_length]; try omega)) (bc_one _) (fun _ => by repeat (first | exact UpdR.here | apply UpdR.there)) (by first | omega | (simp; omega)) (by unfold maxLen; first | omega | (simp; omega)) (by first | omega | (simp; done) | (simp; omega)) ?_); clear hO; intro g96 c96 wv hO) | ((with_reducible refine is_load ?_); (refine own_ldW (hO := hO) (h := ?_))) | ((with_reducible refine is_store ?_); (refine own_stW (hO := hO) (h := ?_); clear hO; intro wv hO)) | ((refine wpList_step (fun K hK => ?_)); go_simp; (first | ((refine hK _ _ ?_); clear hK K)))); (try simp only [Act.put]); (try simp only [List.setIfInBounds_toArray, List.set_cons_zero, List.set_cons_succ])
    refine wpList_done (qk_intro ?_)
  refine wpAny_all (rs := [17]) (by kernel_rfl) (by simp) (ord_cons ?_ ord_nil)
  rotate_left 1
  refine wpAny_all (rs := [17]) (by kernel_rfl) (by simp) (ord_cons ?_ ord_nil)
  rotate_left 1
  refine wpAny_all (rs := [17]) (by kernel_rfl) (by simp) (ord_cons ?_ ord_nil)
  rotate_left 1
  refine wpAny_all (rs := [17]) (by kernel_rfl) (by simp) (ord_cons ?_ ord_nil)
  rotate_left 1
  refine wpAny_all (rs := [17]) (by kernel_rfl) (by simp) (ord_cons ?_ ord_nil)
  rotate_left 1
  refine wpAny_all (rs := [17]) (by kernel_rfl) (by simp) (ord_cons ?_ ord_nil)
  rotate_left 1
  all_goals
    refine wpOp_of_listL rfl ?_
    (first | ((with_reducible refine is_load ?_); (first | (refine own_ld (h := ?_)))) | ((with_reducible refine is_store ?_); (first | (refine own_stR (hO := hO) (h := ?_); clear hO; intro wv hO) | (refine own_st1 (hO := hO) (h := ?_); clear hO; intro wv hO))) | ((with_reducible refine is_append ?_); (first | (refine own_ap (o := ⟨some 83, _, _, _, _, _⟩) (hO := hO) (h := ?_); clear hO; intro g83 c83 wv hO) | (refine own_ap (o := ⟨some 93, _, _, _, _, _⟩) (hO := hO) (h := ?_); clear hO; intro g93 c93 wv hO) | (refine own_ap (o := ⟨some 96, _, _, _, _, _⟩) (hO := hO) (h := ?_); clear hO; intro g96 c96 wv hO))) | ((with_reducible refine is_build ?_); (refine own_build0 (o := ⟨some 80, _, _, _, _, _⟩) hO (by rfl) rfl slice_u8 ?_); clear hO; intro n80 wv hO) | ((with_reducible refine is_append ?_); (refine own_appendP (o := ⟨some 83, _, _, _, _, _⟩) hO rfl rfl slice_u8 rfl rfl (src_of_cells (IsB.cells (show IsB _ _ _ by unfold IsB; rw [hK, hnH]; exact hO.rowIs (by (repeat (first | exact List.mem_cons_self | refine List.mem_cons_of_mem _ ?_)))) (i := 12) (n := 8) (c' := c - 12) (by omega) (by omega)) (by simp [bc_length]; try omega)) (bc_one _) (fun _ => by repeat (first | exact UpdR.here | apply UpdR.there)) (by first | omega | (simp; omega)) (by unfold maxLen; first | omega | (simp; omega)) (by first | omega | (simp; done) | (simp; omega)) ?_); clear hO; intro g83 c83 wv hO) | ((with_reducible refine is_build ?_); (refine' own_buildP (o := ⟨some 92, _, _, _, _, _⟩) [.int .u8 0, .int .u8 17, .int .u8 (((l.length : Int) - 20) / 256), .int .u8 (((l.length : Int) - 20) % 256)] hO (by rfl) rfl slice_u8 rfl rfl (by rfl) (by decide) (by decide) ?_); clear hO; intro n92 wv hO) | ((with_reducible refine is_append ?_); (refine own_appendP (o := ⟨some 96, _, _, _, _, _⟩) hO rfl rfl slice_u8 rfl rfl (src_of_cells (IsB.cells (show IsB _ _ _ by unfold IsB; rw [hK, hnH]; exact hO.rowIs (by (repeat (first | exact List.mem_cons_self | refine List.mem_cons_of_mem _ ?_)))) (i := 20) (n := l.length - 20) (c' := c - 20) (by omega) (by omega)) (by simp [bc_length]; try omega)) (bc_one _) (fun _ => by repeat (first | exact UpdR.here | apply UpdR.there)) (by first | omega | (simp; omega)) (by unfold maxLen; first | omega | (simp; omega)) (by first | omega | (simp; done) | (simp; omega)) ?_); clear hO; intro g96 c96 wv hO) | ((with_reducible refine is_load ?_); (refine own_ldW (hO := hO) (h := ?_))) | ((with_reducible refine is_store ?_); (refine own_stW (hO := hO) (h := ?_); clear hO; intro wv hO)) | ((refine wpList_step (fun K hK => ?_)); go_simp; (first | ((refine hK _ _ ?_); clear hK K)))); (try simp only [Act.put]); (try simp only [List.setIfInBounds_toArray, List.set_cons_zero, List.set_cons_succ])
    refine wpList_done (qk_intro ?_)
  refine wpAny_done (by kernel_rfl) ?_ _
  rotate_left
  refine wpAny_done (by kernel_rfl) ?_ _
  rotate_left
  refine wpAny_done (by kernel_rfl) ?_ _
  rotate_left
  refine wpAny_done (by kernel_rfl) ?_ _
  rotate_left
  refine wpAny_done (by kernel_rfl) ?_ _
  rotate_left
  refine wpAny_done (by kernel_rfl) ?_ _
  rotate_left
  all_goals
    go_wp2_with (first | ((with_reducible refine is_load ?_); (first | (refine own_ldP hO (h := ?_)) | (refine own_ld (h := ?_)))) | ((with_reducible refine is_store ?_); (first | (refine own_stRp (hO := hO) (h := ?_); clear hO; intro wv hO) | (refine own_st1p (hO := hO) (h := ?_); clear hO; intro wv hO) | (refine own_stR (hO := hO) (h := ?_); clear hO; intro wv hO) | (refine own_st1 (hO := hO) (h := ?_); clear hO; intro wv hO))) | ((with_reducible refine is_append ?_); (first | (refine own_ap (o := ⟨some 74, _, _, _, _, _⟩) (hO := hO) (h := ?_); clear hO; intro g74 c74 wv hO) | (refine own_ap (o := ⟨some 83, _, _, _, _, _⟩) (hO := hO) (h := ?_); clear hO; intro g83 c83 wv hO) | (refine own_ap (o := ⟨some 93, _, _, _, _, _⟩) (hO := hO) (h := ?_); clear hO; intro g93 c93 wv hO) | (refine own_ap (o := ⟨some 96, _, _, _, _, _⟩) (hO := hO) (h := ?_); clear hO; intro g96 c96 wv hO))) | (go_at_call 15; refine (hck _ _ (show IsB _ _ _ by unfold IsB; rw [hCL, HC.out]; exact hO.rowIs List.mem_cons_self)).mono ?_; rintro e wv ⟨rfl, hb2⟩; replace hO := hO.call hb2; clear hb2 hck) | ((with_reducible refine is_load ?_); (refine own_ldW (hO := hO) (h := ?_))) | ((with_reducible refine is_store ?_); (refine own_stW (hO := hO) (h := ?_); clear hO; intro wv hO)))
    go_ret
    exact ⟨rfl, hO.keep, hO.row ⟨.slice (some ⟨g, 0, none⟩) l.length c, l.length, _, _, _⟩ (by (repeat (first | exact List.mem_cons_self | refine List.mem_cons_of_mem _ ?_)))⟩
theorem mend_any {v : Value} {l : List Int} (nz : Bool) (w : World) (hv : OwnsB w 0 v l) (hb : BOk l) (hk : 20 ≤ l.length) (hl : l.length ≤ 65536) :
    Calls Tryd.prog 24 #[v, .bool nz] w (WPost w v l (mendF l nz) v) := by
  by_cases h0 : mendAt l = 0
  · exact mend_none nz w hv hb hk hl h0
  have h1 := h0
  unfold mendAt at h1
  rcases proto_cases (gt l 9) with hp | hp | hp | ⟨q1, q2, q3⟩
  · rw [hp, if_pos b66] at h1
    by_cases hq : 40 ≤ l.length
    · exact mend_tcp nz w hv hb hk hl (by unfold mendAt; rw [hp, if_pos b66, if_pos hq]) hp hq
    · rw [if_neg hq] at h1; exact absurd rfl h1
  · rw [hp, if_neg (by decide), if_pos b1717] at h1
    by_cases hq : 28 ≤ l.length
    · have hA : mendAt l = 26 := by unfold mendAt; rw [hp, if_neg (by decide), if_pos b1717, if_pos hq]
      cases nz
      · exact mend_udp w hv hb hk hl hA hp hq
      · exact mend_zero w hv hb hk hl hA hp hq
    · rw [if_neg hq] at h1; exact absurd rfl h1
  · rw [hp, if_neg (by decide), if_neg (by decide), if_pos b11] at h1
    by_cases hq : 28 ≤ l.length
    · exact mend_icmp nz w hv hb hk hl (by unfold mendAt; rw [hp, if_neg (by decide), if_neg (by decide), if_pos b11, if_pos hq]) hp hq
    · rw [if_neg hq] at h1; exact absurd rfl h1
  · rw [q1, q2, q3] at h1; exact absurd rfl h1
end Go.Proofs.YtjfiipbjphabeaaDoor

/- What the program and the reference read is the same: 'reads', 'rewrites'. -/
namespace Go.Proofs.YtjfiipbjphabeaaDoor
open Go.RowKit
set_option maxRecDepth 100000

/-- a call that hands back a slice of its own: from then on it is only read -/
theorem Own.gainRo {M : List Nat} {w0 w w' : World} {X : List Chunk} {R : List Row} {S : List Ro} (hO : Own M w0 X R S w) (hb : Below w.heap.size w w') {v : Value} {k : Nat} {xs : List Value} (hv : IsCells w' v k xs) (hn : NewFrom w v) : Own M w0 X R (roC v xs ++ S) w' := by
  have h1 := hO.call hb
  rcases hv with ⟨rfl, _, _⟩ | ⟨g, o, c, rfl, _, hr⟩
  · exact h1
  · refine h1.addRo ⟨g, o, xs⟩ hr fun _ hm => ?_
    have h2 := hO.lt g hm
    have := hn g rfl
    omega
/-- a slice that is only read reads as it did -/
theorem Own.isRo {M : List Nat} {w0 w w1 : World} {X : List Chunk} {R : List Row} {S : List Ro} (hO : Own M w0 X R S w) {v : Value} {k : Nat} {xs : List Value} (hv : IsCells w1 v k xs) (hS : ∀ s ∈ roC v xs, s ∈ S) : IsCells w v k xs := by
  rcases hv with h | ⟨g, o, c, rfl, hc, _⟩
  · exact .inl h
  · exact .inr ⟨g, o, c, rfl, hc, hO.ro ⟨g, o, xs⟩ (hS _ (by simp [roC]))⟩
set_option maxHeartbeats 4000000 in
theorem preads_any {v : Value} {l : List Int} (w : World) (hw0 : IsB w v l) (hb : BOk l) (hl : l.length ≤ 140737488355328) :
    Calls Tryd.prog 21 #[v] w fun e w' => e = .returned (.bool true) ∧ Below w.heap.size w w' := by
  obtain ⟨⟨⟨s, d, p, sp, dp⟩, t, f, pl⟩, hK⟩ : ∃ K, decF l = K := ⟨_, rfl⟩
  obtain ⟨k, hk⟩ : ∃ k, errF l = k := ⟨_, rfl⟩
  have hd1 := fun w hv => (decode_any (v := v) (l := l) w hv hb hl).mono fun e w' h => dec_at h hK hk
  have hd2 := fun w hv => (rdecode_any (v := v) (l := l) w hv hb hl).mono fun e w' h => dec_at h hK hk
  have ho1 := fun w hv => opens_any (v := v) (l := l) w hv hb hl
  have ho2 := fun w hv => ropens_any (v := v) (l := l) w hv hb hl
  generalize opensF l = b at *
  have e1 : (k == k) = true := by simp
  have e2 : (b == b) = true := by cases b <;> rfl
  have hs := fun v1 v2 w k1 k2 => same_any s d p sp dp t f pl v1 v2 w k1 k2
  clear hK hk hb
  have hO := own_roC hw0
  obtain ⟨a, c, rfl, hc, -⟩ := IsCells.view hw0
  go_enter Tryd.func21, Tryd.ntmps21
  go_wp2_with (first | ((with_reducible refine is_load ?_); (first | (refine own_ldP hO (h := ?_)) | (refine own_ld (h := ?_)))) | ((with_reducible refine is_store ?_); (first | (refine own_stRp (hO := hO) (h := ?_); clear hO; intro wv hO) | (refine own_st1p (hO := hO) (h := ?_); clear hO; intro wv hO) | (refine own_stR (hO := hO) (h := ?_); clear hO; intro wv hO) | (refine own_st1 (hO := hO) (h := ?_); clear hO; intro wv hO))) | ((with_reducible refine is_alloc ?_); (first | (refine own_al (o := ⟨some 3, _, _, _, _, _⟩) (hO := hO) (h := ?_); clear hO; intro n3 wv hO) | (refine own_al (o := ⟨some 5, _, _, _, _, _⟩) (hO := hO) (h := ?_); clear hO; intro n5 wv hO))) | (go_at_call 28; refine (hd1 _ (hw0.below hO.keep.below)).mono ?_; rintro e wv ⟨v1, rfl, hv1, hn1, hb1⟩; replace hO := hO.gainRo hb1 hv1 hn1; clear hb1 hd1 hn1; obtain ⟨a1, c1, rfl, -⟩ := IsCells.view hv1) | (go_at_call 41; refine (hd2 _ (hw0.below hO.keep.below)).mono ?_; rintro e wv ⟨v2, rfl, hv2, hn2, hb1⟩; replace hO := hO.gainRo hb1 hv2 hn2; clear hb1 hd2 hn2; obtain ⟨a2, c2, rfl, -⟩ := IsCells.view hv2) | (go_at_call 29; refine (hs _ _ _ (hO.isRo hv1 (by intro s hs; repeat (first | exact hs | exact List.mem_append_left _ hs | apply List.mem_append_right | apply List.mem_cons_of_mem))) (hO.isRo hv2 (by intro s hs; repeat (first | exact hs | exact List.mem_append_left _ hs | apply List.mem_append_right | apply List.mem_cons_of_mem)))).mono ?_; rintro e wv ⟨rfl, hb⟩; replace hO := hO.call hb; clear hb) | (go_at_call 35; refine (ho1 _ (hw0.below hO.keep.below)).mono ?_; rintro e wv ⟨rfl, hb⟩; replace hO := hO.call hb; clear hb) | (go_at_call 44; refine (ho2 _ (hw0.below hO.keep.below)).mono ?_; rintro e wv ⟨rfl, hb⟩; replace hO := hO.call hb; clear hb) | ((with_reducible refine is_load ?_); (refine own_ldW (hO := hO) (h := ?_))) | ((with_reducible refine is_store ?_); (refine own_stW (hO := hO) (h := ?_); clear hO; intro wv hO)))
  go_ret
  exact ⟨rfl, hO.keep.below⟩
end Go.Proofs.YtjfiipbjphabeaaDoor

/- Valid packets of the tape, and bent ones. -/
namespace Go.Proofs.YtjfiipbjphabeaaDoor
open Go.RowKit
set_option maxRecDepth 100000

theorem encPost_cases {p : Pk} {w w' : World} {e : Ending} (hp : PkOk p) (h : EncPost (encE p) (encF p) w e w') :
    (∃ l g c, l.length ≤ c ∧ e = .returned (.tuple #[.slice (some ⟨g, 0, none⟩) l.length c, .int .i64 0]) ∧ w'.ownsRow w.heap.size 5 1 (.slice (some ⟨g, 0, none⟩) l.length c) l.length (bc l) ∧ Below w.heap.size w w' ∧ errF l = 0 ∧ BOk l ∧ 20 ≤ l.length ∧ l.length ≤ 576) ∨ (∃ k, (k != 0) = true ∧ EncPost k [] w e w') := by
  by_cases hE : encE p = 0
  · have hF : encF p = encB p := by unfold encF; rw [hE]; rfl
    rw [hE, hF] at h
    obtain ⟨h1, h2, h3, h4, h5⟩ := enc_valid hp hE
    obtain ⟨h6, h7, -⟩ := errF_ok.1 h1
    obtain ⟨v, e1, hr, hbl⟩ := h
    obtain ⟨g, c, rfl, hc⟩ := ownsPosN hr (by omega)
    exact .inl ⟨_, g, c, hc, e1, hr, hbl, h1, h3, h6, h7⟩
  · have hF : encF p = [] := by unfold encF; rw [if_neg (by simpa using hE)]
    rw [hF] at h
    exact .inr ⟨_, by simpa using hE, h⟩
theorem mend_turned {v : Value} {l : List Int} {x y : Int} (nz : Bool) (w : World) (hr : w.ownsRow 0 5 1 v l.length (bc (((l.set 1 x).set 5 y).set 6 64))) (hE : errF l = 0) (hb : BOk l) (x0 : 0 ≤ x) (x1 : x ≤ 255) (y0 : 0 ≤ y) (y1 : y ≤ 255) :
    Calls Tryd.prog 24 #[v, .bool nz] w fun e w' => e = .returned v ∧ Keep v.ownBlock.toList w w' ∧ ∃ l', l'.length = l.length ∧ w'.ownsRow 0 5 1 v l.length (bc l') ∧ errF l' = 0 ∧ BOk l' := by
  obtain ⟨h6, h7, -⟩ := errF_ok.1 hE
  obtain ⟨h1, h2⟩ := errF_turned nz hb hE x0 x1 y0 y1
  have hn : (((l.set 1 x).set 5 y).set 6 64).length = l.length := by simp
  refine (mend_any (l := ((l.set 1 x).set 5 y).set 6 64) nz w (by unfold OwnsB; rw [hn]; exact hr) h2 (by omega) (by omega)).mono fun e w' h => ?_
  obtain ⟨rfl, hk, hw⟩ := h
  rw [hn] at hw
  exact ⟨rfl, hk, _, (mendF_length _ _).trans hn, hw, h1, mendF_ok h2 nz⟩
/-- a valid packet -/
def ValP (w0 : World) : Value → World → Prop := fun v w => ∃ l, IsB w v l ∧ NewFrom w0 v ∧ errF l = 0 ∧ BOk l ∧ 20 ≤ l.length ∧ l.length ≤ 576
set_option maxHeartbeats 4000000 in
theorem pvalid_any {w : World} {n : Nat} {sl : Value} {zs : List Int} {i : Nat} (hZ : ZsOk sl zs) (hT : TapeIn w n sl zs i) :
    Calls Tryd.prog 23 #[.pointer (some ⟨n, 0, none⟩)] w (TPost w n sl zs (ValP w)) := by
  have hO := own_tape hT
  have hX : (⟨1, 2, 6, 3, 80⟩ : Hd).ok := ⟨by decide, by decide, by decide, by decide, by decide⟩
  have hi : iniF ⟨1, 2, 6, 3, 80⟩ = true := rfl
  obtain ⟨a1, a2, a3, a4, a5⟩ := prb_dec hX hi
  have hp2 := fun w => rprobe_any ⟨1, 2, 6, 3, 80⟩ w hX
  rw [(prbE_ok hi).1, prb_enc hi] at hp2
  clear a2 hX hi
  generalize prbF ⟨1, 2, 6, 3, 80⟩ = L at *
  go_enter Tryd.func23, Tryd.ntmps23
  (repeat' (first | go_skip | ((first | ((with_reducible apply wp_move_bool); (focus rfl)) | ((with_reducible apply wp_move_boolG); (focus rfl); (focus rfl))); intro cb hcb; (cases cb <;> (first | (with_reducible exact no_tf hcb) | (with_reducible exact no_ft hcb) | skip)); all_goals ((try simp only [Act.put]); (try simp only [List.setIfInBounds_toArray, List.set_cons_zero, List.set_cons_succ]))) | (go_big_may; (first | ((with_reducible refine is_load ?_); (first | (refine own_ldP hO (h := ?_)) | (refine own_ld (h := ?_)))) | ((with_reducible refine is_store ?_); (first | (refine own_stRp (hO := hO) (h := ?_); clear hO; intro wv hO) | (refine own_st1p (hO := hO) (h := ?_); clear hO; intro wv hO) | (refine own_stR (hO := hO) (h := ?_); clear hO; intro wv hO) | (refine own_st1 (hO := hO) (h := ?_); clear hO; intro wv hO))) | (go_at_call 25; (with_reducible refine (made_any hZ (hO.tapeIn (by (repeat (first | exact List.mem_cons_self | refine List.mem_cons_of_mem _ ?_))) (by (intro s hs; repeat (first | exact hs | exact List.mem_append_left _ hs | apply List.mem_append_right | apply List.mem_cons_of_mem))) hT.le)).mono ?_); rintro e wv ⟨v, i1, rfl, hv, hk, hT1⟩; replace hO := hO.after (by (repeat (first | exact Upd.here | apply Upd.there))) hk hT1.blk; replace hT := hT1; clear hT1 hk; obtain ⟨s, d, p, sp, dp, t, f, pl, pv, rfl, ho, hpl, hpv, hnv⟩ := hv) | (go_at_call 39; (with_reducible refine (next_pos _ hZ (hO.tapeIn (by (repeat (first | exact List.mem_cons_self | refine List.mem_cons_of_mem _ ?_))) (by (intro s hs; repeat (first | exact hs | exact List.mem_append_left _ hs | apply List.mem_append_right | apply List.mem_cons_of_mem))) hT.le) (by omega) (by omega)).mono ?_); rintro e wv ⟨v, i1, rfl, hv, hk, hT1⟩; replace hO := hO.after (by (repeat (first | exact Upd.here | apply Upd.there))) hk hT1.blk; replace hT := hT1; clear hT1 hk; obtain ⟨r, rfl, hr0, hr1⟩ := hv) | (go_at_call 27; (with_reducible refine (rencode_any s d p sp dp t f pl pv _ ho hpv (by omega)).mono ?_); rintro e wv hpost; rcases encPost_cases ho hpost with ⟨l, g2, c2, hc2, rfl, hrow, hb2, hE, hb, hl1, hl2⟩ | ⟨k, hk, ⟨v2, rfl, hrow, hb2⟩⟩ ; all_goals (clear hpost ho hpv hnv; replace hO := hO.gainRow hb2 hrow; clear hb2 hrow)) | (go_at_call 32; (with_reducible refine (hp2 _).mono ?_); rintro e wv ⟨v2, rfl, hrow, hb2⟩; replace hO := hO.gainRow hb2 hrow; obtain ⟨g2, c2, rfl, hc2⟩ := ownsPosN hrow (by omega); clear hb2 hrow) | (go_at_call 24; refine (mend_turned _ _ (hO.row _ List.mem_cons_self) (by assumption) (by assumption) (by omega) (by omega) (by omega) (by omega)).mono ?_; rintro e wv ⟨rfl, hk9, l', hn', hr', hE', hb'⟩; replace hO := hO.afterRow .here hk9 hr'; clear hk9 hr') | ((with_reducible refine is_load ?_); (refine own_ldW (hO := hO) (h := ?_))) | ((with_reducible refine is_store ?_); (refine own_stW (hO := hO) (h := ?_); clear hO; intro wv hO)))) | go_values | go_skip | go_guarded | go_step | go_upon | go_back | (simp only at *; go_simp) | (go_values <;> (try go_simp)) | (go_ite <;> go_prune <;> (try go_simp)) | (split <;> (first | (rename_i hx; exact (hx _ rfl).elim) | go_prune))))
  all_goals
    go_ret
    first
    | exact tpost hO (by (repeat (first | exact List.mem_cons_self | refine List.mem_cons_of_mem _ ?_))) (by (intro s hs; repeat (first | exact hs | exact List.mem_append_left _ hs | apply List.mem_append_right | apply List.mem_cons_of_mem))) hT.le ⟨l', (by unfold IsB; rw [hn']; exact hO.rowIs List.mem_cons_self), rowFreshT hO List.mem_cons_self (by (repeat (first | exact List.mem_cons_self | refine List.mem_cons_of_mem _ ?_))), hE', hb', by omega, by omega⟩
    | exact tpost hO (by (repeat (first | exact List.mem_cons_self | refine List.mem_cons_of_mem _ ?_))) (by (intro s hs; repeat (first | exact hs | exact List.mem_append_left _ hs | apply List.mem_append_right | apply List.mem_cons_of_mem))) hT.le ⟨l, hO.rowIs List.mem_cons_self, rowFreshT hO List.mem_cons_self (by (repeat (first | exact List.mem_cons_self | refine List.mem_cons_of_mem _ ?_))), hE, hb, hl1, hl2⟩
    | exact tpost hO (by (repeat (first | exact List.mem_cons_self | refine List.mem_cons_of_mem _ ?_))) (by (intro s hs; repeat (first | exact hs | exact List.mem_append_left _ hs | apply List.mem_append_right | apply List.mem_cons_of_mem))) hT.le ⟨L, hO.rowIs List.mem_cons_self, rowFreshT hO List.mem_cons_self (by (repeat (first | exact List.mem_cons_self | refine List.mem_cons_of_mem _ ?_))), a1, a3, a4, a5⟩
end Go.Proofs.YtjfiipbjphabeaaDoor

/- Bent packets of the tape. -/
namespace Go.Proofs.YtjfiipbjphabeaaDoor
open Go.RowKit
set_option maxRecDepth 100000

theorem pvalid2_any {w : World} {n : Nat} {sl : Value} {zs : List Int} {i : Nat} (hZ : ZsOk sl zs) (hT : TapeIn w n sl zs i) :
    Calls Tryd.prog 23 #[.pointer (some ⟨n, 0, none⟩)] w (TPost w n sl zs fun v w' => ∃ l g o c, v = .slice (some ⟨g, o, none⟩) l.length c ∧ l.length ≤ c ∧ IsB w' (.slice (some ⟨g, o, none⟩) l.length c) l ∧ w.heap.size ≤ g ∧ (Value.slice (some ⟨g, o, none⟩) l.length c).ownBlock ≠ some n ∧ errF l = 0 ∧ BOk l ∧ 20 ≤ l.length ∧ l.length ≤ 576) :=
  (pvalid_any hZ hT).mono fun _ _ h => h.mono fun v w' ⟨l, h1, h2, h3, h4, h5, h6⟩ => by
    obtain ⟨g, o, c, rfl, hc, hr⟩ := h1.resolve_left (fun e => by have := e.2.1; omega)
    have hg := h2 g rfl
    exact ⟨l, g, o, c, rfl, hc, .inr ⟨g, o, c, rfl, hc, hr⟩, hg, (fun e => by
      have := hT.blk.lt
      have e2 : g = n := Option.some.inj e
      omega), h3, h4, h5, h6⟩
/-- bytes -/
def BenP (w0 : World) : Value → World → Prop := fun v w => ∃ l, IsB w v l ∧ NewFrom w0 v ∧ BOk l ∧ l.length ≤ 577
def PNat (m : Nat) : Value → Prop := fun v => ∃ X : Nat, v = .int .i64 (X : Int) ∧ 0 ≤ X ∧ X ≤ m
theorem pnat {m : Nat} {a : Int} (h0 : 0 ≤ a) (h1 : a ≤ m) : PNat m (.int .i64 a) := ⟨a.toNat, by rw [Int.toNat_of_nonneg h0], by omega, by omega⟩
theorem own_tapeC {w : World} {n : Nat} {sl : Value} {zs : List Int} {i : Nat} {v : Value} {l : List Int} (hT : TapeIn w n sl zs i) (hv : IsB w v l) (hn : v.ownBlock ≠ some n) : Own [n] w [⟨n, tcs sl i, 64⟩] [] (roC v (bc l) ++ roS sl (ints zs)) w := by
  have h0 := own_tape hT
  rcases hv with ⟨rfl, _, _⟩ | ⟨g, o, c, rfl, _, hr⟩
  · exact h0
  · exact h0.addRo ⟨g, o, bc l⟩ hr (fun _ => by simp [excl]; intro e; exact hn (by simp [Value.ownBlock, e]))
theorem next_nat {w : World} {n : Nat} {sl : Value} {zs : List Int} {i : Nat} (m : Int) (hZ : ZsOk sl zs) (hT : TapeIn w n sl zs i) (h0 : 0 < m) (hm : m ≤ 9223372036854775807) :
    Calls Tryd.prog 39 #[.pointer (some ⟨n, 0, none⟩), .int .i64 m] w (TPost w n sl zs fun v _ => ∃ R : Nat, v = .int .i64 (R : Int) ∧ (R : Int) < m) :=
  (next_pos m hZ hT h0 hm).mono fun _ _ h => h.mono fun _ _ ⟨r, h1, h2, h3⟩ => ⟨r.toNat, by rw [Int.toNat_of_nonneg h2]; exact h1, by omega⟩
set_option maxHeartbeats 8000000 in
theorem bend_any {w : World} {n : Nat} {sl : Value} {zs : List Int} {i : Nat} {v : Value} {l : List Int} (hZ : ZsOk sl zs) (hT : TapeIn w n sl zs i) (hv : IsB w v l) (hn : v.ownBlock ≠ some n) (hb : BOk l) (h20 : 20 ≤ l.length) (hl : l.length ≤ 576) :
    Calls Tryd.prog 22 #[.pointer (some ⟨n, 0, none⟩), v] w (TPost w n sl zs (BenP w)) := by
  have hO := own_tapeC hT hv hn
  obtain ⟨a, c, rfl, hc, -, -, ha⟩ := IsCells.view hv
  obtain ⟨g0, o0, rfl⟩ := ha (by
    rintro rfl
    rcases hv with ⟨_, h, _⟩ | ⟨_, _, _, h, _⟩
    · omega
    · cases h)
  have hP : ∀ v ∈ [Value.int .i64 0, .int .i64 3, .int .i64 6, .int .i64 7, .int .i64 8, .int .i64 9, .int .i64 20, .int .i64 21, .int .i64 24, .int .i64 25, .int .i64 32, .int .i64 33, .int .i64 ((l.length : Int) - 1)], PNat 600 v := by repeat (first | exact all_nil | refine all_cons (pnat (by omega) (by omega)) ?_)
  go_enter Tryd.func22, Tryd.ntmps22
  go_wp2_with (first | ((with_reducible refine is_load ?_); (first | (refine own_ldP hO (h := ?_)) | (refine own_ld (h := ?_)))) | ((with_reducible refine is_store ?_); (first | (refine own_stRp (hO := hO) (h := ?_); clear hO; intro wv hO) | (refine own_st1p (hO := hO) (h := ?_); clear hO; intro wv hO) | (refine own_stR (hO := hO) (h := ?_); clear hO; intro wv hO) | (refine own_st1 (hO := hO) (h := ?_); clear hO; intro wv hO))) | ((with_reducible refine is_build ?_); (first | (refine' own_build1 (o := ⟨some 47, _, _, _, _, _⟩) hO (by rfl) rfl rfl ?hu ?hf ?_; (case hu => (first | exact Tryd.underlying79 | exact und_Set)); (case hf => kernel_rfl); clear hO; intro n47 wv hO))) | ((with_reducible refine is_append ?_); (first | (refine own_ap (o := ⟨some 9, _, _, _, _, _⟩) (hO := hO) (h := ?_); clear hO; intro g9 c9 wv hO) | (refine own_ap (o := ⟨some 48, _, _, _, _, _⟩) (hO := hO) (h := ?_); clear hO; intro g48 c48 wv hO))) | ((with_reducible refine is_build ?_); (refine own_build0 (o := ⟨some 7, _, _, _, _, _⟩) hO (by rfl) rfl slice_u8 ?_); clear hO; intro n7 wv hO) | ((with_reducible refine is_append ?_); (refine own_appendP (o := ⟨some 9, _, _, _, _, _⟩) hO rfl rfl slice_u8 rfl rfl (src_of_cells (hO.isRo hv (by intro s hs; repeat (first | exact hs | exact List.mem_append_left _ hs | apply List.mem_append_right | apply List.mem_cons_of_mem))) (by simp [bc_length]; try omega)) (bc_one _) (fun _ => by repeat (first | exact UpdR.here | apply UpdR.there)) (by first | omega | (simp; omega)) (by unfold maxLen; first | omega | (simp; omega)) (by first | omega | (simp; done) | (simp; omega)) ?_); clear hO; intro g9 c9 wv hO; (try simp only [Nat.zero_add, List.nil_append] at hO)) | (go_at_call 39; (with_reducible refine (next_pos _ hZ (hO.tapeIn (by (repeat (first | exact List.mem_cons_self | refine List.mem_cons_of_mem _ ?_))) (by (intro s hs; repeat (first | exact hs | exact List.mem_append_left _ hs | apply List.mem_append_right | apply List.mem_cons_of_mem))) hT.le) (by omega) (by omega)).mono ?_); rintro e wv ⟨v, i1, rfl, hv, hk, hT1⟩; replace hO := hO.after (by (repeat (first | exact Upd.here | apply Upd.there))) hk hT1.blk; replace hT := hT1; clear hT1 hk; obtain ⟨r, rfl, hr0, hr1⟩ := hv) | ((with_reducible refine is_load ?_); (refine own_ldW (hO := hO) (h := ?_))) | ((with_reducible refine is_store ?_); (refine own_stW (hO := hO) (h := ?_); clear hO; intro wv hO)))
  have hc9 : l.length ≤ c9 := Own.rowCap hO List.mem_cons_self
  obtain ⟨q0, rfl⟩ := Int.eq_ofNat_of_zero_le hr0
  clear hv hn ha hc
  go_loopw [5] (fun q wr => ∃ (k : Nat) (m : List Int) (i2 : Nat), k ≤ 2 ∧ q = .int .i64 k ∧ m.length = l.length ∧ BOk m ∧ TapeIn wr n sl zs i2 ∧ Own [n] w [⟨n, tcs sl i2, 64⟩] [⟨.slice (some ⟨g9, 0, none⟩) l.length c9, l.length, bc m, 5, 1⟩] (roS sl (ints zs)) wr) (fun q _ => (intOf q).toNat)
  case atStart => exact ⟨q0, l, _, by omega, rfl, rfl, hb, (hO.tapeIn (by (repeat (first | exact List.mem_cons_self | refine List.mem_cons_of_mem _ ?_))) (by (intro s hs; repeat (first | exact hs | exact List.mem_append_left _ hs | apply List.mem_append_right | apply List.mem_cons_of_mem))) hT.le), hO.sub (.refl _) (.refl _) (fun s hs => List.mem_append_right _ hs)⟩
  case round =>
    clear hO hT hb
    obtain ⟨k, m, i2, hk, rfl, hm, hbm, hT, hO⟩ := hrel
    by_cases h0 : 0 < k
    · have d1 : decide (0 < (k : Int)) = true := by simp; omega
      (repeat' (first | go_skip | ((first | ((with_reducible apply wp_move_bool); (focus rfl)) | ((with_reducible apply wp_move_boolG); (focus rfl); (focus rfl))); intro cb hcb; (cases cb <;> (first | (with_reducible exact no_tf hcb) | (with_reducible exact no_ft hcb) | skip)); all_goals ((try simp only [Act.put]); (try simp only [List.setIfInBounds_toArray, List.set_cons_zero, List.set_cons_succ]))) | (go_big_may; (first | ((with_reducible refine is_load ?_); (first | (refine own_ldP hO (h := ?_)) | (refine own_ld (h := ?_)))) | ((with_reducible refine is_store ?_); (first | (refine own_stRp (hO := hO) (h := ?_); clear hO; intro wv hO) | (refine own_st1p (hO := hO) (h := ?_); clear hO; intro wv hO) | (refine own_stR (hO := hO) (h := ?_); clear hO; intro wv hO) | (refine own_st1 (hO := hO) (h := ?_); clear hO; intro wv hO))) | ((with_reducible refine is_build ?_); (first | (refine' own_build1 (o := ⟨some 47, _, _, _, _, _⟩) hO (by rfl) rfl rfl ?hu ?hf ?_; (case hu => (first | exact Tryd.underlying79 | exact und_Set)); (case hf => kernel_rfl); clear hO; intro n47 wv hO))) | ((with_reducible refine is_append ?_); (first | (refine own_ap (o := ⟨some 9, _, _, _, _, _⟩) (hO := hO) (h := ?_); clear hO; intro g9 c9 wv hO) | (refine own_ap (o := ⟨some 48, _, _, _, _, _⟩) (hO := hO) (h := ?_); clear hO; intro g48 c48 wv hO))) | (go_at_call 39; (with_reducible refine (next_nat _ hZ (hO.tapeIn (by (repeat (first | exact List.mem_cons_self | refine List.mem_cons_of_mem _ ?_))) (by (intro s hs; repeat (first | exact hs | exact List.mem_append_left _ hs | apply List.mem_append_right | apply List.mem_cons_of_mem))) hT.le) (by omega) (by omega)).mono ?_); rintro e wv ⟨v, i1, rfl, hv, hk, hT1⟩; replace hO := hO.after (by (repeat (first | exact Upd.here | apply Upd.there))) hk hT1.blk; replace hT := hT1; clear hT1 hk; obtain ⟨R, rfl, hR⟩ := hv) | ((with_reducible refine is_build ?_); (refine' own_buildP (o := ⟨some 19, _, _, _, _, _⟩) [.int .i64 0, .int .i64 3, .int .i64 6, .int .i64 7, .int .i64 8, .int .i64 9, .int .i64 20, .int .i64 21, .int .i64 24, .int .i64 25, .int .i64 32, .int .i64 33, .int .i64 ((l.length : Int) - 1)] hO (by rfl) rfl slice_int rfl rfl (by rfl) (by decide) (by decide) ?_); clear hO; intro n19 wv hO) | ((with_reducible refine is_load ?_); (refine' own_loadE (o := ⟨some 23, _, _, _, _, _⟩) hO (by rfl) rfl rfl ?ht ?hm ?hl ?_); (case ht => (with_reducible (first | exact one_u32 | exact one_int | exact one_u16 | exact one_u8 | exact one_ints | exact one_bool | exact one_bytes | exact one_u64 | exact one_set))); (case hm => (repeat (first | exact List.mem_cons_self | refine List.mem_cons_of_mem _ ?_))); (case hl => (first | (simp; done) | (simp; omega))); intro v hv; obtain ⟨x, rfl, hx, kx⟩ := hP v hv; clear hv) | ((with_reducible refine is_load ?_); (refine own_ldW (hO := hO) (h := ?_))) | ((with_reducible refine is_store ?_); (refine own_stW (hO := hO) (h := ?_); clear hO; intro wv hO)))) | go_values | go_skip | go_guarded | go_step | go_upon | go_back | (simp only at *; go_simp) | (go_values <;> (try go_simp)) | (go_ite <;> go_prune <;> (try go_simp)) | (split <;> (first | (rename_i hx; exact (hx _ rfl).elim) | go_prune))))
      all_goals
        go_roundw
        case rel =>
          first
          | exact ⟨k - 1, _, _, by omega, by congr 1; omega, (List.length_set ..).trans hm, hbm.set _ (by omega) (by omega), (hO.tapeIn (by (repeat (first | exact List.mem_cons_self | refine List.mem_cons_of_mem _ ?_))) (by (intro s hs; repeat (first | exact hs | exact List.mem_append_left _ hs | apply List.mem_append_right | apply List.mem_cons_of_mem))) hT.le), hO.sub (by repeat (first | exact List.Sublist.slnil | apply List.Sublist.cons_cons | apply List.Sublist.cons)) (.refl _) (fun _ h => h)⟩
          | exact ⟨k - 1, m, _, by omega, by congr 1; omega, hm, hbm, (hO.tapeIn (by (repeat (first | exact List.mem_cons_self | refine List.mem_cons_of_mem _ ?_))) (by (intro s hs; repeat (first | exact hs | exact List.mem_append_left _ hs | apply List.mem_append_right | apply List.mem_cons_of_mem))) hT.le), hO.sub (by repeat (first | exact List.Sublist.slnil | apply List.Sublist.cons_cons | apply List.Sublist.cons)) (.refl _) (fun _ h => h)⟩
        case measure => simp [intOf]; omega
    · have d1 : decide (0 < (k : Int)) = false := by simp; omega
      have hmm : (m ++ [(0 : Int)]).length = l.length + 1 := by simp [hm]
      have hmb : bc (m ++ [(0 : Int)]) = bc m ++ [.int .u8 0] := bc_append _ _
      (repeat' (first | go_skip | ((first | ((with_reducible apply wp_move_bool); (focus rfl)) | ((with_reducible apply wp_move_boolG); (focus rfl); (focus rfl))); intro cb hcb; (cases cb <;> (first | (with_reducible exact no_tf hcb) | (with_reducible exact no_ft hcb) | skip)); all_goals ((try simp only [Act.put]); (try simp only [List.setIfInBounds_toArray, List.set_cons_zero, List.set_cons_succ]))) | (go_big_may; (first | ((with_reducible refine is_load ?_); (first | (refine own_ldP hO (h := ?_)) | (refine own_ld (h := ?_)))) | ((with_reducible refine is_store ?_); (first | (refine own_stRp (hO := hO) (h := ?_); clear hO; intro wv hO) | (refine own_st1p (hO := hO) (h := ?_); clear hO; intro wv hO) | (refine own_stR (hO := hO) (h := ?_); clear hO; intro wv hO) | (refine own_st1 (hO := hO) (h := ?_); clear hO; intro wv hO))) | ((with_reducible refine is_build ?_); (first | (refine' own_build1 (o := ⟨some 47, _, _, _, _, _⟩) hO (by rfl) rfl rfl ?hu ?hf ?_; (case hu => (first | exact Tryd.underlying79 | exact und_Set)); (case hf => kernel_rfl); clear hO; intro n47 wv hO))) | ((with_reducible refine is_append ?_); (first | (refine own_ap (o := ⟨some 9, _, _, _, _, _⟩) (hO := hO) (h := ?_); clear hO; intro g9 c9 wv hO) | (refine own_ap (o := ⟨some 48, _, _, _, _, _⟩) (hO := hO) (h := ?_); clear hO; intro g48 c48 wv hO))) | (go_at_call 39; (with_reducible refine (next_nat _ hZ (hO.tapeIn (by (repeat (first | exact List.mem_cons_self | refine List.mem_cons_of_mem _ ?_))) (by (intro s hs; repeat (first | exact hs | exact List.mem_append_left _ hs | apply List.mem_append_right | apply List.mem_cons_of_mem))) hT.le) (by omega) (by omega)).mono ?_); rintro e wv ⟨v, i1, rfl, hv, hk, hT1⟩; replace hO := hO.after (by (repeat (first | exact Upd.here | apply Upd.there))) hk hT1.blk; replace hT := hT1; clear hT1 hk; obtain ⟨R, rfl, hR⟩ := hv) | ((with_reducible refine is_build ?_); (refine' own_buildP (o := ⟨some 47, _, _, _, _, _⟩) [.int .u8 0] hO (by rfl) rfl slice_u8 rfl rfl (by rfl) (by decide) (by decide) ?_); clear hO; intro n47 wv hO) | (go_at_call 24; refine (mend_any (l := m) _ _ (show OwnsB _ 0 _ m by unfold OwnsB; rw [hm]; exact hO.row _ List.mem_cons_self) hbm (by omega) (by omega)).mono ?_; rintro e wv ⟨rfl, hk9, hr'⟩; rw [hm] at hr'; replace hO := hO.afterRow .here hk9 hr'; clear hk9 hr') | ((with_reducible refine is_load ?_); (refine own_ldW (hO := hO) (h := ?_))) | ((with_reducible refine is_store ?_); (refine own_stW (hO := hO) (h := ?_); clear hO; intro wv hO)))) | go_values | go_skip | go_guarded | go_step | go_upon | go_back | (simp only at *; go_simp) | (go_values <;> (try go_simp)) | (go_ite <;> go_prune <;> (try go_simp)) | (split <;> (first | (rename_i hx; exact (hx _ rfl).elim) | go_prune))))
      all_goals
        go_ret
        first
        | exact tpost hO (by (repeat (first | exact List.mem_cons_self | refine List.mem_cons_of_mem _ ?_))) (by (intro s hs; repeat (first | exact hs | exact List.mem_append_left _ hs | apply List.mem_append_right | apply List.mem_cons_of_mem))) hT.le ⟨m.take R, IsB.front (show IsB _ (.slice (some ⟨g9, 0, none⟩) l.length c9) m by unfold IsB; rw [hm]; exact hO.rowIs List.mem_cons_self) (by omega) (by omega), (fun g hg => rowFreshT hO List.mem_cons_self (by (repeat (first | exact List.mem_cons_self | refine List.mem_cons_of_mem _ ?_))) g hg), hbm.take R, by simp; omega⟩
        | exact tpost hO (by (repeat (first | exact List.mem_cons_self | refine List.mem_cons_of_mem _ ?_))) (by (intro s hs; repeat (first | exact hs | exact List.mem_append_left _ hs | apply List.mem_append_right | apply List.mem_cons_of_mem))) hT.le (show BenP w (.slice (some ⟨g48, 0, none⟩) (l.length + 1) c48) _ from ⟨m ++ [(0 : Int)], by unfold IsB; rw [hmm, hmb]; exact hO.rowIs List.mem_cons_self, rowFreshT hO List.mem_cons_self (by (repeat (first | exact List.mem_cons_self | refine List.mem_cons_of_mem _ ?_))), hbm.append (fun x hx => by obtain rfl := List.mem_singleton.1 hx; omega), by simp; omega⟩)
        | exact tpost hO (by (repeat (first | exact List.mem_cons_self | refine List.mem_cons_of_mem _ ?_))) (by (intro s hs; repeat (first | exact hs | exact List.mem_append_left _ hs | apply List.mem_append_right | apply List.mem_cons_of_mem))) hT.le (show BenP w (.slice (some ⟨g9, 0, none⟩) l.length c9) _ from ⟨m, by unfold IsB; rw [hm]; exact hO.rowIs List.mem_cons_self, rowFreshT hO List.mem_cons_self (by (repeat (first | exact List.mem_cons_self | refine List.mem_cons_of_mem _ ?_))), hbm, by omega⟩)
        | exact tpost hO (by (repeat (first | exact List.mem_cons_self | refine List.mem_cons_of_mem _ ?_))) (by (intro s hs; repeat (first | exact hs | exact List.mem_append_left _ hs | apply List.mem_append_right | apply List.mem_cons_of_mem))) hT.le (show BenP w (.slice (some ⟨g9, 0, none⟩) l.length c9) _ from ⟨mendF m (((R : Int)) == 0), by unfold IsB; rw [mendF_length, hm]; exact hO.rowIs List.mem_cons_self, rowFreshT hO List.mem_cons_self (by (repeat (first | exact List.mem_cons_self | refine List.mem_cons_of_mem _ ?_))), mendF_ok hbm _, by rw [mendF_length]; omega⟩)
end Go.Proofs.YtjfiipbjphabeaaDoor
