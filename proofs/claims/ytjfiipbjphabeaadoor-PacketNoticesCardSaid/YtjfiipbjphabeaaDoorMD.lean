/- The checksums of packets are set, by the reference. -/
import Derived.Test.YtjfiipbjphabeaaDoorMC
namespace Go.Proofs.YtjfiipbjphabeaaDoor
open Go.RowKit
set_option maxRecDepth 100000

def sumsR (l : List Int) (keep : Bool) : List Int := if keep && (gt l 9 == 17) && (g16 l 26 == 0) then hdSum l else sumsF l
theorem sumsR_f (l : List Int) : sumsR l false = sumsF l := by unfold sumsR; simp only [Bool.false_and, Bool.false_eq_true, if_false]
theorem sumsR_ne {l : List Int} (keep : Bool) (h : (gt l 9 == 17) = false) : sumsR l keep = sumsF l := by unfold sumsR; rw [h]; simp only [Bool.and_false, Bool.false_and, Bool.false_eq_true, if_false]
theorem sumsR_nz {l : List Int} (keep : Bool) (h : (g16 l 26 == 0) = false) : sumsR l keep = sumsF l := by unfold sumsR; rw [h]; simp only [Bool.and_false, Bool.false_eq_true, if_false]
theorem sumsR_z {l : List Int} (h : (gt l 9 == 17) = true) (h2 : (g16 l 26 == 0) = true) : sumsR l true = hdSum l := by unfold sumsR; rw [h, h2]; simp only [Bool.and_true, if_true]
set_option maxHeartbeats 16000000 in
theorem sums_any {v : Value} {l : List Int} (keep : Bool) (w : World) (hv : OwnsB w 0 v l) (hb : BOk l) (hk : 20 ≤ l.length) (hl : l.length ≤ 65536) (hu : sumAtF (gt l 9) + 2 ≤ l.length) :
    Calls Tryd.prog 53 #[v, .bool keep] w (WPost w v l (sumsR l keep) (.tuple #[])) := by
  obtain ⟨g, c, rfl, hc⟩ := hv.pos (by omega)
  have hO := own_takeRow hv [] (by simp)
  clear hv
  have hsum := fun w => rsumAt_any (gt l 9) w
  have c9' := bc_at (l := l) (k := 9) (by omega)
  have hg := fun (_ : 28 ≤ l.length) w hv => num16_any (v := .slice (some ⟨g, 0, none⟩) l.length c) (l := l) 26 w hv hb (by omega) (by omega)
  rcases proto_cases (gt l 9) with hp | hp | hp | ⟨q1, q2, q3⟩
  · have hkeep := fun keep => sumsR_ne (l := l) keep (by rw [hp]; rfl)
    rw [hp, show sumAtF 6 = 36 from rfl] at hu
    rw [hp] at c9'
    rw [hp, show sumAtR 6 = 36 from rfl] at hsum
    replace hg := hg (by omega)
    cases keep
    · replace hkeep := hkeep false
      have h1 := fun w hv => set2_any (v := .slice (some ⟨g, 0, none⟩) l.length c) (l := l) 36 0 w hv (by omega) (by omega) (by omega) (by omega)
      have hn := p16_length l 36 0
      have hb2 := hb.p16 36 (x := 0) (by omega) (by omega)
      have c9 := bc_at (l := p16 l 36 0) (k := 9) (by rw [hn]; omega)
      rw [gt_p16_ne (by omega) (by omega), hp] at c9
      have hE : sumsR l false = hdSum (bdSum l 36 false) := by rw [hkeep]; unfold sumsF; rw [hp]; rfl
      unfold bdSum at hE
      clear hkeep
      generalize p16 l 36 0 = m at *
      have hB := fun w hv => covered_any (v := .slice (some ⟨g, 0, none⟩) l.length c) (l := m) w hv hb2 (by omega) (by omega)
      have hck := fun v w hv => rcksum_any (v := v) (l := cov m) w hv
      obtain ⟨s0, s1⟩ := ck_bd (cov m)
      generalize cov m = cl at *
      generalize ck cl = s at *
      cases hs : (s == 0)
      · have hE2 := Lib.hid (show sumsR l false = hdSum (p16 m 36 s) by rw [hE, hs]; rfl)
        have h2 := fun w hv => set2_any (v := .slice (some ⟨g, 0, none⟩) l.length c) (l := m) 36 s w hv (by omega) (by omega) (by omega) (by omega)
        have hn2 := (p16_length m 36 s).trans hn
        have hb3 := hb2.p16 36 (x := s) (by omega) (by omega)
        generalize p16 m 36 s = m2 at *
        have HN := Lib.hid hn
        have HN2 := Lib.hid hn2
        have h4 := fun w hv => set2_any (v := .slice (some ⟨g, 0, none⟩) l.length c) (l := m2) 10 0 w hv (by omega) (by omega) (by omega) (by omega)
        have hn3 := (p16_length m2 10 0).trans hn2
        have hb4 := hb3.p16 10 (x := 0) (by omega) (by omega)
        have hE4 : hdSum m2 = p16 (p16 m2 10 0) 10 (ck ((p16 m2 10 0).take 20)) := rfl
        generalize p16 m2 10 0 = m3 at *
        have h5 := fun w hv => rcksum_any (v := .slice (some ⟨g, 0, none⟩) 20 c) (l := m3.take 20) w hv (hb4.take 20) (by simp; omega)
        have h6 := fun w hv => set2_any (v := .slice (some ⟨g, 0, none⟩) l.length c) (l := m3) 10 (ck (m3.take 20)) w hv (by omega) (ck_bd _).1 (ck_bd _).2 (by omega)
        obtain ⟨t0, t1⟩ := ck_bd (m3.take 20)
        generalize ck (m3.take 20) = s3 at *
        have HN3 := Lib.hid hn3
        replace hE2 := Lib.hid (hE2.out.trans hE4)
        clear hn hn2 hn3 hb hb2 hb3 hb4 hE hE4 hp
        go_enter Tryd.func53, Tryd.ntmps53
        (repeat' (first | go_skip | ((first | ((with_reducible apply wp_move_bool); (focus rfl)) | ((with_reducible apply wp_move_boolG); (focus rfl); (focus rfl))); intro cb hcb; (cases cb <;> (first | (with_reducible exact no_tf hcb) | (with_reducible exact no_ft hcb) | skip)); all_goals ((try simp only [Act.put]); (try simp only [List.setIfInBounds_toArray, List.set_cons_zero, List.set_cons_succ]))) | (go_big_may; (first | ((with_reducible refine is_load ?_); (first | (refine own_ldP hO (h := ?_)) | (refine own_ld (h := ?_)))) | ((with_reducible refine is_store ?_); (first | (refine own_stRp (hO := hO) (h := ?_); clear hO; intro wv hO) | (refine own_st1p (hO := hO) (h := ?_); clear hO; intro wv hO) | (refine own_stR (hO := hO) (h := ?_); clear hO; intro wv hO) | (refine own_st1 (hO := hO) (h := ?_); clear hO; intro wv hO))) | (go_at_call 70; refine (hsum _).mono ?_; rintro e _ ⟨rfl, rfl⟩) | (go_at_call 63; refine (hg _ (show IsB _ _ _ by unfold IsB; exact hO.rowIs List.mem_cons_self)).mono ?_; rintro e wv ⟨rfl, hb⟩; replace hO := hO.call hb; clear hb) | (go_at_call 51; refine (h1 _ (hO.row _ List.mem_cons_self)).mono ?_; rintro e wv hw; obtain rfl := hw.1; replace hO := hO.afterRow .here hw.2.1 hw.2.2; clear hw h1) | (go_at_call 71; refine (hB _ (show IsB _ _ _ by unfold IsB; rw [HN.out]; exact hO.rowIs List.mem_cons_self)).mono ?_; rintro e wv ⟨v2, rfl, g1, g2, g3, hb2⟩; replace hO := hO.call hb2; clear hb2 hB) | (go_at_call 15; refine (hck _ _ g1 g2 (by omega)).mono ?_; rintro e wv ⟨rfl, hb2⟩; replace hO := hO.call hb2; clear hb2 hck) | (go_at_call 51; refine (h2 _ (by unfold OwnsB; rw [HN.out]; exact hO.row _ List.mem_cons_self)).mono ?_; rintro e wv hw; obtain rfl := hw.1; have hw2 := hw.2.2; rw [HN.out] at hw2; replace hO := hO.afterRow .here hw.2.1 hw2; clear hw hw2 h2) | (go_at_call 51; refine (h4 _ (by unfold OwnsB; rw [HN2.out]; exact hO.row _ List.mem_cons_self)).mono ?_; rintro e wv hw; obtain rfl := hw.1; have hw2 := hw.2.2; rw [HN2.out] at hw2; replace hO := hO.afterRow .here hw.2.1 hw2; clear hw hw2 h4) | (go_at_call 15; refine (h5 _ (IsB.front (show IsB _ _ _ by unfold IsB; rw [HN3.out]; exact hO.rowIs List.mem_cons_self) (by rw [HN3.out]; omega) (by omega))).mono ?_; rintro e wv ⟨rfl, hb⟩; replace hO := hO.call hb; clear hb) | (go_at_call 51; refine (h6 _ (by unfold OwnsB; rw [HN3.out]; exact hO.row _ List.mem_cons_self)).mono ?_; rintro e wv hw; obtain rfl := hw.1; have hw2 := hw.2.2; rw [HN3.out] at hw2; replace hO := hO.afterRow .here hw.2.1 hw2; clear hw hw2 h6) | ((with_reducible refine is_load ?_); (refine own_ldW (hO := hO) (h := ?_))) | ((with_reducible refine is_store ?_); (refine own_stW (hO := hO) (h := ?_); clear hO; intro wv hO)))) | go_values | go_skip | go_guarded | go_step | go_upon | go_back | (simp only at *; go_simp) | (go_values <;> (try go_simp)) | (go_ite <;> go_prune <;> (try go_simp)) | (split <;> (first | (rename_i hx; exact (hx _ rfl).elim) | go_prune))))
        go_end0
        exact ⟨rfl, hO.keep, by rw [hE2.out]; exact hO.row _ List.mem_cons_self⟩
      · have hE2 := Lib.hid (show sumsR l false = hdSum (p16 m 36 s) by rw [hE, hs]; rfl)
        have h2 := fun w hv => set2_any (v := .slice (some ⟨g, 0, none⟩) l.length c) (l := m) 36 s w hv (by omega) (by omega) (by omega) (by omega)
        have hn2 := (p16_length m 36 s).trans hn
        have hb3 := hb2.p16 36 (x := s) (by omega) (by omega)
        generalize p16 m 36 s = m2 at *
        have HN := Lib.hid hn
        have HN2 := Lib.hid hn2
        have h4 := fun w hv => set2_any (v := .slice (some ⟨g, 0, none⟩) l.length c) (l := m2) 10 0 w hv (by omega) (by omega) (by omega) (by omega)
        have hn3 := (p16_length m2 10 0).trans hn2
        have hb4 := hb3.p16 10 (x := 0) (by omega) (by omega)
        have hE4 : hdSum m2 = p16 (p16 m2 10 0) 10 (ck ((p16 m2 10 0).take 20)) := rfl
        generalize p16 m2 10 0 = m3 at *
        have h5 := fun w hv => rcksum_any (v := .slice (some ⟨g, 0, none⟩) 20 c) (l := m3.take 20) w hv (hb4.take 20) (by simp; omega)
        have h6 := fun w hv => set2_any (v := .slice (some ⟨g, 0, none⟩) l.length c) (l := m3) 10 (ck (m3.take 20)) w hv (by omega) (ck_bd _).1 (ck_bd _).2 (by omega)
        obtain ⟨t0, t1⟩ := ck_bd (m3.take 20)
        generalize ck (m3.take 20) = s3 at *
        have HN3 := Lib.hid hn3
        replace hE2 := Lib.hid (hE2.out.trans hE4)
        clear hn hn2 hn3 hb hb2 hb3 hb4 hE hE4 hp
        go_enter Tryd.func53, Tryd.ntmps53
        (repeat' (first | go_skip | ((first | ((with_reducible apply wp_move_bool); (focus rfl)) | ((with_reducible apply wp_move_boolG); (focus rfl); (focus rfl))); intro cb hcb; (cases cb <;> (first | (with_reducible exact no_tf hcb) | (with_reducible exact no_ft hcb) | skip)); all_goals ((try simp only [Act.put]); (try simp only [List.setIfInBounds_toArray, List.set_cons_zero, List.set_cons_succ]))) | (go_big_may; (first | ((with_reducible refine is_load ?_); (first | (refine own_ldP hO (h := ?_)) | (refine own_ld (h := ?_)))) | ((with_reducible refine is_store ?_); (first | (refine own_stRp (hO := hO) (h := ?_); clear hO; intro wv hO) | (refine own_st1p (hO := hO) (h := ?_); clear hO; intro wv hO) | (refine own_stR (hO := hO) (h := ?_); clear hO; intro wv hO) | (refine own_st1 (hO := hO) (h := ?_); clear hO; intro wv hO))) | (go_at_call 70; refine (hsum _).mono ?_; rintro e _ ⟨rfl, rfl⟩) | (go_at_call 63; refine (hg _ (show IsB _ _ _ by unfold IsB; exact hO.rowIs List.mem_cons_self)).mono ?_; rintro e wv ⟨rfl, hb⟩; replace hO := hO.call hb; clear hb) | (go_at_call 51; refine (h1 _ (hO.row _ List.mem_cons_self)).mono ?_; rintro e wv hw; obtain rfl := hw.1; replace hO := hO.afterRow .here hw.2.1 hw.2.2; clear hw h1) | (go_at_call 71; refine (hB _ (show IsB _ _ _ by unfold IsB; rw [HN.out]; exact hO.rowIs List.mem_cons_self)).mono ?_; rintro e wv ⟨v2, rfl, g1, g2, g3, hb2⟩; replace hO := hO.call hb2; clear hb2 hB) | (go_at_call 15; refine (hck _ _ g1 g2 (by omega)).mono ?_; rintro e wv ⟨rfl, hb2⟩; replace hO := hO.call hb2; clear hb2 hck) | (go_at_call 51; refine (h2 _ (by unfold OwnsB; rw [HN.out]; exact hO.row _ List.mem_cons_self)).mono ?_; rintro e wv hw; obtain rfl := hw.1; have hw2 := hw.2.2; rw [HN.out] at hw2; replace hO := hO.afterRow .here hw.2.1 hw2; clear hw hw2 h2) | (go_at_call 51; refine (h4 _ (by unfold OwnsB; rw [HN2.out]; exact hO.row _ List.mem_cons_self)).mono ?_; rintro e wv hw; obtain rfl := hw.1; have hw2 := hw.2.2; rw [HN2.out] at hw2; replace hO := hO.afterRow .here hw.2.1 hw2; clear hw hw2 h4) | (go_at_call 15; refine (h5 _ (IsB.front (show IsB _ _ _ by unfold IsB; rw [HN3.out]; exact hO.rowIs List.mem_cons_self) (by rw [HN3.out]; omega) (by omega))).mono ?_; rintro e wv ⟨rfl, hb⟩; replace hO := hO.call hb; clear hb) | (go_at_call 51; refine (h6 _ (by unfold OwnsB; rw [HN3.out]; exact hO.row _ List.mem_cons_self)).mono ?_; rintro e wv hw; obtain rfl := hw.1; have hw2 := hw.2.2; rw [HN3.out] at hw2; replace hO := hO.afterRow .here hw.2.1 hw2; clear hw hw2 h6) | ((with_reducible refine is_load ?_); (refine own_ldW (hO := hO) (h := ?_))) | ((with_reducible refine is_store ?_); (refine own_stW (hO := hO) (h := ?_); clear hO; intro wv hO)))) | go_values | go_skip | go_guarded | go_step | go_upon | go_back | (simp only at *; go_simp) | (go_values <;> (try go_simp)) | (go_ite <;> go_prune <;> (try go_simp)) | (split <;> (first | (rename_i hx; exact (hx _ rfl).elim) | go_prune))))
        go_end0
        exact ⟨rfl, hO.keep, by rw [hE2.out]; exact hO.row _ List.mem_cons_self⟩
    · replace hkeep := hkeep true
      have h1 := fun w hv => set2_any (v := .slice (some ⟨g, 0, none⟩) l.length c) (l := l) 36 0 w hv (by omega) (by omega) (by omega) (by omega)
      have hn := p16_length l 36 0
      have hb2 := hb.p16 36 (x := 0) (by omega) (by omega)
      have c9 := bc_at (l := p16 l 36 0) (k := 9) (by rw [hn]; omega)
      rw [gt_p16_ne (by omega) (by omega), hp] at c9
      have hE : sumsR l true = hdSum (bdSum l 36 false) := by rw [hkeep]; unfold sumsF; rw [hp]; rfl
      unfold bdSum at hE
      clear hkeep
      generalize p16 l 36 0 = m at *
      have hB := fun w hv => covered_any (v := .slice (some ⟨g, 0, none⟩) l.length c) (l := m) w hv hb2 (by omega) (by omega)
      have hck := fun v w hv => rcksum_any (v := v) (l := cov m) w hv
      obtain ⟨s0, s1⟩ := ck_bd (cov m)
      generalize cov m = cl at *
      generalize ck cl = s at *
      cases hs : (s == 0)
      · have hE2 := Lib.hid (show sumsR l true = hdSum (p16 m 36 s) by rw [hE, hs]; rfl)
        have h2 := fun w hv => set2_any (v := .slice (some ⟨g, 0, none⟩) l.length c) (l := m) 36 s w hv (by omega) (by omega) (by omega) (by omega)
        have hn2 := (p16_length m 36 s).trans hn
        have hb3 := hb2.p16 36 (x := s) (by omega) (by omega)
        generalize p16 m 36 s = m2 at *
        have HN := Lib.hid hn
        have HN2 := Lib.hid hn2
        have h4 := fun w hv => set2_any (v := .slice (some ⟨g, 0, none⟩) l.length c) (l := m2) 10 0 w hv (by omega) (by omega) (by omega) (by omega)
        have hn3 := (p16_length m2 10 0).trans hn2
        have hb4 := hb3.p16 10 (x := 0) (by omega) (by omega)
        have hE4 : hdSum m2 = p16 (p16 m2 10 0) 10 (ck ((p16 m2 10 0).take 20)) := rfl
        generalize p16 m2 10 0 = m3 at *
        have h5 := fun w hv => rcksum_any (v := .slice (some ⟨g, 0, none⟩) 20 c) (l := m3.take 20) w hv (hb4.take 20) (by simp; omega)
        have h6 := fun w hv => set2_any (v := .slice (some ⟨g, 0, none⟩) l.length c) (l := m3) 10 (ck (m3.take 20)) w hv (by omega) (ck_bd _).1 (ck_bd _).2 (by omega)
        obtain ⟨t0, t1⟩ := ck_bd (m3.take 20)
        generalize ck (m3.take 20) = s3 at *
        have HN3 := Lib.hid hn3
        replace hE2 := Lib.hid (hE2.out.trans hE4)
        clear hn hn2 hn3 hb hb2 hb3 hb4 hE hE4 hp
        go_enter Tryd.func53, Tryd.ntmps53
        (repeat' (first | go_skip | ((first | ((with_reducible apply wp_move_bool); (focus rfl)) | ((with_reducible apply wp_move_boolG); (focus rfl); (focus rfl))); intro cb hcb; (cases cb <;> (first | (with_reducible exact no_tf hcb) | (with_reducible exact no_ft hcb) | skip)); all_goals ((try simp only [Act.put]); (try simp only [List.setIfInBounds_toArray, List.set_cons_zero, List.set_cons_succ]))) | (go_big_may; (first | ((with_reducible refine is_load ?_); (first | (refine own_ldP hO (h := ?_)) | (refine own_ld (h := ?_)))) | ((with_reducible refine is_store ?_); (first | (refine own_stRp (hO := hO) (h := ?_); clear hO; intro wv hO) | (refine own_st1p (hO := hO) (h := ?_); clear hO; intro wv hO) | (refine own_stR (hO := hO) (h := ?_); clear hO; intro wv hO) | (refine own_st1 (hO := hO) (h := ?_); clear hO; intro wv hO))) | (go_at_call 70; refine (hsum _).mono ?_; rintro e _ ⟨rfl, rfl⟩) | (go_at_call 63; refine (hg _ (show IsB _ _ _ by unfold IsB; exact hO.rowIs List.mem_cons_self)).mono ?_; rintro e wv ⟨rfl, hb⟩; replace hO := hO.call hb; clear hb) | (go_at_call 51; refine (h1 _ (hO.row _ List.mem_cons_self)).mono ?_; rintro e wv hw; obtain rfl := hw.1; replace hO := hO.afterRow .here hw.2.1 hw.2.2; clear hw h1) | (go_at_call 71; refine (hB _ (show IsB _ _ _ by unfold IsB; rw [HN.out]; exact hO.rowIs List.mem_cons_self)).mono ?_; rintro e wv ⟨v2, rfl, g1, g2, g3, hb2⟩; replace hO := hO.call hb2; clear hb2 hB) | (go_at_call 15; refine (hck _ _ g1 g2 (by omega)).mono ?_; rintro e wv ⟨rfl, hb2⟩; replace hO := hO.call hb2; clear hb2 hck) | (go_at_call 51; refine (h2 _ (by unfold OwnsB; rw [HN.out]; exact hO.row _ List.mem_cons_self)).mono ?_; rintro e wv hw; obtain rfl := hw.1; have hw2 := hw.2.2; rw [HN.out] at hw2; replace hO := hO.afterRow .here hw.2.1 hw2; clear hw hw2 h2) | (go_at_call 51; refine (h4 _ (by unfold OwnsB; rw [HN2.out]; exact hO.row _ List.mem_cons_self)).mono ?_; rintro e wv hw; obtain rfl := hw.1; have hw2 := hw.2.2; rw [HN2.out] at hw2; replace hO := hO.afterRow .here hw.2.1 hw2; clear hw hw2 h4) | (go_at_call 15; refine (h5 _ (IsB.front (show IsB _ _ _ by unfold IsB; rw [HN3.out]; exact hO.rowIs List.mem_cons_self) (by rw [HN3.out]; omega) (by omega))).mono ?_; rintro e wv ⟨rfl, hb⟩; replace hO := hO.call hb; clear hb) | (go_at_call 51; refine (h6 _ (by unfold OwnsB; rw [HN3.out]; exact hO.row _ List.mem_cons_self)).mono ?_; rintro e wv hw; obtain rfl := hw.1; have hw2 := hw.2.2; rw [HN3.out] at hw2; replace hO := hO.afterRow .here hw.2.1 hw2; clear hw hw2 h6) | ((with_reducible refine is_load ?_); (refine own_ldW (hO := hO) (h := ?_))) | ((with_reducible refine is_store ?_); (refine own_stW (hO := hO) (h := ?_); clear hO; intro wv hO)))) | go_values | go_skip | go_guarded | go_step | go_upon | go_back | (simp only at *; go_simp) | (go_values <;> (try go_simp)) | (go_ite <;> go_prune <;> (try go_simp)) | (split <;> (first | (rename_i hx; exact (hx _ rfl).elim) | go_prune))))
        go_end0
        exact ⟨rfl, hO.keep, by rw [hE2.out]; exact hO.row _ List.mem_cons_self⟩
      · have hE2 := Lib.hid (show sumsR l true = hdSum (p16 m 36 s) by rw [hE, hs]; rfl)
        have h2 := fun w hv => set2_any (v := .slice (some ⟨g, 0, none⟩) l.length c) (l := m) 36 s w hv (by omega) (by omega) (by omega) (by omega)
        have hn2 := (p16_length m 36 s).trans hn
        have hb3 := hb2.p16 36 (x := s) (by omega) (by omega)
        generalize p16 m 36 s = m2 at *
        have HN := Lib.hid hn
        have HN2 := Lib.hid hn2
        have h4 := fun w hv => set2_any (v := .slice (some ⟨g, 0, none⟩) l.length c) (l := m2) 10 0 w hv (by omega) (by omega) (by omega) (by omega)
        have hn3 := (p16_length m2 10 0).trans hn2
        have hb4 := hb3.p16 10 (x := 0) (by omega) (by omega)
        have hE4 : hdSum m2 = p16 (p16 m2 10 0) 10 (ck ((p16 m2 10 0).take 20)) := rfl
        generalize p16 m2 10 0 = m3 at *
        have h5 := fun w hv => rcksum_any (v := .slice (some ⟨g, 0, none⟩) 20 c) (l := m3.take 20) w hv (hb4.take 20) (by simp; omega)
        have h6 := fun w hv => set2_any (v := .slice (some ⟨g, 0, none⟩) l.length c) (l := m3) 10 (ck (m3.take 20)) w hv (by omega) (ck_bd _).1 (ck_bd _).2 (by omega)
        obtain ⟨t0, t1⟩ := ck_bd (m3.take 20)
        generalize ck (m3.take 20) = s3 at *
        have HN3 := Lib.hid hn3
        replace hE2 := Lib.hid (hE2.out.trans hE4)
        clear hn hn2 hn3 hb hb2 hb3 hb4 hE hE4 hp
        go_enter Tryd.func53, Tryd.ntmps53
        (repeat' (first | go_skip | ((first | ((with_reducible apply wp_move_bool); (focus rfl)) | ((with_reducible apply wp_move_boolG); (focus rfl); (focus rfl))); intro cb hcb; (cases cb <;> (first | (with_reducible exact no_tf hcb) | (with_reducible exact no_ft hcb) | skip)); all_goals ((try simp only [Act.put]); (try simp only [List.setIfInBounds_toArray, List.set_cons_zero, List.set_cons_succ]))) | (go_big_may; (first | ((with_reducible refine is_load ?_); (first | (refine own_ldP hO (h := ?_)) | (refine own_ld (h := ?_)))) | ((with_reducible refine is_store ?_); (first | (refine own_stRp (hO := hO) (h := ?_); clear hO; intro wv hO) | (refine own_st1p (hO := hO) (h := ?_); clear hO; intro wv hO) | (refine own_stR (hO := hO) (h := ?_); clear hO; intro wv hO) | (refine own_st1 (hO := hO) (h := ?_); clear hO; intro wv hO))) | (go_at_call 70; refine (hsum _).mono ?_; rintro e _ ⟨rfl, rfl⟩) | (go_at_call 63; refine (hg _ (show IsB _ _ _ by unfold IsB; exact hO.rowIs List.mem_cons_self)).mono ?_; rintro e wv ⟨rfl, hb⟩; replace hO := hO.call hb; clear hb) | (go_at_call 51; refine (h1 _ (hO.row _ List.mem_cons_self)).mono ?_; rintro e wv hw; obtain rfl := hw.1; replace hO := hO.afterRow .here hw.2.1 hw.2.2; clear hw h1) | (go_at_call 71; refine (hB _ (show IsB _ _ _ by unfold IsB; rw [HN.out]; exact hO.rowIs List.mem_cons_self)).mono ?_; rintro e wv ⟨v2, rfl, g1, g2, g3, hb2⟩; replace hO := hO.call hb2; clear hb2 hB) | (go_at_call 15; refine (hck _ _ g1 g2 (by omega)).mono ?_; rintro e wv ⟨rfl, hb2⟩; replace hO := hO.call hb2; clear hb2 hck) | (go_at_call 51; refine (h2 _ (by unfold OwnsB; rw [HN.out]; exact hO.row _ List.mem_cons_self)).mono ?_; rintro e wv hw; obtain rfl := hw.1; have hw2 := hw.2.2; rw [HN.out] at hw2; replace hO := hO.afterRow .here hw.2.1 hw2; clear hw hw2 h2) | (go_at_call 51; refine (h4 _ (by unfold OwnsB; rw [HN2.out]; exact hO.row _ List.mem_cons_self)).mono ?_; rintro e wv hw; obtain rfl := hw.1; have hw2 := hw.2.2; rw [HN2.out] at hw2; replace hO := hO.afterRow .here hw.2.1 hw2; clear hw hw2 h4) | (go_at_call 15; refine (h5 _ (IsB.front (show IsB _ _ _ by unfold IsB; rw [HN3.out]; exact hO.rowIs List.mem_cons_self) (by rw [HN3.out]; omega) (by omega))).mono ?_; rintro e wv ⟨rfl, hb⟩; replace hO := hO.call hb; clear hb) | (go_at_call 51; refine (h6 _ (by unfold OwnsB; rw [HN3.out]; exact hO.row _ List.mem_cons_self)).mono ?_; rintro e wv hw; obtain rfl := hw.1; have hw2 := hw.2.2; rw [HN3.out] at hw2; replace hO := hO.afterRow .here hw.2.1 hw2; clear hw hw2 h6) | ((with_reducible refine is_load ?_); (refine own_ldW (hO := hO) (h := ?_))) | ((with_reducible refine is_store ?_); (refine own_stW (hO := hO) (h := ?_); clear hO; intro wv hO)))) | go_values | go_skip | go_guarded | go_step | go_upon | go_back | (simp only at *; go_simp) | (go_values <;> (try go_simp)) | (go_ite <;> go_prune <;> (try go_simp)) | (split <;> (first | (rename_i hx; exact (hx _ rfl).elim) | go_prune))))
        go_end0
        exact ⟨rfl, hO.keep, by rw [hE2.out]; exact hO.row _ List.mem_cons_self⟩
  · rw [hp, show sumAtF 17 = 26 from rfl] at hu
    rw [hp] at c9'
    rw [hp, show sumAtR 17 = 26 from rfl] at hsum
    replace hg := hg (by omega)
    cases keep
    · have hkeep := sumsR_f l
      have h1 := fun w hv => set2_any (v := .slice (some ⟨g, 0, none⟩) l.length c) (l := l) 26 0 w hv (by omega) (by omega) (by omega) (by omega)
      have hn := p16_length l 26 0
      have hb2 := hb.p16 26 (x := 0) (by omega) (by omega)
      have c9 := bc_at (l := p16 l 26 0) (k := 9) (by rw [hn]; omega)
      rw [gt_p16_ne (by omega) (by omega), hp] at c9
      have hE : sumsR l false = hdSum (bdSum l 26 true) := by rw [hkeep]; unfold sumsF; rw [hp]; rfl
      unfold bdSum at hE
      clear hkeep
      generalize p16 l 26 0 = m at *
      have hB := fun w hv => covered_any (v := .slice (some ⟨g, 0, none⟩) l.length c) (l := m) w hv hb2 (by omega) (by omega)
      have hck := fun v w hv => rcksum_any (v := v) (l := cov m) w hv
      obtain ⟨s0, s1⟩ := ck_bd (cov m)
      generalize cov m = cl at *
      generalize ck cl = s at *
      cases hs : (s == 0)
      · have hE2 := Lib.hid (show sumsR l false = hdSum (p16 m 26 s) by rw [hE, hs]; rfl)
        have h2 := fun w hv => set2_any (v := .slice (some ⟨g, 0, none⟩) l.length c) (l := m) 26 s w hv (by omega) (by omega) (by omega) (by omega)
        have hn2 := (p16_length m 26 s).trans hn
        have hb3 := hb2.p16 26 (x := s) (by omega) (by omega)
        generalize p16 m 26 s = m2 at *
        have HN := Lib.hid hn
        have HN2 := Lib.hid hn2
        have h4 := fun w hv => set2_any (v := .slice (some ⟨g, 0, none⟩) l.length c) (l := m2) 10 0 w hv (by omega) (by omega) (by omega) (by omega)
        have hn3 := (p16_length m2 10 0).trans hn2
        have hb4 := hb3.p16 10 (x := 0) (by omega) (by omega)
        have hE4 : hdSum m2 = p16 (p16 m2 10 0) 10 (ck ((p16 m2 10 0).take 20)) := rfl
        generalize p16 m2 10 0 = m3 at *
        have h5 := fun w hv => rcksum_any (v := .slice (some ⟨g, 0, none⟩) 20 c) (l := m3.take 20) w hv (hb4.take 20) (by simp; omega)
        have h6 := fun w hv => set2_any (v := .slice (some ⟨g, 0, none⟩) l.length c) (l := m3) 10 (ck (m3.take 20)) w hv (by omega) (ck_bd _).1 (ck_bd _).2 (by omega)
        obtain ⟨t0, t1⟩ := ck_bd (m3.take 20)
        generalize ck (m3.take 20) = s3 at *
        have HN3 := Lib.hid hn3
        replace hE2 := Lib.hid (hE2.out.trans hE4)
        clear hn hn2 hn3 hb hb2 hb3 hb4 hE hE4 hp
        go_enter Tryd.func53, Tryd.ntmps53
        (repeat' (first | go_skip | ((first | ((with_reducible apply wp_move_bool); (focus rfl)) | ((with_reducible apply wp_move_boolG); (focus rfl); (focus rfl))); intro cb hcb; (cases cb <;> (first | (with_reducible exact no_tf hcb) | (with_reducible exact no_ft hcb) | skip)); all_goals ((try simp only [Act.put]); (try simp only [List.setIfInBounds_toArray, List.set_cons_zero, List.set_cons_succ]))) | (go_big_may; (first | ((with_reducible refine is_load ?_); (first | (refine own_ldP hO (h := ?_)) | (refine own_ld (h := ?_)))) | ((with_reducible refine is_store ?_); (first | (refine own_stRp (hO := hO) (h := ?_); clear hO; intro wv hO) | (refine own_st1p (hO := hO) (h := ?_); clear hO; intro wv hO) | (refine own_stR (hO := hO) (h := ?_); clear hO; intro wv hO) | (refine own_st1 (hO := hO) (h := ?_); clear hO; intro wv hO))) | (go_at_call 70; refine (hsum _).mono ?_; rintro e _ ⟨rfl, rfl⟩) | (go_at_call 63; refine (hg _ (show IsB _ _ _ by unfold IsB; exact hO.rowIs List.mem_cons_self)).mono ?_; rintro e wv ⟨rfl, hb⟩; replace hO := hO.call hb; clear hb) | (go_at_call 51; refine (h1 _ (hO.row _ List.mem_cons_self)).mono ?_; rintro e wv hw; obtain rfl := hw.1; replace hO := hO.afterRow .here hw.2.1 hw.2.2; clear hw h1) | (go_at_call 71; refine (hB _ (show IsB _ _ _ by unfold IsB; rw [HN.out]; exact hO.rowIs List.mem_cons_self)).mono ?_; rintro e wv ⟨v2, rfl, g1, g2, g3, hb2⟩; replace hO := hO.call hb2; clear hb2 hB) | (go_at_call 15; refine (hck _ _ g1 g2 (by omega)).mono ?_; rintro e wv ⟨rfl, hb2⟩; replace hO := hO.call hb2; clear hb2 hck) | (go_at_call 51; refine (h2 _ (by unfold OwnsB; rw [HN.out]; exact hO.row _ List.mem_cons_self)).mono ?_; rintro e wv hw; obtain rfl := hw.1; have hw2 := hw.2.2; rw [HN.out] at hw2; replace hO := hO.afterRow .here hw.2.1 hw2; clear hw hw2 h2) | (go_at_call 51; refine (h4 _ (by unfold OwnsB; rw [HN2.out]; exact hO.row _ List.mem_cons_self)).mono ?_; rintro e wv hw; obtain rfl := hw.1; have hw2 := hw.2.2; rw [HN2.out] at hw2; replace hO := hO.afterRow .here hw.2.1 hw2; clear hw hw2 h4) | (go_at_call 15; refine (h5 _ (IsB.front (show IsB _ _ _ by unfold IsB; rw [HN3.out]; exact hO.rowIs List.mem_cons_self) (by rw [HN3.out]; omega) (by omega))).mono ?_; rintro e wv ⟨rfl, hb⟩; replace hO := hO.call hb; clear hb) | (go_at_call 51; refine (h6 _ (by unfold OwnsB; rw [HN3.out]; exact hO.row _ List.mem_cons_self)).mono ?_; rintro e wv hw; obtain rfl := hw.1; have hw2 := hw.2.2; rw [HN3.out] at hw2; replace hO := hO.afterRow .here hw.2.1 hw2; clear hw hw2 h6) | ((with_reducible refine is_load ?_); (refine own_ldW (hO := hO) (h := ?_))) | ((with_reducible refine is_store ?_); (refine own_stW (hO := hO) (h := ?_); clear hO; intro wv hO)))) | go_values | go_skip | go_guarded | go_step | go_upon | go_back | (simp only at *; go_simp) | (go_values <;> (try go_simp)) | (go_ite <;> go_prune <;> (try go_simp)) | (split <;> (first | (rename_i hx; exact (hx _ rfl).elim) | go_prune))))
        go_end0
        exact ⟨rfl, hO.keep, by rw [hE2.out]; exact hO.row _ List.mem_cons_self⟩
      · have hE2 := Lib.hid (show sumsR l false = hdSum (p16 m 26 65535) by rw [hE, hs]; rfl)
        have h2 := fun w hv => set2_any (v := .slice (some ⟨g, 0, none⟩) l.length c) (l := m) 26 65535 w hv (by omega) (by omega) (by omega) (by omega)
        have hn2 := (p16_length m 26 65535).trans hn
        have hb3 := hb2.p16 26 (x := 65535) (by omega) (by omega)
        generalize p16 m 26 65535 = m2 at *
        have HN := Lib.hid hn
        have HN2 := Lib.hid hn2
        have h4 := fun w hv => set2_any (v := .slice (some ⟨g, 0, none⟩) l.length c) (l := m2) 10 0 w hv (by omega) (by omega) (by omega) (by omega)
        have hn3 := (p16_length m2 10 0).trans hn2
        have hb4 := hb3.p16 10 (x := 0) (by omega) (by omega)
        have hE4 : hdSum m2 = p16 (p16 m2 10 0) 10 (ck ((p16 m2 10 0).take 20)) := rfl
        generalize p16 m2 10 0 = m3 at *
        have h5 := fun w hv => rcksum_any (v := .slice (some ⟨g, 0, none⟩) 20 c) (l := m3.take 20) w hv (hb4.take 20) (by simp; omega)
        have h6 := fun w hv => set2_any (v := .slice (some ⟨g, 0, none⟩) l.length c) (l := m3) 10 (ck (m3.take 20)) w hv (by omega) (ck_bd _).1 (ck_bd _).2 (by omega)
        obtain ⟨t0, t1⟩ := ck_bd (m3.take 20)
        generalize ck (m3.take 20) = s3 at *
        have HN3 := Lib.hid hn3
        replace hE2 := Lib.hid (hE2.out.trans hE4)
        clear hn hn2 hn3 hb hb2 hb3 hb4 hE hE4 hp
        go_enter Tryd.func53, Tryd.ntmps53
        (repeat' (first | go_skip | ((first | ((with_reducible apply wp_move_bool); (focus rfl)) | ((with_reducible apply wp_move_boolG); (focus rfl); (focus rfl))); intro cb hcb; (cases cb <;> (first | (with_reducible exact no_tf hcb) | (with_reducible exact no_ft hcb) | skip)); all_goals ((try simp only [Act.put]); (try simp only [List.setIfInBounds_toArray, List.set_cons_zero, List.set_cons_succ]))) | (go_big_may; (first | ((with_reducible refine is_load ?_); (first | (refine own_ldP hO (h := ?_)) | (refine own_ld (h := ?_)))) | ((with_reducible refine is_store ?_); (first | (refine own_stRp (hO := hO) (h := ?_); clear hO; intro wv hO) | (refine own_st1p (hO := hO) (h := ?_); clear hO; intro wv hO) | (refine own_stR (hO := hO) (h := ?_); clear hO; intro wv hO) | (refine own_st1 (hO := hO) (h := ?_); clear hO; intro wv hO))) | (go_at_call 70; refine (hsum _).mono ?_; rintro e _ ⟨rfl, rfl⟩) | (go_at_call 63; refine (hg _ (show IsB _ _ _ by unfold IsB; exact hO.rowIs List.mem_cons_self)).mono ?_; rintro e wv ⟨rfl, hb⟩; replace hO := hO.call hb; clear hb) | (go_at_call 51; refine (h1 _ (hO.row _ List.mem_cons_self)).mono ?_; rintro e wv hw; obtain rfl := hw.1; replace hO := hO.afterRow .here hw.2.1 hw.2.2; clear hw h1) | (go_at_call 71; refine (hB _ (show IsB _ _ _ by unfold IsB; rw [HN.out]; exact hO.rowIs List.mem_cons_self)).mono ?_; rintro e wv ⟨v2, rfl, g1, g2, g3, hb2⟩; replace hO := hO.call hb2; clear hb2 hB) | (go_at_call 15; refine (hck _ _ g1 g2 (by omega)).mono ?_; rintro e wv ⟨rfl, hb2⟩; replace hO := hO.call hb2; clear hb2 hck) | (go_at_call 51; refine (h2 _ (by unfold OwnsB; rw [HN.out]; exact hO.row _ List.mem_cons_self)).mono ?_; rintro e wv hw; obtain rfl := hw.1; have hw2 := hw.2.2; rw [HN.out] at hw2; replace hO := hO.afterRow .here hw.2.1 hw2; clear hw hw2 h2) | (go_at_call 51; refine (h4 _ (by unfold OwnsB; rw [HN2.out]; exact hO.row _ List.mem_cons_self)).mono ?_; rintro e wv hw; obtain rfl := hw.1; have hw2 := hw.2.2; rw [HN2.out] at hw2; replace hO := hO.afterRow .here hw.2.1 hw2; clear hw hw2 h4) | (go_at_call 15; refine (h5 _ (IsB.front (show IsB _ _ _ by unfold IsB; rw [HN3.out]; exact hO.rowIs List.mem_cons_self) (by rw [HN3.out]; omega) (by omega))).mono ?_; rintro e wv ⟨rfl, hb⟩; replace hO := hO.call hb; clear hb) | (go_at_call 51; refine (h6 _ (by unfold OwnsB; rw [HN3.out]; exact hO.row _ List.mem_cons_self)).mono ?_; rintro e wv hw; obtain rfl := hw.1; have hw2 := hw.2.2; rw [HN3.out] at hw2; replace hO := hO.afterRow .here hw.2.1 hw2; clear hw hw2 h6) | ((with_reducible refine is_load ?_); (refine own_ldW (hO := hO) (h := ?_))) | ((with_reducible refine is_store ?_); (refine own_stW (hO := hO) (h := ?_); clear hO; intro wv hO)))) | go_values | go_skip | go_guarded | go_step | go_upon | go_back | (simp only at *; go_simp) | (go_values <;> (try go_simp)) | (go_ite <;> go_prune <;> (try go_simp)) | (split <;> (first | (rename_i hx; exact (hx _ rfl).elim) | go_prune))))
        go_end0
        exact ⟨rfl, hO.keep, by rw [hE2.out]; exact hO.row _ List.mem_cons_self⟩
    · cases hq : (g16 l 26 == 0)
      · have hkeep := sumsR_nz true hq
        generalize g16 l 26 = q at *
        have h1 := fun w hv => set2_any (v := .slice (some ⟨g, 0, none⟩) l.length c) (l := l) 26 0 w hv (by omega) (by omega) (by omega) (by omega)
        have hn := p16_length l 26 0
        have hb2 := hb.p16 26 (x := 0) (by omega) (by omega)
        have c9 := bc_at (l := p16 l 26 0) (k := 9) (by rw [hn]; omega)
        rw [gt_p16_ne (by omega) (by omega), hp] at c9
        have hE : sumsR l true = hdSum (bdSum l 26 true) := by rw [hkeep]; unfold sumsF; rw [hp]; rfl
        unfold bdSum at hE
        clear hkeep
        generalize p16 l 26 0 = m at *
        have hB := fun w hv => covered_any (v := .slice (some ⟨g, 0, none⟩) l.length c) (l := m) w hv hb2 (by omega) (by omega)
        have hck := fun v w hv => rcksum_any (v := v) (l := cov m) w hv
        obtain ⟨s0, s1⟩ := ck_bd (cov m)
        generalize cov m = cl at *
        generalize ck cl = s at *
        cases hs : (s == 0)
        · have hE2 := Lib.hid (show sumsR l true = hdSum (p16 m 26 s) by rw [hE, hs]; rfl)
          have h2 := fun w hv => set2_any (v := .slice (some ⟨g, 0, none⟩) l.length c) (l := m) 26 s w hv (by omega) (by omega) (by omega) (by omega)
          have hn2 := (p16_length m 26 s).trans hn
          have hb3 := hb2.p16 26 (x := s) (by omega) (by omega)
          generalize p16 m 26 s = m2 at *
          have HN := Lib.hid hn
          have HN2 := Lib.hid hn2
          have h4 := fun w hv => set2_any (v := .slice (some ⟨g, 0, none⟩) l.length c) (l := m2) 10 0 w hv (by omega) (by omega) (by omega) (by omega)
          have hn3 := (p16_length m2 10 0).trans hn2
          have hb4 := hb3.p16 10 (x := 0) (by omega) (by omega)
          have hE4 : hdSum m2 = p16 (p16 m2 10 0) 10 (ck ((p16 m2 10 0).take 20)) := rfl
          generalize p16 m2 10 0 = m3 at *
          have h5 := fun w hv => rcksum_any (v := .slice (some ⟨g, 0, none⟩) 20 c) (l := m3.take 20) w hv (hb4.take 20) (by simp; omega)
          have h6 := fun w hv => set2_any (v := .slice (some ⟨g, 0, none⟩) l.length c) (l := m3) 10 (ck (m3.take 20)) w hv (by omega) (ck_bd _).1 (ck_bd _).2 (by omega)
          obtain ⟨t0, t1⟩ := ck_bd (m3.take 20)
          generalize ck (m3.take 20) = s3 at *
          have HN3 := Lib.hid hn3
          replace hE2 := Lib.hid (hE2.out.trans hE4)
          clear hn hn2 hn3 hb hb2 hb3 hb4 hE hE4 hp
          go_enter Tryd.func53, Tryd.ntmps53
          (repeat' (first | go_skip | ((first | ((with_reducible apply wp_move_bool); (focus rfl)) | ((with_reducible apply wp_move_boolG); (focus rfl); (focus rfl))); intro cb hcb; (cases cb <;> (first | (with_reducible exact no_tf hcb) | (with_reducible exact no_ft hcb) | skip)); all_goals ((try simp only [Act.put]); (try simp only [List.setIfInBounds_toArray, List.set_cons_zero, List.set_cons_succ]))) | (go_big_may; (first | ((with_reducible refine is_load ?_); (first | (refine own_ldP hO (h := ?_)) | (refine own_ld (h := ?_)))) | ((with_reducible refine is_store ?_); (first | (refine own_stRp (hO := hO) (h := ?_); clear hO; intro wv hO) | (refine own_st1p (hO := hO) (h := ?_); clear hO; intro wv hO) | (refine own_stR (hO := hO) (h := ?_); clear hO; intro wv hO) | (refine own_st1 (hO := hO) (h := ?_); clear hO; intro wv hO))) | (go_at_call 70; refine (hsum _).mono ?_; rintro e _ ⟨rfl, rfl⟩) | (go_at_call 63; refine (hg _ (show IsB _ _ _ by unfold IsB; exact hO.rowIs List.mem_cons_self)).mono ?_; rintro e wv ⟨rfl, hb⟩; replace hO := hO.call hb; clear hb) | (go_at_call 51; refine (h1 _ (hO.row _ List.mem_cons_self)).mono ?_; rintro e wv hw; obtain rfl := hw.1; replace hO := hO.afterRow .here hw.2.1 hw.2.2; clear hw h1) | (go_at_call 71; refine (hB _ (show IsB _ _ _ by unfold IsB; rw [HN.out]; exact hO.rowIs List.mem_cons_self)).mono ?_; rintro e wv ⟨v2, rfl, g1, g2, g3, hb2⟩; replace hO := hO.call hb2; clear hb2 hB) | (go_at_call 15; refine (hck _ _ g1 g2 (by omega)).mono ?_; rintro e wv ⟨rfl, hb2⟩; replace hO := hO.call hb2; clear hb2 hck) | (go_at_call 51; refine (h2 _ (by unfold OwnsB; rw [HN.out]; exact hO.row _ List.mem_cons_self)).mono ?_; rintro e wv hw; obtain rfl := hw.1; have hw2 := hw.2.2; rw [HN.out] at hw2; replace hO := hO.afterRow .here hw.2.1 hw2; clear hw hw2 h2) | (go_at_call 51; refine (h4 _ (by unfold OwnsB; rw [HN2.out]; exact hO.row _ List.mem_cons_self)).mono ?_; rintro e wv hw; obtain rfl := hw.1; have hw2 := hw.2.2; rw [HN2.out] at hw2; replace hO := hO.afterRow .here hw.2.1 hw2; clear hw hw2 h4) | (go_at_call 15; refine (h5 _ (IsB.front (show IsB _ _ _ by unfold IsB; rw [HN3.out]; exact hO.rowIs List.mem_cons_self) (by rw [HN3.out]; omega) (by omega))).mono ?_; rintro e wv ⟨rfl, hb⟩; replace hO := hO.call hb; clear hb) | (go_at_call 51; refine (h6 _ (by unfold OwnsB; rw [HN3.out]; exact hO.row _ List.mem_cons_self)).mono ?_; rintro e wv hw; obtain rfl := hw.1; have hw2 := hw.2.2; rw [HN3.out] at hw2; replace hO := hO.afterRow .here hw.2.1 hw2; clear hw hw2 h6) | ((with_reducible refine is_load ?_); (refine own_ldW (hO := hO) (h := ?_))) | ((with_reducible refine is_store ?_); (refine own_stW (hO := hO) (h := ?_); clear hO; intro wv hO)))) | go_values | go_skip | go_guarded | go_step | go_upon | go_back | (simp only at *; go_simp) | (go_values <;> (try go_simp)) | (go_ite <;> go_prune <;> (try go_simp)) | (split <;> (first | (rename_i hx; exact (hx _ rfl).elim) | go_prune))))
          go_end0
          exact ⟨rfl, hO.keep, by rw [hE2.out]; exact hO.row _ List.mem_cons_self⟩
        · have hE2 := Lib.hid (show sumsR l true = hdSum (p16 m 26 65535) by rw [hE, hs]; rfl)
          have h2 := fun w hv => set2_any (v := .slice (some ⟨g, 0, none⟩) l.length c) (l := m) 26 65535 w hv (by omega) (by omega) (by omega) (by omega)
          have hn2 := (p16_length m 26 65535).trans hn
          have hb3 := hb2.p16 26 (x := 65535) (by omega) (by omega)
          generalize p16 m 26 65535 = m2 at *
          have HN := Lib.hid hn
          have HN2 := Lib.hid hn2
          have h4 := fun w hv => set2_any (v := .slice (some ⟨g, 0, none⟩) l.length c) (l := m2) 10 0 w hv (by omega) (by omega) (by omega) (by omega)
          have hn3 := (p16_length m2 10 0).trans hn2
          have hb4 := hb3.p16 10 (x := 0) (by omega) (by omega)
          have hE4 : hdSum m2 = p16 (p16 m2 10 0) 10 (ck ((p16 m2 10 0).take 20)) := rfl
          generalize p16 m2 10 0 = m3 at *
          have h5 := fun w hv => rcksum_any (v := .slice (some ⟨g, 0, none⟩) 20 c) (l := m3.take 20) w hv (hb4.take 20) (by simp; omega)
          have h6 := fun w hv => set2_any (v := .slice (some ⟨g, 0, none⟩) l.length c) (l := m3) 10 (ck (m3.take 20)) w hv (by omega) (ck_bd _).1 (ck_bd _).2 (by omega)
          obtain ⟨t0, t1⟩ := ck_bd (m3.take 20)
          generalize ck (m3.take 20) = s3 at *
          have HN3 := Lib.hid hn3
          replace hE2 := Lib.hid (hE2.out.trans hE4)
          clear hn hn2 hn3 hb hb2 hb3 hb4 hE hE4 hp
          go_enter Tryd.func53, Tryd.ntmps53
          (repeat' (first | go_skip | ((first | ((with_reducible apply wp_move_bool); (focus rfl)) | ((with_reducible apply wp_move_boolG); (focus rfl); (focus rfl))); intro cb hcb; (cases cb <;> (first | (with_reducible exact no_tf hcb) | (with_reducible exact no_ft hcb) | skip)); all_goals ((try simp only [Act.put]); (try simp only [List.setIfInBounds_toArray, List.set_cons_zero, List.set_cons_succ]))) | (go_big_may; (first | ((with_reducible refine is_load ?_); (first | (refine own_ldP hO (h := ?_)) | (refine own_ld (h := ?_)))) | ((with_reducible refine is_store ?_); (first | (refine own_stRp (hO := hO) (h := ?_); clear hO; intro wv hO) | (refine own_st1p (hO := hO) (h := ?_); clear hO; intro wv hO) | (refine own_stR (hO := hO) (h := ?_); clear hO; intro wv hO) | (refine own_st1 (hO := hO) (h := ?_); clear hO; intro wv hO))) | (go_at_call 70; refine (hsum _).mono ?_; rintro e _ ⟨rfl, rfl⟩) | (go_at_call 63; refine (hg _ (show IsB _ _ _ by unfold IsB; exact hO.rowIs List.mem_cons_self)).mono ?_; rintro e wv ⟨rfl, hb⟩; replace hO := hO.call hb; clear hb) | (go_at_call 51; refine (h1 _ (hO.row _ List.mem_cons_self)).mono ?_; rintro e wv hw; obtain rfl := hw.1; replace hO := hO.afterRow .here hw.2.1 hw.2.2; clear hw h1) | (go_at_call 71; refine (hB _ (show IsB _ _ _ by unfold IsB; rw [HN.out]; exact hO.rowIs List.mem_cons_self)).mono ?_; rintro e wv ⟨v2, rfl, g1, g2, g3, hb2⟩; replace hO := hO.call hb2; clear hb2 hB) | (go_at_call 15; refine (hck _ _ g1 g2 (by omega)).mono ?_; rintro e wv ⟨rfl, hb2⟩; replace hO := hO.call hb2; clear hb2 hck) | (go_at_call 51; refine (h2 _ (by unfold OwnsB; rw [HN.out]; exact hO.row _ List.mem_cons_self)).mono ?_; rintro e wv hw; obtain rfl := hw.1; have hw2 := hw.2.2; rw [HN.out] at hw2; replace hO := hO.afterRow .here hw.2.1 hw2; clear hw hw2 h2) | (go_at_call 51; refine (h4 _ (by unfold OwnsB; rw [HN2.out]; exact hO.row _ List.mem_cons_self)).mono ?_; rintro e wv hw; obtain rfl := hw.1; have hw2 := hw.2.2; rw [HN2.out] at hw2; replace hO := hO.afterRow .here hw.2.1 hw2; clear hw hw2 h4) | (go_at_call 15; refine (h5 _ (IsB.front (show IsB _ _ _ by unfold IsB; rw [HN3.out]; exact hO.rowIs List.mem_cons_self) (by rw [HN3.out]; omega) (by omega))).mono ?_; rintro e wv ⟨rfl, hb⟩; replace hO := hO.call hb; clear hb) | (go_at_call 51; refine (h6 _ (by unfold OwnsB; rw [HN3.out]; exact hO.row _ List.mem_cons_self)).mono ?_; rintro e wv hw; obtain rfl := hw.1; have hw2 := hw.2.2; rw [HN3.out] at hw2; replace hO := hO.afterRow .here hw.2.1 hw2; clear hw hw2 h6) | ((with_reducible refine is_load ?_); (refine own_ldW (hO := hO) (h := ?_))) | ((with_reducible refine is_store ?_); (refine own_stW (hO := hO) (h := ?_); clear hO; intro wv hO)))) | go_values | go_skip | go_guarded | go_step | go_upon | go_back | (simp only at *; go_simp) | (go_values <;> (try go_simp)) | (go_ite <;> go_prune <;> (try go_simp)) | (split <;> (first | (rename_i hx; exact (hx _ rfl).elim) | go_prune))))
          go_end0
          exact ⟨rfl, hO.keep, by rw [hE2.out]; exact hO.row _ List.mem_cons_self⟩
      · have hE2 := Lib.hid (sumsR_z (by rw [hp]; rfl) hq)
        generalize g16 l 26 = q at *
        clear hu hp
        have hn2 : l.length = l.length := rfl
        have h4 := fun w hv => set2_any (v := .slice (some ⟨g, 0, none⟩) l.length c) (l := l) 10 0 w hv (by omega) (by omega) (by omega) (by omega)
        have hn3 := (p16_length l 10 0).trans hn2
        have hb4 := hb.p16 10 (x := 0) (by omega) (by omega)
        have hE4 : hdSum l = p16 (p16 l 10 0) 10 (ck ((p16 l 10 0).take 20)) := rfl
        generalize p16 l 10 0 = m3 at *
        have h5 := fun w hv => rcksum_any (v := .slice (some ⟨g, 0, none⟩) 20 c) (l := m3.take 20) w hv (hb4.take 20) (by simp; omega)
        have h6 := fun w hv => set2_any (v := .slice (some ⟨g, 0, none⟩) l.length c) (l := m3) 10 (ck (m3.take 20)) w hv (by omega) (ck_bd _).1 (ck_bd _).2 (by omega)
        obtain ⟨t0, t1⟩ := ck_bd (m3.take 20)
        generalize ck (m3.take 20) = s3 at *
        have HN3 := Lib.hid hn3
        replace hE2 := Lib.hid (hE2.out.trans hE4)
        clear hn2 hn3 hb hb4 hE4
        go_enter Tryd.func53, Tryd.ntmps53
        (repeat' (first | go_skip | ((first | ((with_reducible apply wp_move_bool); (focus rfl)) | ((with_reducible apply wp_move_boolG); (focus rfl); (focus rfl))); intro cb hcb; (cases cb <;> (first | (with_reducible exact no_tf hcb) | (with_reducible exact no_ft hcb) | skip)); all_goals ((try simp only [Act.put]); (try simp only [List.setIfInBounds_toArray, List.set_cons_zero, List.set_cons_succ]))) | (go_big_may; (first | ((with_reducible refine is_load ?_); (first | (refine own_ldP hO (h := ?_)) | (refine own_ld (h := ?_)))) | ((with_reducible refine is_store ?_); (first | (refine own_stRp (hO := hO) (h := ?_); clear hO; intro wv hO) | (refine own_st1p (hO := hO) (h := ?_); clear hO; intro wv hO) | (refine own_stR (hO := hO) (h := ?_); clear hO; intro wv hO) | (refine own_st1 (hO := hO) (h := ?_); clear hO; intro wv hO))) | (go_at_call 70; refine (hsum _).mono ?_; rintro e _ ⟨rfl, rfl⟩) | (go_at_call 63; refine (hg _ (show IsB _ _ _ by unfold IsB; exact hO.rowIs List.mem_cons_self)).mono ?_; rintro e wv ⟨rfl, hb⟩; replace hO := hO.call hb; clear hb) | (go_at_call 51; refine (h4 _ (hO.row _ List.mem_cons_self)).mono ?_; rintro e wv hw; obtain rfl := hw.1; replace hO := hO.afterRow .here hw.2.1 hw.2.2; clear hw h4) | (go_at_call 15; refine (h5 _ (IsB.front (show IsB _ _ _ by unfold IsB; rw [HN3.out]; exact hO.rowIs List.mem_cons_self) (by rw [HN3.out]; omega) (by omega))).mono ?_; rintro e wv ⟨rfl, hb⟩; replace hO := hO.call hb; clear hb) | (go_at_call 51; refine (h6 _ (by unfold OwnsB; rw [HN3.out]; exact hO.row _ List.mem_cons_self)).mono ?_; rintro e wv hw; obtain rfl := hw.1; have hw2 := hw.2.2; rw [HN3.out] at hw2; replace hO := hO.afterRow .here hw.2.1 hw2; clear hw hw2 h6) | ((with_reducible refine is_load ?_); (refine own_ldW (hO := hO) (h := ?_))) | ((with_reducible refine is_store ?_); (refine own_stW (hO := hO) (h := ?_); clear hO; intro wv hO)))) | go_values | go_skip | go_guarded | go_step | go_upon | go_back | (simp only at *; go_simp) | (go_values <;> (try go_simp)) | (go_ite <;> go_prune <;> (try go_simp)) | (split <;> (first | (rename_i hx; exact (hx _ rfl).elim) | go_prune))))
        go_end0
        exact ⟨rfl, hO.keep, by rw [hE2.out]; exact hO.row _ List.mem_cons_self⟩
  · have hkeep := fun keep => sumsR_ne (l := l) keep (by rw [hp]; rfl)
    rw [hp, show sumAtF 1 = 22 from rfl] at hu
    rw [hp] at c9'
    rw [hp, show sumAtR 1 = 22 from rfl] at hsum
    clear hg
    cases keep
    · replace hkeep := hkeep false
      have h1 := fun w hv => set2_any (v := .slice (some ⟨g, 0, none⟩) l.length c) (l := l) 22 0 w hv (by omega) (by omega) (by omega) (by omega)
      have hn := p16_length l 22 0
      have hb2 := hb.p16 22 (x := 0) (by omega) (by omega)
      have c9 := bc_at (l := p16 l 22 0) (k := 9) (by rw [hn]; omega)
      rw [gt_p16_ne (by omega) (by omega), hp] at c9
      have hE : sumsR l false = hdSum (bdSum l 22 false) := by rw [hkeep]; unfold sumsF; rw [hp]; rfl
      unfold bdSum at hE
      clear hkeep
      generalize p16 l 22 0 = m at *
      have hB := fun w hv => covered_any (v := .slice (some ⟨g, 0, none⟩) l.length c) (l := m) w hv hb2 (by omega) (by omega)
      have hck := fun v w hv => rcksum_any (v := v) (l := cov m) w hv
      obtain ⟨s0, s1⟩ := ck_bd (cov m)
      generalize cov m = cl at *
      generalize ck cl = s at *
      cases hs : (s == 0)
      · have hE2 := Lib.hid (show sumsR l false = hdSum (p16 m 22 s) by rw [hE, hs]; rfl)
        have h2 := fun w hv => set2_any (v := .slice (some ⟨g, 0, none⟩) l.length c) (l := m) 22 s w hv (by omega) (by omega) (by omega) (by omega)
        have hn2 := (p16_length m 22 s).trans hn
        have hb3 := hb2.p16 22 (x := s) (by omega) (by omega)
        generalize p16 m 22 s = m2 at *
        have HN := Lib.hid hn
        have HN2 := Lib.hid hn2
        have h4 := fun w hv => set2_any (v := .slice (some ⟨g, 0, none⟩) l.length c) (l := m2) 10 0 w hv (by omega) (by omega) (by omega) (by omega)
        have hn3 := (p16_length m2 10 0).trans hn2
        have hb4 := hb3.p16 10 (x := 0) (by omega) (by omega)
        have hE4 : hdSum m2 = p16 (p16 m2 10 0) 10 (ck ((p16 m2 10 0).take 20)) := rfl
        generalize p16 m2 10 0 = m3 at *
        have h5 := fun w hv => rcksum_any (v := .slice (some ⟨g, 0, none⟩) 20 c) (l := m3.take 20) w hv (hb4.take 20) (by simp; omega)
        have h6 := fun w hv => set2_any (v := .slice (some ⟨g, 0, none⟩) l.length c) (l := m3) 10 (ck (m3.take 20)) w hv (by omega) (ck_bd _).1 (ck_bd _).2 (by omega)
        obtain ⟨t0, t1⟩ := ck_bd (m3.take 20)
        generalize ck (m3.take 20) = s3 at *
        have HN3 := Lib.hid hn3
        replace hE2 := Lib.hid (hE2.out.trans hE4)
        clear hn hn2 hn3 hb hb2 hb3 hb4 hE hE4 hp
        go_enter Tryd.func53, Tryd.ntmps53
        (repeat' (first | go_skip | ((first | ((with_reducible apply wp_move_bool); (focus rfl)) | ((with_reducible apply wp_move_boolG); (focus rfl); (focus rfl))); intro cb hcb; (cases cb <;> (first | (with_reducible exact no_tf hcb) | (with_reducible exact no_ft hcb) | skip)); all_goals ((try simp only [Act.put]); (try simp only [List.setIfInBounds_toArray, List.set_cons_zero, List.set_cons_succ]))) | (go_big_may; (first | ((with_reducible refine is_load ?_); (first | (refine own_ldP hO (h := ?_)) | (refine own_ld (h := ?_)))) | ((with_reducible refine is_store ?_); (first | (refine own_stRp (hO := hO) (h := ?_); clear hO; intro wv hO) | (refine own_st1p (hO := hO) (h := ?_); clear hO; intro wv hO) | (refine own_stR (hO := hO) (h := ?_); clear hO; intro wv hO) | (refine own_st1 (hO := hO) (h := ?_); clear hO; intro wv hO))) | (go_at_call 70; refine (hsum _).mono ?_; rintro e _ ⟨rfl, rfl⟩) | (go_at_call 63; refine (hg _ (show IsB _ _ _ by unfold IsB; exact hO.rowIs List.mem_cons_self)).mono ?_; rintro e wv ⟨rfl, hb⟩; replace hO := hO.call hb; clear hb) | (go_at_call 51; refine (h1 _ (hO.row _ List.mem_cons_self)).mono ?_; rintro e wv hw; obtain rfl := hw.1; replace hO := hO.afterRow .here hw.2.1 hw.2.2; clear hw h1) | (go_at_call 71; refine (hB _ (show IsB _ _ _ by unfold IsB; rw [HN.out]; exact hO.rowIs List.mem_cons_self)).mono ?_; rintro e wv ⟨v2, rfl, g1, g2, g3, hb2⟩; replace hO := hO.call hb2; clear hb2 hB) | (go_at_call 15; refine (hck _ _ g1 g2 (by omega)).mono ?_; rintro e wv ⟨rfl, hb2⟩; replace hO := hO.call hb2; clear hb2 hck) | (go_at_call 51; refine (h2 _ (by unfold OwnsB; rw [HN.out]; exact hO.row _ List.mem_cons_self)).mono ?_; rintro e wv hw; obtain rfl := hw.1; have hw2 := hw.2.2; rw [HN.out] at hw2; replace hO := hO.afterRow .here hw.2.1 hw2; clear hw hw2 h2) | (go_at_call 51; refine (h4 _ (by unfold OwnsB; rw [HN2.out]; exact hO.row _ List.mem_cons_self)).mono ?_; rintro e wv hw; obtain rfl := hw.1; have hw2 := hw.2.2; rw [HN2.out] at hw2; replace hO := hO.afterRow .here hw.2.1 hw2; clear hw hw2 h4) | (go_at_call 15; refine (h5 _ (IsB.front (show IsB _ _ _ by unfold IsB; rw [HN3.out]; exact hO.rowIs List.mem_cons_self) (by rw [HN3.out]; omega) (by omega))).mono ?_; rintro e wv ⟨rfl, hb⟩; replace hO := hO.call hb; clear hb) | (go_at_call 51; refine (h6 _ (by unfold OwnsB; rw [HN3.out]; exact hO.row _ List.mem_cons_self)).mono ?_; rintro e wv hw; obtain rfl := hw.1; have hw2 := hw.2.2; rw [HN3.out] at hw2; replace hO := hO.afterRow .here hw.2.1 hw2; clear hw hw2 h6) | ((with_reducible refine is_load ?_); (refine own_ldW (hO := hO) (h := ?_))) | ((with_reducible refine is_store ?_); (refine own_stW (hO := hO) (h := ?_); clear hO; intro wv hO)))) | go_values | go_skip | go_guarded | go_step | go_upon | go_back | (simp only at *; go_simp) | (go_values <;> (try go_simp)) | (go_ite <;> go_prune <;> (try go_simp)) | (split <;> (first | (rename_i hx; exact (hx _ rfl).elim) | go_prune))))
        go_end0
        exact ⟨rfl, hO.keep, by rw [hE2.out]; exact hO.row _ List.mem_cons_self⟩
      · have hE2 := Lib.hid (show sumsR l false = hdSum (p16 m 22 s) by rw [hE, hs]; rfl)
        have h2 := fun w hv => set2_any (v := .slice (some ⟨g, 0, none⟩) l.length c) (l := m) 22 s w hv (by omega) (by omega) (by omega) (by omega)
        have hn2 := (p16_length m 22 s).trans hn
        have hb3 := hb2.p16 22 (x := s) (by omega) (by omega)
        generalize p16 m 22 s = m2 at *
        have HN := Lib.hid hn
        have HN2 := Lib.hid hn2
        have h4 := fun w hv => set2_any (v := .slice (some ⟨g, 0, none⟩) l.length c) (l := m2) 10 0 w hv (by omega) (by omega) (by omega) (by omega)
        have hn3 := (p16_length m2 10 0).trans hn2
        have hb4 := hb3.p16 10 (x := 0) (by omega) (by omega)
        have hE4 : hdSum m2 = p16 (p16 m2 10 0) 10 (ck ((p16 m2 10 0).take 20)) := rfl
        generalize p16 m2 10 0 = m3 at *
        have h5 := fun w hv => rcksum_any (v := .slice (some ⟨g, 0, none⟩) 20 c) (l := m3.take 20) w hv (hb4.take 20) (by simp; omega)
        have h6 := fun w hv => set2_any (v := .slice (some ⟨g, 0, none⟩) l.length c) (l := m3) 10 (ck (m3.take 20)) w hv (by omega) (ck_bd _).1 (ck_bd _).2 (by omega)
        obtain ⟨t0, t1⟩ := ck_bd (m3.take 20)
        generalize ck (m3.take 20) = s3 at *
        have HN3 := Lib.hid hn3
        replace hE2 := Lib.hid (hE2.out.trans hE4)
        clear hn hn2 hn3 hb hb2 hb3 hb4 hE hE4 hp
        go_enter Tryd.func53, Tryd.ntmps53
        (repeat' (first | go_skip | ((first | ((with_reducible apply wp_move_bool); (focus rfl)) | ((with_reducible apply wp_move_boolG); (focus rfl); (focus rfl))); intro cb hcb; (cases cb <;> (first | (with_reducible exact no_tf hcb) | (with_reducible exact no_ft hcb) | skip)); all_goals ((try simp only [Act.put]); (try simp only [List.setIfInBounds_toArray, List.set_cons_zero, List.set_cons_succ]))) | (go_big_may; (first | ((with_reducible refine is_load ?_); (first | (refine own_ldP hO (h := ?_)) | (refine own_ld (h := ?_)))) | ((with_reducible refine is_store ?_); (first | (refine own_stRp (hO := hO) (h := ?_); clear hO; intro wv hO) | (refine own_st1p (hO := hO) (h := ?_); clear hO; intro wv hO) | (refine own_stR (hO := hO) (h := ?_); clear hO; intro wv hO) | (refine own_st1 (hO := hO) (h := ?_); clear hO; intro wv hO))) | (go_at_call 70; refine (hsum _).mono ?_; rintro e _ ⟨rfl, rfl⟩) | (go_at_call 63; refine (hg _ (show IsB _ _ _ by unfold IsB; exact hO.rowIs List.mem_cons_self)).mono ?_; rintro e wv ⟨rfl, hb⟩; replace hO := hO.call hb; clear hb) | (go_at_call 51; refine (h1 _ (hO.row _ List.mem_cons_self)).mono ?_; rintro e wv hw; obtain rfl := hw.1; replace hO := hO.afterRow .here hw.2.1 hw.2.2; clear hw h1) | (go_at_call 71; refine (hB _ (show IsB _ _ _ by unfold IsB; rw [HN.out]; exact hO.rowIs List.mem_cons_self)).mono ?_; rintro e wv ⟨v2, rfl, g1, g2, g3, hb2⟩; replace hO := hO.call hb2; clear hb2 hB) | (go_at_call 15; refine (hck _ _ g1 g2 (by omega)).mono ?_; rintro e wv ⟨rfl, hb2⟩; replace hO := hO.call hb2; clear hb2 hck) | (go_at_call 51; refine (h2 _ (by unfold OwnsB; rw [HN.out]; exact hO.row _ List.mem_cons_self)).mono ?_; rintro e wv hw; obtain rfl := hw.1; have hw2 := hw.2.2; rw [HN.out] at hw2; replace hO := hO.afterRow .here hw.2.1 hw2; clear hw hw2 h2) | (go_at_call 51; refine (h4 _ (by unfold OwnsB; rw [HN2.out]; exact hO.row _ List.mem_cons_self)).mono ?_; rintro e wv hw; obtain rfl := hw.1; have hw2 := hw.2.2; rw [HN2.out] at hw2; replace hO := hO.afterRow .here hw.2.1 hw2; clear hw hw2 h4) | (go_at_call 15; refine (h5 _ (IsB.front (show IsB _ _ _ by unfold IsB; rw [HN3.out]; exact hO.rowIs List.mem_cons_self) (by rw [HN3.out]; omega) (by omega))).mono ?_; rintro e wv ⟨rfl, hb⟩; replace hO := hO.call hb; clear hb) | (go_at_call 51; refine (h6 _ (by unfold OwnsB; rw [HN3.out]; exact hO.row _ List.mem_cons_self)).mono ?_; rintro e wv hw; obtain rfl := hw.1; have hw2 := hw.2.2; rw [HN3.out] at hw2; replace hO := hO.afterRow .here hw.2.1 hw2; clear hw hw2 h6) | ((with_reducible refine is_load ?_); (refine own_ldW (hO := hO) (h := ?_))) | ((with_reducible refine is_store ?_); (refine own_stW (hO := hO) (h := ?_); clear hO; intro wv hO)))) | go_values | go_skip | go_guarded | go_step | go_upon | go_back | (simp only at *; go_simp) | (go_values <;> (try go_simp)) | (go_ite <;> go_prune <;> (try go_simp)) | (split <;> (first | (rename_i hx; exact (hx _ rfl).elim) | go_prune))))
        go_end0
        exact ⟨rfl, hO.keep, by rw [hE2.out]; exact hO.row _ List.mem_cons_self⟩
    · replace hkeep := hkeep true
      have h1 := fun w hv => set2_any (v := .slice (some ⟨g, 0, none⟩) l.length c) (l := l) 22 0 w hv (by omega) (by omega) (by omega) (by omega)
      have hn := p16_length l 22 0
      have hb2 := hb.p16 22 (x := 0) (by omega) (by omega)
      have c9 := bc_at (l := p16 l 22 0) (k := 9) (by rw [hn]; omega)
      rw [gt_p16_ne (by omega) (by omega), hp] at c9
      have hE : sumsR l true = hdSum (bdSum l 22 false) := by rw [hkeep]; unfold sumsF; rw [hp]; rfl
      unfold bdSum at hE
      clear hkeep
      generalize p16 l 22 0 = m at *
      have hB := fun w hv => covered_any (v := .slice (some ⟨g, 0, none⟩) l.length c) (l := m) w hv hb2 (by omega) (by omega)
      have hck := fun v w hv => rcksum_any (v := v) (l := cov m) w hv
      obtain ⟨s0, s1⟩ := ck_bd (cov m)
      generalize cov m = cl at *
      generalize ck cl = s at *
      cases hs : (s == 0)
      · have hE2 := Lib.hid (show sumsR l true = hdSum (p16 m 22 s) by rw [hE, hs]; rfl)
        have h2 := fun w hv => set2_any (v := .slice (some ⟨g, 0, none⟩) l.length c) (l := m) 22 s w hv (by omega) (by omega) (by omega) (by omega)
        have hn2 := (p16_length m 22 s).trans hn
        have hb3 := hb2.p16 22 (x := s) (by omega) (by omega)
        generalize p16 m 22 s = m2 at *
        have HN := Lib.hid hn
        have HN2 := Lib.hid hn2
        have h4 := fun w hv => set2_any (v := .slice (some ⟨g, 0, none⟩) l.length c) (l := m2) 10 0 w hv (by omega) (by omega) (by omega) (by omega)
        have hn3 := (p16_length m2 10 0).trans hn2
        have hb4 := hb3.p16 10 (x := 0) (by omega) (by omega)
        have hE4 : hdSum m2 = p16 (p16 m2 10 0) 10 (ck ((p16 m2 10 0).take 20)) := rfl
        generalize p16 m2 10 0 = m3 at *
        have h5 := fun w hv => rcksum_any (v := .slice (some ⟨g, 0, none⟩) 20 c) (l := m3.take 20) w hv (hb4.take 20) (by simp; omega)
        have h6 := fun w hv => set2_any (v := .slice (some ⟨g, 0, none⟩) l.length c) (l := m3) 10 (ck (m3.take 20)) w hv (by omega) (ck_bd _).1 (ck_bd _).2 (by omega)
        obtain ⟨t0, t1⟩ := ck_bd (m3.take 20)
        generalize ck (m3.take 20) = s3 at *
        have HN3 := Lib.hid hn3
        replace hE2 := Lib.hid (hE2.out.trans hE4)
        clear hn hn2 hn3 hb hb2 hb3 hb4 hE hE4 hp
        go_enter Tryd.func53, Tryd.ntmps53
        (repeat' (first | go_skip | ((first | ((with_reducible apply wp_move_bool); (focus rfl)) | ((with_reducible apply wp_move_boolG); (focus rfl); (focus rfl))); intro cb hcb; (cases cb <;> (first | (with_reducible exact no_tf hcb) | (with_reducible exact no_ft hcb) | skip)); all_goals ((try simp only [Act.put]); (try simp only [List.setIfInBounds_toArray, List.set_cons_zero, List.set_cons_succ]))) | (go_big_may; (first | ((with_reducible refine is_load ?_); (first | (refine own_ldP hO (h := ?_)) | (refine own_ld (h := ?_)))) | ((with_reducible refine is_store ?_); (first | (refine own_stRp (hO := hO) (h := ?_); clear hO; intro wv hO) | (refine own_st1p (hO := hO) (h := ?_); clear hO; intro wv hO) | (refine own_stR (hO := hO) (h := ?_); clear hO; intro wv hO) | (refine own_st1 (hO := hO) (h := ?_); clear hO; intro wv hO))) | (go_at_call 70; refine (hsum _).mono ?_; rintro e _ ⟨rfl, rfl⟩) | (go_at_call 63; refine (hg _ (show IsB _ _ _ by unfold IsB; exact hO.rowIs List.mem_cons_self)).mono ?_; rintro e wv ⟨rfl, hb⟩; replace hO := hO.call hb; clear hb) | (go_at_call 51; refine (h1 _ (hO.row _ List.mem_cons_self)).mono ?_; rintro e wv hw; obtain rfl := hw.1; replace hO := hO.afterRow .here hw.2.1 hw.2.2; clear hw h1) | (go_at_call 71; refine (hB _ (show IsB _ _ _ by unfold IsB; rw [HN.out]; exact hO.rowIs List.mem_cons_self)).mono ?_; rintro e wv ⟨v2, rfl, g1, g2, g3, hb2⟩; replace hO := hO.call hb2; clear hb2 hB) | (go_at_call 15; refine (hck _ _ g1 g2 (by omega)).mono ?_; rintro e wv ⟨rfl, hb2⟩; replace hO := hO.call hb2; clear hb2 hck) | (go_at_call 51; refine (h2 _ (by unfold OwnsB; rw [HN.out]; exact hO.row _ List.mem_cons_self)).mono ?_; rintro e wv hw; obtain rfl := hw.1; have hw2 := hw.2.2; rw [HN.out] at hw2; replace hO := hO.afterRow .here hw.2.1 hw2; clear hw hw2 h2) | (go_at_call 51; refine (h4 _ (by unfold OwnsB; rw [HN2.out]; exact hO.row _ List.mem_cons_self)).mono ?_; rintro e wv hw; obtain rfl := hw.1; have hw2 := hw.2.2; rw [HN2.out] at hw2; replace hO := hO.afterRow .here hw.2.1 hw2; clear hw hw2 h4) | (go_at_call 15; refine (h5 _ (IsB.front (show IsB _ _ _ by unfold IsB; rw [HN3.out]; exact hO.rowIs List.mem_cons_self) (by rw [HN3.out]; omega) (by omega))).mono ?_; rintro e wv ⟨rfl, hb⟩; replace hO := hO.call hb; clear hb) | (go_at_call 51; refine (h6 _ (by unfold OwnsB; rw [HN3.out]; exact hO.row _ List.mem_cons_self)).mono ?_; rintro e wv hw; obtain rfl := hw.1; have hw2 := hw.2.2; rw [HN3.out] at hw2; replace hO := hO.afterRow .here hw.2.1 hw2; clear hw hw2 h6) | ((with_reducible refine is_load ?_); (refine own_ldW (hO := hO) (h := ?_))) | ((with_reducible refine is_store ?_); (refine own_stW (hO := hO) (h := ?_); clear hO; intro wv hO)))) | go_values | go_skip | go_guarded | go_step | go_upon | go_back | (simp only at *; go_simp) | (go_values <;> (try go_simp)) | (go_ite <;> go_prune <;> (try go_simp)) | (split <;> (first | (rename_i hx; exact (hx _ rfl).elim) | go_prune))))
        go_end0
        exact ⟨rfl, hO.keep, by rw [hE2.out]; exact hO.row _ List.mem_cons_self⟩
      · have hE2 := Lib.hid (show sumsR l true = hdSum (p16 m 22 s) by rw [hE, hs]; rfl)
        have h2 := fun w hv => set2_any (v := .slice (some ⟨g, 0, none⟩) l.length c) (l := m) 22 s w hv (by omega) (by omega) (by omega) (by omega)
        have hn2 := (p16_length m 22 s).trans hn
        have hb3 := hb2.p16 22 (x := s) (by omega) (by omega)
        generalize p16 m 22 s = m2 at *
        have HN := Lib.hid hn
        have HN2 := Lib.hid hn2
        have h4 := fun w hv => set2_any (v := .slice (some ⟨g, 0, none⟩) l.length c) (l := m2) 10 0 w hv (by omega) (by omega) (by omega) (by omega)
        have hn3 := (p16_length m2 10 0).trans hn2
        have hb4 := hb3.p16 10 (x := 0) (by omega) (by omega)
        have hE4 : hdSum m2 = p16 (p16 m2 10 0) 10 (ck ((p16 m2 10 0).take 20)) := rfl
        generalize p16 m2 10 0 = m3 at *
        have h5 := fun w hv => rcksum_any (v := .slice (some ⟨g, 0, none⟩) 20 c) (l := m3.take 20) w hv (hb4.take 20) (by simp; omega)
        have h6 := fun w hv => set2_any (v := .slice (some ⟨g, 0, none⟩) l.length c) (l := m3) 10 (ck (m3.take 20)) w hv (by omega) (ck_bd _).1 (ck_bd _).2 (by omega)
        obtain ⟨t0, t1⟩ := ck_bd (m3.take 20)
        generalize ck (m3.take 20) = s3 at *
        have HN3 := Lib.hid hn3
        replace hE2 := Lib.hid (hE2.out.trans hE4)
        clear hn hn2 hn3 hb hb2 hb3 hb4 hE hE4 hp
        go_enter Tryd.func53, Tryd.ntmps53
        (repeat' (first | go_skip | ((first | ((with_reducible apply wp_move_bool); (focus rfl)) | ((with_reducible apply wp_move_boolG); (focus rfl); (focus rfl))); intro cb hcb; (cases cb <;> (first | (with_reducible exact no_tf hcb) | (with_reducible exact no_ft hcb) | skip)); all_goals ((try simp only [Act.put]); (try simp only [List.setIfInBounds_toArray, List.set_cons_zero, List.set_cons_succ]))) | (go_big_may; (first | ((with_reducible refine is_load ?_); (first | (refine own_ldP hO (h := ?_)) | (refine own_ld (h := ?_)))) | ((with_reducible refine is_store ?_); (first | (refine own_stRp (hO := hO) (h := ?_); clear hO; intro wv hO) | (refine own_st1p (hO := hO) (h := ?_); clear hO; intro wv hO) | (refine own_stR (hO := hO) (h := ?_); clear hO; intro wv hO) | (refine own_st1 (hO := hO) (h := ?_); clear hO; intro wv hO))) | (go_at_call 70; refine (hsum _).mono ?_; rintro e _ ⟨rfl, rfl⟩) | (go_at_call 63; refine (hg _ (show IsB _ _ _ by unfold IsB; exact hO.rowIs List.mem_cons_self)).mono ?_; rintro e wv ⟨rfl, hb⟩; replace hO := hO.call hb; clear hb) | (go_at_call 51; refine (h1 _ (hO.row _ List.mem_cons_self)).mono ?_; rintro e wv hw; obtain rfl := hw.1; replace hO := hO.afterRow .here hw.2.1 hw.2.2; clear hw h1) | (go_at_call 71; refine (hB _ (show IsB _ _ _ by unfold IsB; rw [HN.out]; exact hO.rowIs List.mem_cons_self)).mono ?_; rintro e wv ⟨v2, rfl, g1, g2, g3, hb2⟩; replace hO := hO.call hb2; clear hb2 hB) | (go_at_call 15; refine (hck _ _ g1 g2 (by omega)).mono ?_; rintro e wv ⟨rfl, hb2⟩; replace hO := hO.call hb2; clear hb2 hck) | (go_at_call 51; refine (h2 _ (by unfold OwnsB; rw [HN.out]; exact hO.row _ List.mem_cons_self)).mono ?_; rintro e wv hw; obtain rfl := hw.1; have hw2 := hw.2.2; rw [HN.out] at hw2; replace hO := hO.afterRow .here hw.2.1 hw2; clear hw hw2 h2) | (go_at_call 51; refine (h4 _ (by unfold OwnsB; rw [HN2.out]; exact hO.row _ List.mem_cons_self)).mono ?_; rintro e wv hw; obtain rfl := hw.1; have hw2 := hw.2.2; rw [HN2.out] at hw2; replace hO := hO.afterRow .here hw.2.1 hw2; clear hw hw2 h4) | (go_at_call 15; refine (h5 _ (IsB.front (show IsB _ _ _ by unfold IsB; rw [HN3.out]; exact hO.rowIs List.mem_cons_self) (by rw [HN3.out]; omega) (by omega))).mono ?_; rintro e wv ⟨rfl, hb⟩; replace hO := hO.call hb; clear hb) | (go_at_call 51; refine (h6 _ (by unfold OwnsB; rw [HN3.out]; exact hO.row _ List.mem_cons_self)).mono ?_; rintro e wv hw; obtain rfl := hw.1; have hw2 := hw.2.2; rw [HN3.out] at hw2; replace hO := hO.afterRow .here hw.2.1 hw2; clear hw hw2 h6) | ((with_reducible refine is_load ?_); (refine own_ldW (hO := hO) (h := ?_))) | ((with_reducible refine is_store ?_); (refine own_stW (hO := hO) (h := ?_); clear hO; intro wv hO)))) | go_values | go_skip | go_guarded | go_step | go_upon | go_back | (simp only at *; go_simp) | (go_values <;> (try go_simp)) | (go_ite <;> go_prune <;> (try go_simp)) | (split <;> (first | (rename_i hx; exact (hx _ rfl).elim) | go_prune))))
        go_end0
        exact ⟨rfl, hO.keep, by rw [hE2.out]; exact hO.row _ List.mem_cons_self⟩
  · have e0 : sumAtR (gt l 9) = -1 := by unfold sumAtR; rw [q1, q2, q3]; rfl
    rw [e0] at hsum
    have hE2 := Lib.hid (show sumsR l keep = hdSum l by rw [sumsR_ne keep q2]; unfold sumsF; rw [q1, q2, q3]; rfl)
    clear hu e0 q1 q2 q3 hg
    have hn2 : l.length = l.length := rfl
    have h4 := fun w hv => set2_any (v := .slice (some ⟨g, 0, none⟩) l.length c) (l := l) 10 0 w hv (by omega) (by omega) (by omega) (by omega)
    have hn3 := (p16_length l 10 0).trans hn2
    have hb4 := hb.p16 10 (x := 0) (by omega) (by omega)
    have hE4 : hdSum l = p16 (p16 l 10 0) 10 (ck ((p16 l 10 0).take 20)) := rfl
    generalize p16 l 10 0 = m3 at *
    have h5 := fun w hv => rcksum_any (v := .slice (some ⟨g, 0, none⟩) 20 c) (l := m3.take 20) w hv (hb4.take 20) (by simp; omega)
    have h6 := fun w hv => set2_any (v := .slice (some ⟨g, 0, none⟩) l.length c) (l := m3) 10 (ck (m3.take 20)) w hv (by omega) (ck_bd _).1 (ck_bd _).2 (by omega)
    obtain ⟨t0, t1⟩ := ck_bd (m3.take 20)
    generalize ck (m3.take 20) = s3 at *
    have HN3 := Lib.hid hn3
    replace hE2 := Lib.hid (hE2.out.trans hE4)
    clear hn2 hn3 hb hb4 hE4
    go_enter Tryd.func53, Tryd.ntmps53
    (repeat' (first | go_skip | ((first | ((with_reducible apply wp_move_bool); (focus rfl)) | ((with_reducible apply wp_move_boolG); (focus rfl); (focus rfl))); intro cb hcb; (cases cb <;> (first | (with_reducible exact no_tf hcb) | (with_reducible exact no_ft hcb) | skip)); all_goals ((try simp only [Act.put]); (try simp only [List.setIfInBounds_toArray, List.set_cons_zero, List.set_cons_succ]))) | (go_big_may; (first | ((with_reducible refine is_load ?_); (first | (refine own_ldP hO (h := ?_)) | (refine own_ld (h := ?_)))) | ((with_reducible refine is_store ?_); (first | (refine own_stRp (hO := hO) (h := ?_); clear hO; intro wv hO) | (refine own_st1p (hO := hO) (h := ?_); clear hO; intro wv hO) | (refine own_stR (hO := hO) (h := ?_); clear hO; intro wv hO) | (refine own_st1 (hO := hO) (h := ?_); clear hO; intro wv hO))) | (go_at_call 70; refine (hsum _).mono ?_; rintro e _ ⟨rfl, rfl⟩) | (go_at_call 63; refine (hg _ (show IsB _ _ _ by unfold IsB; exact hO.rowIs List.mem_cons_self)).mono ?_; rintro e wv ⟨rfl, hb⟩; replace hO := hO.call hb; clear hb) | (go_at_call 51; refine (h4 _ (hO.row _ List.mem_cons_self)).mono ?_; rintro e wv hw; obtain rfl := hw.1; replace hO := hO.afterRow .here hw.2.1 hw.2.2; clear hw h4) | (go_at_call 15; refine (h5 _ (IsB.front (show IsB _ _ _ by unfold IsB; rw [HN3.out]; exact hO.rowIs List.mem_cons_self) (by rw [HN3.out]; omega) (by omega))).mono ?_; rintro e wv ⟨rfl, hb⟩; replace hO := hO.call hb; clear hb) | (go_at_call 51; refine (h6 _ (by unfold OwnsB; rw [HN3.out]; exact hO.row _ List.mem_cons_self)).mono ?_; rintro e wv hw; obtain rfl := hw.1; have hw2 := hw.2.2; rw [HN3.out] at hw2; replace hO := hO.afterRow .here hw.2.1 hw2; clear hw hw2 h6) | ((with_reducible refine is_load ?_); (refine own_ldW (hO := hO) (h := ?_))) | ((with_reducible refine is_store ?_); (refine own_stW (hO := hO) (h := ?_); clear hO; intro wv hO)))) | go_values | go_skip | go_guarded | go_step | go_upon | go_back | (simp only at *; go_simp) | (go_values <;> (try go_simp)) | (go_ite <;> go_prune <;> (try go_simp)) | (split <;> (first | (rename_i hx; exact (hx _ rfl).elim) | go_prune))))
    go_end0
    exact ⟨rfl, hO.keep, by rw [hE2.out]; exact hO.row _ List.mem_cons_self⟩
end Go.Proofs.YtjfiipbjphabeaaDoor

/- Headers are written into packets. -/
namespace Go.Proofs.YtjfiipbjphabeaaDoor
open Go.RowKit
set_option maxRecDepth 100000

/-- the ports written -/
def portsF (l : List Int) (h : Hd) : List Int :=
  if h.proto == 6 then p16 (p16 l 20 h.sport) 22 h.dport else if h.proto == 17 then p16 (p16 l 20 h.sport) 22 h.dport else if h.proto == 1 then (if gt l 20 == 8 then p16 l 24 h.sport else p16 l 24 h.dport) else l
/-- the header written -/
def hdrF (l : List Int) (h : Hd) : List Int := portsF (p32 (p32 l 12 h.src) 16 h.dst) h
theorem portsF_length (l : List Int) (h : Hd) : (portsF l h).length = l.length := by
  unfold portsF
  repeat' split
  all_goals simp [p16_length]
theorem hdrF_length (l : List Int) (h : Hd) : (hdrF l h).length = l.length := by simp [hdrF, portsF_length, p32_length]
set_option maxHeartbeats 8000000 in
theorem putHeader_any {v : Value} {l : List Int} (h : Hd) (w : World) (hw0 : OwnsB w 0 v l) (hk : 20 ≤ l.length) (hl : l.length ≤ 65536) (ho : h.ok) (hu : h.proto = 6 ∨ h.proto = 17 ∨ h.proto = 1 → 26 ≤ l.length) :
    Calls Tryd.prog 48 #[v, hv h] w (WPost w v l (hdrF l h) (.tuple #[])) := by
  obtain ⟨g, c, rfl, hc⟩ := hw0.pos (by omega)
  have hO := own_takeRow hw0 [] (by simp)
  clear hw0
  obtain ⟨s, d, p, sp, dp⟩ := h
  obtain ⟨⟨a0, a1⟩, ⟨b0, b1⟩, ⟨e0, e1⟩, ⟨d0, d1⟩, f0, f1⟩ := ho
  dsimp only at *
  rcases proto_cases p with rfl | rfl | rfl | ⟨q1, q2, q3⟩
  · replace hu := hu (.inl rfl)
    have hE : hdrF l ⟨s, d, 6, sp, dp⟩ = p16 (p16 (p32 (p32 l 12 s) 16 d) 20 sp) 22 dp := rfl
    have h1 := fun w hv => put32_any (v := .slice (some ⟨g, 0, none⟩) l.length c) (l := l) 12 s w hv (by omega) (by omega) (by omega) (by omega)
    have hn := p32_length l 12 s
    have h20 : gt (p32 (p32 l 12 s) 16 d) 20 = gt l 20 := by rw [gt_p32_ne (by omega), gt_p32_ne (by omega)]
    generalize p32 l 12 s = m1 at *
    have h2 := fun w hv => put32_any (v := .slice (some ⟨g, 0, none⟩) l.length c) (l := m1) 16 d w hv (by omega) (by omega) (by omega) (by omega)
    have hn2 := (p32_length m1 16 d).trans hn
    have HN := Lib.hid hn
    generalize p32 m1 16 d = m2 at *
    have HN2 := Lib.hid hn2
    have h3 := fun w hv => put16_any (v := .slice (some ⟨g, 0, none⟩) l.length c) (l := m2) 20 sp w hv (by omega) (by omega) (by omega) (by omega)
    have hn3 := (p16_length m2 20 sp).trans hn2
    generalize p16 m2 20 sp = m3 at *
    have HN3 := Lib.hid hn3
    have h4 := fun w hv => put16_any (v := .slice (some ⟨g, 0, none⟩) l.length c) (l := m3) 22 dp w hv (by omega) (by omega) (by omega) (by omega)
    have HE := Lib.hid hE
    clear hE hn hn2 hn3 h20
    go_enter Tryd.func48, Tryd.ntmps48
    (repeat' (first | go_skip | ((first | ((with_reducible apply wp_move_bool); (focus rfl)) | ((with_reducible apply wp_move_boolG); (focus rfl); (focus rfl))); intro cb hcb; (cases cb <;> (first | (with_reducible exact no_tf hcb) | (with_reducible exact no_ft hcb) | skip)); all_goals ((try simp only [Act.put]); (try simp only [List.setIfInBounds_toArray, List.set_cons_zero, List.set_cons_succ]))) | (go_big_may; (first | ((with_reducible refine is_load ?_); (first | (refine own_ldP hO (h := ?_)) | (refine own_ld (h := ?_)))) | ((with_reducible refine is_store ?_); (first | (refine own_stRp (hO := hO) (h := ?_); clear hO; intro wv hO) | (refine own_st1p (hO := hO) (h := ?_); clear hO; intro wv hO) | (refine own_stR (hO := hO) (h := ?_); clear hO; intro wv hO) | (refine own_st1 (hO := hO) (h := ?_); clear hO; intro wv hO))) | ((with_reducible refine is_box ?_); (first | (refine own_bx (o := ⟨some 3, _, _, _, _, _⟩) (hO := hO) (h := ?_); clear hO; intro n3 wv hO))) | (go_at_call 67; refine (h1 _ (hO.row _ List.mem_cons_self)).mono ?_; rintro e wv hw; obtain rfl := hw.1; replace hO := hO.afterRow .here hw.2.1 hw.2.2; clear hw h1) | (go_at_call 67; refine (h2 _ (by unfold OwnsB; rw [HN.out]; exact hO.row _ List.mem_cons_self)).mono ?_; rintro e wv hw; obtain rfl := hw.1; have hw2 := hw.2.2; rw [HN.out] at hw2; replace hO := hO.afterRow .here hw.2.1 hw2; clear hw hw2 h2) | (go_at_call 47; refine (h3 _ (by unfold OwnsB; rw [HN2.out]; exact hO.row _ List.mem_cons_self)).mono ?_; rintro e wv hw; obtain rfl := hw.1; have hw2 := hw.2.2; rw [HN2.out] at hw2; replace hO := hO.afterRow .here hw.2.1 hw2; clear hw hw2 h3) | (go_at_call 47; refine (h4 _ (by unfold OwnsB; rw [HN3.out]; exact hO.row _ List.mem_cons_self)).mono ?_; rintro e wv hw; obtain rfl := hw.1; have hw2 := hw.2.2; rw [HN3.out] at hw2; replace hO := hO.afterRow .here hw.2.1 hw2; clear hw hw2 h4) | ((with_reducible refine is_load ?_); (refine own_ldW (hO := hO) (h := ?_))) | ((with_reducible refine is_store ?_); (refine own_stW (hO := hO) (h := ?_); clear hO; intro wv hO)))) | go_values | go_skip | go_guarded | go_step | go_upon | go_back | (simp only at *; go_simp) | (go_values <;> (try go_simp)) | (go_ite <;> go_prune <;> (try go_simp)) | (split <;> (first | (rename_i hx; exact (hx _ rfl).elim) | go_prune))))
    go_end0
    exact ⟨rfl, hO.keep, by rw [HE.out]; exact hO.row _ List.mem_cons_self⟩
  · replace hu := hu (.inr (.inl rfl))
    have hE : hdrF l ⟨s, d, 17, sp, dp⟩ = p16 (p16 (p32 (p32 l 12 s) 16 d) 20 sp) 22 dp := rfl
    have h1 := fun w hv => put32_any (v := .slice (some ⟨g, 0, none⟩) l.length c) (l := l) 12 s w hv (by omega) (by omega) (by omega) (by omega)
    have hn := p32_length l 12 s
    have h20 : gt (p32 (p32 l 12 s) 16 d) 20 = gt l 20 := by rw [gt_p32_ne (by omega), gt_p32_ne (by omega)]
    generalize p32 l 12 s = m1 at *
    have h2 := fun w hv => put32_any (v := .slice (some ⟨g, 0, none⟩) l.length c) (l := m1) 16 d w hv (by omega) (by omega) (by omega) (by omega)
    have hn2 := (p32_length m1 16 d).trans hn
    have HN := Lib.hid hn
    generalize p32 m1 16 d = m2 at *
    have HN2 := Lib.hid hn2
    have h3 := fun w hv => put16_any (v := .slice (some ⟨g, 0, none⟩) l.length c) (l := m2) 20 sp w hv (by omega) (by omega) (by omega) (by omega)
    have hn3 := (p16_length m2 20 sp).trans hn2
    generalize p16 m2 20 sp = m3 at *
    have HN3 := Lib.hid hn3
    have h4 := fun w hv => put16_any (v := .slice (some ⟨g, 0, none⟩) l.length c) (l := m3) 22 dp w hv (by omega) (by omega) (by omega) (by omega)
    have HE := Lib.hid hE
    clear hE hn hn2 hn3 h20
    go_enter Tryd.func48, Tryd.ntmps48
    (repeat' (first | go_skip | ((first | ((with_reducible apply wp_move_bool); (focus rfl)) | ((with_reducible apply wp_move_boolG); (focus rfl); (focus rfl))); intro cb hcb; (cases cb <;> (first | (with_reducible exact no_tf hcb) | (with_reducible exact no_ft hcb) | skip)); all_goals ((try simp only [Act.put]); (try simp only [List.setIfInBounds_toArray, List.set_cons_zero, List.set_cons_succ]))) | (go_big_may; (first | ((with_reducible refine is_load ?_); (first | (refine own_ldP hO (h := ?_)) | (refine own_ld (h := ?_)))) | ((with_reducible refine is_store ?_); (first | (refine own_stRp (hO := hO) (h := ?_); clear hO; intro wv hO) | (refine own_st1p (hO := hO) (h := ?_); clear hO; intro wv hO) | (refine own_stR (hO := hO) (h := ?_); clear hO; intro wv hO) | (refine own_st1 (hO := hO) (h := ?_); clear hO; intro wv hO))) | ((with_reducible refine is_box ?_); (first | (refine own_bx (o := ⟨some 3, _, _, _, _, _⟩) (hO := hO) (h := ?_); clear hO; intro n3 wv hO))) | (go_at_call 67; refine (h1 _ (hO.row _ List.mem_cons_self)).mono ?_; rintro e wv hw; obtain rfl := hw.1; replace hO := hO.afterRow .here hw.2.1 hw.2.2; clear hw h1) | (go_at_call 67; refine (h2 _ (by unfold OwnsB; rw [HN.out]; exact hO.row _ List.mem_cons_self)).mono ?_; rintro e wv hw; obtain rfl := hw.1; have hw2 := hw.2.2; rw [HN.out] at hw2; replace hO := hO.afterRow .here hw.2.1 hw2; clear hw hw2 h2) | (go_at_call 47; refine (h3 _ (by unfold OwnsB; rw [HN2.out]; exact hO.row _ List.mem_cons_self)).mono ?_; rintro e wv hw; obtain rfl := hw.1; have hw2 := hw.2.2; rw [HN2.out] at hw2; replace hO := hO.afterRow .here hw.2.1 hw2; clear hw hw2 h3) | (go_at_call 47; refine (h4 _ (by unfold OwnsB; rw [HN3.out]; exact hO.row _ List.mem_cons_self)).mono ?_; rintro e wv hw; obtain rfl := hw.1; have hw2 := hw.2.2; rw [HN3.out] at hw2; replace hO := hO.afterRow .here hw.2.1 hw2; clear hw hw2 h4) | ((with_reducible refine is_load ?_); (refine own_ldW (hO := hO) (h := ?_))) | ((with_reducible refine is_store ?_); (refine own_stW (hO := hO) (h := ?_); clear hO; intro wv hO)))) | go_values | go_skip | go_guarded | go_step | go_upon | go_back | (simp only at *; go_simp) | (go_values <;> (try go_simp)) | (go_ite <;> go_prune <;> (try go_simp)) | (split <;> (first | (rename_i hx; exact (hx _ rfl).elim) | go_prune))))
    go_end0
    exact ⟨rfl, hO.keep, by rw [HE.out]; exact hO.row _ List.mem_cons_self⟩
  · replace hu := hu (.inr (.inr rfl))
    have hE : hdrF l ⟨s, d, 1, sp, dp⟩ = (if gt (p32 (p32 l 12 s) 16 d) 20 == 8 then p16 (p32 (p32 l 12 s) 16 d) 24 sp else p16 (p32 (p32 l 12 s) 16 d) 24 dp) := rfl
    have h1 := fun w hv => put32_any (v := .slice (some ⟨g, 0, none⟩) l.length c) (l := l) 12 s w hv (by omega) (by omega) (by omega) (by omega)
    have hn := p32_length l 12 s
    have h20 : gt (p32 (p32 l 12 s) 16 d) 20 = gt l 20 := by rw [gt_p32_ne (by omega), gt_p32_ne (by omega)]
    generalize p32 l 12 s = m1 at *
    have h2 := fun w hv => put32_any (v := .slice (some ⟨g, 0, none⟩) l.length c) (l := m1) 16 d w hv (by omega) (by omega) (by omega) (by omega)
    have hn2 := (p32_length m1 16 d).trans hn
    have HN := Lib.hid hn
    generalize p32 m1 16 d = m2 at *
    have HN2 := Lib.hid hn2
    have c20 := bc_at (l := m2) (k := 20) (by omega)
    generalize gt m2 20 = q at *
    cases hq : (q == 8)
    · skip
      have h3 := fun w hv => put16_any (v := .slice (some ⟨g, 0, none⟩) l.length c) (l := m2) 24 dp w hv (by omega) (by omega) (by omega) (by omega)
      have HE := Lib.hid (show hdrF l ⟨s, d, 1, sp, dp⟩ = p16 m2 24 dp by rw [hE, hq]; rfl)
      clear hE hn hn2 h20
      go_enter Tryd.func48, Tryd.ntmps48
      (repeat' (first | go_skip | ((first | ((with_reducible apply wp_move_bool); (focus rfl)) | ((with_reducible apply wp_move_boolG); (focus rfl); (focus rfl))); intro cb hcb; (cases cb <;> (first | (with_reducible exact no_tf hcb) | (with_reducible exact no_ft hcb) | skip)); all_goals ((try simp only [Act.put]); (try simp only [List.setIfInBounds_toArray, List.set_cons_zero, List.set_cons_succ]))) | (go_big_may; (first | ((with_reducible refine is_load ?_); (first | (refine own_ldP hO (h := ?_)) | (refine own_ld (h := ?_)))) | ((with_reducible refine is_store ?_); (first | (refine own_stRp (hO := hO) (h := ?_); clear hO; intro wv hO) | (refine own_st1p (hO := hO) (h := ?_); clear hO; intro wv hO) | (refine own_stR (hO := hO) (h := ?_); clear hO; intro wv hO) | (refine own_st1 (hO := hO) (h := ?_); clear hO; intro wv hO))) | ((with_reducible refine is_box ?_); (first | (refine own_bx (o := ⟨some 3, _, _, _, _, _⟩) (hO := hO) (h := ?_); clear hO; intro n3 wv hO))) | (go_at_call 67; refine (h1 _ (hO.row _ List.mem_cons_self)).mono ?_; rintro e wv hw; obtain rfl := hw.1; replace hO := hO.afterRow .here hw.2.1 hw.2.2; clear hw h1) | (go_at_call 67; refine (h2 _ (by unfold OwnsB; rw [HN.out]; exact hO.row _ List.mem_cons_self)).mono ?_; rintro e wv hw; obtain rfl := hw.1; have hw2 := hw.2.2; rw [HN.out] at hw2; replace hO := hO.afterRow .here hw.2.1 hw2; clear hw hw2 h2) | (go_at_call 47; refine (h3 _ (by unfold OwnsB; rw [HN2.out]; exact hO.row _ List.mem_cons_self)).mono ?_; rintro e wv hw; obtain rfl := hw.1; have hw2 := hw.2.2; rw [HN2.out] at hw2; replace hO := hO.afterRow .here hw.2.1 hw2; clear hw hw2 h3) | ((with_reducible refine is_load ?_); (refine own_ldW (hO := hO) (h := ?_))) | ((with_reducible refine is_store ?_); (refine own_stW (hO := hO) (h := ?_); clear hO; intro wv hO)))) | go_values | go_skip | go_guarded | go_step | go_upon | go_back | (simp only at *; go_simp) | (go_values <;> (try go_simp)) | (go_ite <;> go_prune <;> (try go_simp)) | (split <;> (first | (rename_i hx; exact (hx _ rfl).elim) | go_prune))))
      go_end0
      exact ⟨rfl, hO.keep, by rw [HE.out]; exact hO.row _ List.mem_cons_self⟩
    · skip
      have h3 := fun w hv => put16_any (v := .slice (some ⟨g, 0, none⟩) l.length c) (l := m2) 24 sp w hv (by omega) (by omega) (by omega) (by omega)
      have HE := Lib.hid (show hdrF l ⟨s, d, 1, sp, dp⟩ = p16 m2 24 sp by rw [hE, hq]; rfl)
      clear hE hn hn2 h20
      go_enter Tryd.func48, Tryd.ntmps48
      (repeat' (first | go_skip | ((first | ((with_reducible apply wp_move_bool); (focus rfl)) | ((with_reducible apply wp_move_boolG); (focus rfl); (focus rfl))); intro cb hcb; (cases cb <;> (first | (with_reducible exact no_tf hcb) | (with_reducible exact no_ft hcb) | skip)); all_goals ((try simp only [Act.put]); (try simp only [List.setIfInBounds_toArray, List.set_cons_zero, List.set_cons_succ]))) | (go_big_may; (first | ((with_reducible refine is_load ?_); (first | (refine own_ldP hO (h := ?_)) | (refine own_ld (h := ?_)))) | ((with_reducible refine is_store ?_); (first | (refine own_stRp (hO := hO) (h := ?_); clear hO; intro wv hO) | (refine own_st1p (hO := hO) (h := ?_); clear hO; intro wv hO) | (refine own_stR (hO := hO) (h := ?_); clear hO; intro wv hO) | (refine own_st1 (hO := hO) (h := ?_); clear hO; intro wv hO))) | ((with_reducible refine is_box ?_); (first | (refine own_bx (o := ⟨some 3, _, _, _, _, _⟩) (hO := hO) (h := ?_); clear hO; intro n3 wv hO))) | (go_at_call 67; refine (h1 _ (hO.row _ List.mem_cons_self)).mono ?_; rintro e wv hw; obtain rfl := hw.1; replace hO := hO.afterRow .here hw.2.1 hw.2.2; clear hw h1) | (go_at_call 67; refine (h2 _ (by unfold OwnsB; rw [HN.out]; exact hO.row _ List.mem_cons_self)).mono ?_; rintro e wv hw; obtain rfl := hw.1; have hw2 := hw.2.2; rw [HN.out] at hw2; replace hO := hO.afterRow .here hw.2.1 hw2; clear hw hw2 h2) | (go_at_call 47; refine (h3 _ (by unfold OwnsB; rw [HN2.out]; exact hO.row _ List.mem_cons_self)).mono ?_; rintro e wv hw; obtain rfl := hw.1; have hw2 := hw.2.2; rw [HN2.out] at hw2; replace hO := hO.afterRow .here hw.2.1 hw2; clear hw hw2 h3) | ((with_reducible refine is_load ?_); (refine own_ldW (hO := hO) (h := ?_))) | ((with_reducible refine is_store ?_); (refine own_stW (hO := hO) (h := ?_); clear hO; intro wv hO)))) | go_values | go_skip | go_guarded | go_step | go_upon | go_back | (simp only at *; go_simp) | (go_values <;> (try go_simp)) | (go_ite <;> go_prune <;> (try go_simp)) | (split <;> (first | (rename_i hx; exact (hx _ rfl).elim) | go_prune))))
      go_end0
      exact ⟨rfl, hO.keep, by rw [HE.out]; exact hO.row _ List.mem_cons_self⟩
  · have hE : hdrF l ⟨s, d, p, sp, dp⟩ = p32 (p32 l 12 s) 16 d := by unfold hdrF portsF; dsimp only; rw [q1, q2, q3]; rfl
    clear hu
    have h1 := fun w hv => put32_any (v := .slice (some ⟨g, 0, none⟩) l.length c) (l := l) 12 s w hv (by omega) (by omega) (by omega) (by omega)
    have hn := p32_length l 12 s
    have h20 : gt (p32 (p32 l 12 s) 16 d) 20 = gt l 20 := by rw [gt_p32_ne (by omega), gt_p32_ne (by omega)]
    generalize p32 l 12 s = m1 at *
    have h2 := fun w hv => put32_any (v := .slice (some ⟨g, 0, none⟩) l.length c) (l := m1) 16 d w hv (by omega) (by omega) (by omega) (by omega)
    have hn2 := (p32_length m1 16 d).trans hn
    have HN := Lib.hid hn
    generalize p32 m1 16 d = m2 at *
    have HN2 := Lib.hid hn2
    have HE := Lib.hid hE
    clear hE hn hn2 h20
    go_enter Tryd.func48, Tryd.ntmps48
    (repeat' (first | go_skip | ((first | ((with_reducible apply wp_move_bool); (focus rfl)) | ((with_reducible apply wp_move_boolG); (focus rfl); (focus rfl))); intro cb hcb; (cases cb <;> (first | (with_reducible exact no_tf hcb) | (with_reducible exact no_ft hcb) | skip)); all_goals ((try simp only [Act.put]); (try simp only [List.setIfInBounds_toArray, List.set_cons_zero, List.set_cons_succ]))) | (go_big_may; (first | ((with_reducible refine is_load ?_); (first | (refine own_ldP hO (h := ?_)) | (refine own_ld (h := ?_)))) | ((with_reducible refine is_store ?_); (first | (refine own_stRp (hO := hO) (h := ?_); clear hO; intro wv hO) | (refine own_st1p (hO := hO) (h := ?_); clear hO; intro wv hO) | (refine own_stR (hO := hO) (h := ?_); clear hO; intro wv hO) | (refine own_st1 (hO := hO) (h := ?_); clear hO; intro wv hO))) | ((with_reducible refine is_box ?_); (first | (refine own_bx (o := ⟨some 3, _, _, _, _, _⟩) (hO := hO) (h := ?_); clear hO; intro n3 wv hO))) | (go_at_call 67; refine (h1 _ (hO.row _ List.mem_cons_self)).mono ?_; rintro e wv hw; obtain rfl := hw.1; replace hO := hO.afterRow .here hw.2.1 hw.2.2; clear hw h1) | (go_at_call 67; refine (h2 _ (by unfold OwnsB; rw [HN.out]; exact hO.row _ List.mem_cons_self)).mono ?_; rintro e wv hw; obtain rfl := hw.1; have hw2 := hw.2.2; rw [HN.out] at hw2; replace hO := hO.afterRow .here hw.2.1 hw2; clear hw hw2 h2) | ((with_reducible refine is_load ?_); (refine own_ldW (hO := hO) (h := ?_))) | ((with_reducible refine is_store ?_); (refine own_stW (hO := hO) (h := ?_); clear hO; intro wv hO)))) | go_values | go_skip | go_guarded | go_step | go_upon | go_back | (simp only at *; go_simp) | (go_values <;> (try go_simp)) | (go_ite <;> go_prune <;> (try go_simp)) | (split <;> (first | (rename_i hx; exact (hx _ rfl).elim) | go_prune))))
    go_end0
    exact ⟨rfl, hO.keep, by rw [HE.out]; exact hO.row _ List.mem_cons_self⟩
set_option maxHeartbeats 8000000 in
theorem ports_any {v : Value} {l : List Int} (h : Hd) (w : World) (hw0 : OwnsB w 0 v l) (hk : 20 ≤ l.length) (hl : l.length ≤ 65536) (ho : h.ok) (hu : h.proto = 6 ∨ h.proto = 17 ∨ h.proto = 1 → 26 ≤ l.length) :
    Calls Tryd.prog 52 #[v, hv h] w (WPost w v l (portsF l h) (.tuple #[])) := by
  obtain ⟨g, c, rfl, hc⟩ := hw0.pos (by omega)
  have hO := own_takeRow hw0 [] (by simp)
  clear hw0
  obtain ⟨s, d, p, sp, dp⟩ := h
  obtain ⟨-, -, -, ⟨d0, d1⟩, f0, f1⟩ := ho
  dsimp only at *
  rcases proto_cases p with rfl | rfl | rfl | ⟨q1, q2, q3⟩
  · replace hu := hu (.inl rfl)
    have hE : portsF l ⟨s, d, 6, sp, dp⟩ = p16 (p16 l 20 sp) 22 dp := rfl
    have h3 := fun w hv => set2_any (v := .slice (some ⟨g, 0, none⟩) l.length c) (l := l) 20 sp w hv (by omega) (by omega) (by omega) (by omega)
    have hn3 := p16_length l 20 sp
    generalize p16 l 20 sp = m3 at *
    have HN3 := Lib.hid hn3
    have h4 := fun w hv => set2_any (v := .slice (some ⟨g, 0, none⟩) l.length c) (l := m3) 22 dp w hv (by omega) (by omega) (by omega) (by omega)
    have HE := Lib.hid hE
    clear hE hn3
    go_enter Tryd.func52, Tryd.ntmps52
    (repeat' (first | go_skip | ((first | ((with_reducible apply wp_move_bool); (focus rfl)) | ((with_reducible apply wp_move_boolG); (focus rfl); (focus rfl))); intro cb hcb; (cases cb <;> (first | (with_reducible exact no_tf hcb) | (with_reducible exact no_ft hcb) | skip)); all_goals ((try simp only [Act.put]); (try simp only [List.setIfInBounds_toArray, List.set_cons_zero, List.set_cons_succ]))) | (go_big_may; (first | ((with_reducible refine is_load ?_); (first | (refine own_ldP hO (h := ?_)) | (refine own_ld (h := ?_)))) | ((with_reducible refine is_store ?_); (first | (refine own_stRp (hO := hO) (h := ?_); clear hO; intro wv hO) | (refine own_st1p (hO := hO) (h := ?_); clear hO; intro wv hO) | (refine own_stR (hO := hO) (h := ?_); clear hO; intro wv hO) | (refine own_st1 (hO := hO) (h := ?_); clear hO; intro wv hO))) | ((with_reducible refine is_box ?_); (first | (refine own_bx (o := ⟨some 3, _, _, _, _, _⟩) (hO := hO) (h := ?_); clear hO; intro n3 wv hO))) | (go_at_call 51; refine (h3 _ (hO.row _ List.mem_cons_self)).mono ?_; rintro e wv hw; obtain rfl := hw.1; replace hO := hO.afterRow .here hw.2.1 hw.2.2; clear hw h3) | (go_at_call 51; refine (h4 _ (by unfold OwnsB; rw [HN3.out]; exact hO.row _ List.mem_cons_self)).mono ?_; rintro e wv hw; obtain rfl := hw.1; have hw2 := hw.2.2; rw [HN3.out] at hw2; replace hO := hO.afterRow .here hw.2.1 hw2; clear hw hw2 h4) | ((with_reducible refine is_load ?_); (refine own_ldW (hO := hO) (h := ?_))) | ((with_reducible refine is_store ?_); (refine own_stW (hO := hO) (h := ?_); clear hO; intro wv hO)))) | go_values | go_skip | go_guarded | go_step | go_upon | go_back | (simp only at *; go_simp) | (go_values <;> (try go_simp)) | (go_ite <;> go_prune <;> (try go_simp)) | (split <;> (first | (rename_i hx; exact (hx _ rfl).elim) | go_prune))))
    go_end0
    exact ⟨rfl, hO.keep, by rw [HE.out]; exact hO.row _ List.mem_cons_self⟩
  · replace hu := hu (.inr (.inl rfl))
    have hE : portsF l ⟨s, d, 17, sp, dp⟩ = p16 (p16 l 20 sp) 22 dp := rfl
    have h3 := fun w hv => set2_any (v := .slice (some ⟨g, 0, none⟩) l.length c) (l := l) 20 sp w hv (by omega) (by omega) (by omega) (by omega)
    have hn3 := p16_length l 20 sp
    generalize p16 l 20 sp = m3 at *
    have HN3 := Lib.hid hn3
    have h4 := fun w hv => set2_any (v := .slice (some ⟨g, 0, none⟩) l.length c) (l := m3) 22 dp w hv (by omega) (by omega) (by omega) (by omega)
    have HE := Lib.hid hE
    clear hE hn3
    go_enter Tryd.func52, Tryd.ntmps52
    (repeat' (first | go_skip | ((first | ((with_reducible apply wp_move_bool); (focus rfl)) | ((with_reducible apply wp_move_boolG); (focus rfl); (focus rfl))); intro cb hcb; (cases cb <;> (first | (with_reducible exact no_tf hcb) | (with_reducible exact no_ft hcb) | skip)); all_goals ((try simp only [Act.put]); (try simp only [List.setIfInBounds_toArray, List.set_cons_zero, List.set_cons_succ]))) | (go_big_may; (first | ((with_reducible refine is_load ?_); (first | (refine own_ldP hO (h := ?_)) | (refine own_ld (h := ?_)))) | ((with_reducible refine is_store ?_); (first | (refine own_stRp (hO := hO) (h := ?_); clear hO; intro wv hO) | (refine own_st1p (hO := hO) (h := ?_); clear hO; intro wv hO) | (refine own_stR (hO := hO) (h := ?_); clear hO; intro wv hO) | (refine own_st1 (hO := hO) (h := ?_); clear hO; intro wv hO))) | ((with_reducible refine is_box ?_); (first | (refine own_bx (o := ⟨some 3, _, _, _, _, _⟩) (hO := hO) (h := ?_); clear hO; intro n3 wv hO))) | (go_at_call 51; refine (h3 _ (hO.row _ List.mem_cons_self)).mono ?_; rintro e wv hw; obtain rfl := hw.1; replace hO := hO.afterRow .here hw.2.1 hw.2.2; clear hw h3) | (go_at_call 51; refine (h4 _ (by unfold OwnsB; rw [HN3.out]; exact hO.row _ List.mem_cons_self)).mono ?_; rintro e wv hw; obtain rfl := hw.1; have hw2 := hw.2.2; rw [HN3.out] at hw2; replace hO := hO.afterRow .here hw.2.1 hw2; clear hw hw2 h4) | ((with_reducible refine is_load ?_); (refine own_ldW (hO := hO) (h := ?_))) | ((with_reducible refine is_store ?_); (refine own_stW (hO := hO) (h := ?_); clear hO; intro wv hO)))) | go_values | go_skip | go_guarded | go_step | go_upon | go_back | (simp only at *; go_simp) | (go_values <;> (try go_simp)) | (go_ite <;> go_prune <;> (try go_simp)) | (split <;> (first | (rename_i hx; exact (hx _ rfl).elim) | go_prune))))
    go_end0
    exact ⟨rfl, hO.keep, by rw [HE.out]; exact hO.row _ List.mem_cons_self⟩
  · replace hu := hu (.inr (.inr rfl))
    have hE : portsF l ⟨s, d, 1, sp, dp⟩ = (if gt l 20 == 8 then p16 l 24 sp else p16 l 24 dp) := rfl
    have c20 := bc_at (l := l) (k := 20) (by omega)
    generalize gt l 20 = q at *
    cases hq : (q == 8)
    · skip
      have h3 := fun w hv => set2_any (v := .slice (some ⟨g, 0, none⟩) l.length c) (l := l) 24 dp w hv (by omega) (by omega) (by omega) (by omega)
      have HE := Lib.hid (show portsF l ⟨s, d, 1, sp, dp⟩ = p16 l 24 dp by rw [hE, hq]; rfl)
      clear hE
      go_enter Tryd.func52, Tryd.ntmps52
      (repeat' (first | go_skip | ((first | ((with_reducible apply wp_move_bool); (focus rfl)) | ((with_reducible apply wp_move_boolG); (focus rfl); (focus rfl))); intro cb hcb; (cases cb <;> (first | (with_reducible exact no_tf hcb) | (with_reducible exact no_ft hcb) | skip)); all_goals ((try simp only [Act.put]); (try simp only [List.setIfInBounds_toArray, List.set_cons_zero, List.set_cons_succ]))) | (go_big_may; (first | ((with_reducible refine is_load ?_); (first | (refine own_ldP hO (h := ?_)) | (refine own_ld (h := ?_)))) | ((with_reducible refine is_store ?_); (first | (refine own_stRp (hO := hO) (h := ?_); clear hO; intro wv hO) | (refine own_st1p (hO := hO) (h := ?_); clear hO; intro wv hO) | (refine own_stR (hO := hO) (h := ?_); clear hO; intro wv hO) | (refine own_st1 (hO := hO) (h := ?_); clear hO; intro wv hO))) | ((with_reducible refine is_box ?_); (first | (refine own_bx (o := ⟨some 3, _, _, _, _, _⟩) (hO := hO) (h := ?_); clear hO; intro n3 wv hO))) | (go_at_call 51; refine (h3 _ (hO.row _ List.mem_cons_self)).mono ?_; rintro e wv hw; obtain rfl := hw.1; replace hO := hO.afterRow .here hw.2.1 hw.2.2; clear hw h3) | ((with_reducible refine is_load ?_); (refine own_ldW (hO := hO) (h := ?_))) | ((with_reducible refine is_store ?_); (refine own_stW (hO := hO) (h := ?_); clear hO; intro wv hO)))) | go_values | go_skip | go_guarded | go_step | go_upon | go_back | (simp only at *; go_simp) | (go_values <;> (try go_simp)) | (go_ite <;> go_prune <;> (try go_simp)) | (split <;> (first | (rename_i hx; exact (hx _ rfl).elim) | go_prune))))
      go_end0
      exact ⟨rfl, hO.keep, by rw [HE.out]; exact hO.row _ List.mem_cons_self⟩
    · skip
      have h3 := fun w hv => set2_any (v := .slice (some ⟨g, 0, none⟩) l.length c) (l := l) 24 sp w hv (by omega) (by omega) (by omega) (by omega)
      have HE := Lib.hid (show portsF l ⟨s, d, 1, sp, dp⟩ = p16 l 24 sp by rw [hE, hq]; rfl)
      clear hE
      go_enter Tryd.func52, Tryd.ntmps52
      (repeat' (first | go_skip | ((first | ((with_reducible apply wp_move_bool); (focus rfl)) | ((with_reducible apply wp_move_boolG); (focus rfl); (focus rfl))); intro cb hcb; (cases cb <;> (first | (with_reducible exact no_tf hcb) | (with_reducible exact no_ft hcb) | skip)); all_goals ((try simp only [Act.put]); (try simp only [List.setIfInBounds_toArray, List.set_cons_zero, List.set_cons_succ]))) | (go_big_may; (first | ((with_reducible refine is_load ?_); (first | (refine own_ldP hO (h := ?_)) | (refine own_ld (h := ?_)))) | ((with_reducible refine is_store ?_); (first | (refine own_stRp (hO := hO) (h := ?_); clear hO; intro wv hO) | (refine own_st1p (hO := hO) (h := ?_); clear hO; intro wv hO) | (refine own_stR (hO := hO) (h := ?_); clear hO; intro wv hO) | (refine own_st1 (hO := hO) (h := ?_); clear hO; intro wv hO))) | ((with_reducible refine is_box ?_); (first | (refine own_bx (o := ⟨some 3, _, _, _, _, _⟩) (hO := hO) (h := ?_); clear hO; intro n3 wv hO))) | (go_at_call 51; refine (h3 _ (hO.row _ List.mem_cons_self)).mono ?_; rintro e wv hw; obtain rfl := hw.1; replace hO := hO.afterRow .here hw.2.1 hw.2.2; clear hw h3) | ((with_reducible refine is_load ?_); (refine own_ldW (hO := hO) (h := ?_))) | ((with_reducible refine is_store ?_); (refine own_stW (hO := hO) (h := ?_); clear hO; intro wv hO)))) | go_values | go_skip | go_guarded | go_step | go_upon | go_back | (simp only at *; go_simp) | (go_values <;> (try go_simp)) | (go_ite <;> go_prune <;> (try go_simp)) | (split <;> (first | (rename_i hx; exact (hx _ rfl).elim) | go_prune))))
      go_end0
      exact ⟨rfl, hO.keep, by rw [HE.out]; exact hO.row _ List.mem_cons_self⟩
  · have HE := Lib.hid (show portsF l ⟨s, d, p, sp, dp⟩ = l by unfold portsF; dsimp only; rw [q1, q2, q3]; rfl)
    clear hu
    go_enter Tryd.func52, Tryd.ntmps52
    (repeat' (first | go_skip | ((first | ((with_reducible apply wp_move_bool); (focus rfl)) | ((with_reducible apply wp_move_boolG); (focus rfl); (focus rfl))); intro cb hcb; (cases cb <;> (first | (with_reducible exact no_tf hcb) | (with_reducible exact no_ft hcb) | skip)); all_goals ((try simp only [Act.put]); (try simp only [List.setIfInBounds_toArray, List.set_cons_zero, List.set_cons_succ]))) | (go_big_may; (first | ((with_reducible refine is_load ?_); (first | (refine own_ldP hO (h := ?_)) | (refine own_ld (h := ?_)))) | ((with_reducible refine is_store ?_); (first | (refine own_stRp (hO := hO) (h := ?_); clear hO; intro wv hO) | (refine own_st1p (hO := hO) (h := ?_); clear hO; intro wv hO) | (refine own_stR (hO := hO) (h := ?_); clear hO; intro wv hO) | (refine own_st1 (hO := hO) (h := ?_); clear hO; intro wv hO))) | ((with_reducible refine is_box ?_); (first | (refine own_bx (o := ⟨some 3, _, _, _, _, _⟩) (hO := hO) (h := ?_); clear hO; intro n3 wv hO))) | ((with_reducible refine is_load ?_); (refine own_ldW (hO := hO) (h := ?_))) | ((with_reducible refine is_store ?_); (refine own_stW (hO := hO) (h := ?_); clear hO; intro wv hO)))) | go_values | go_skip | go_guarded | go_step | go_upon | go_back | (simp only at *; go_simp) | (go_values <;> (try go_simp)) | (go_ite <;> go_prune <;> (try go_simp)) | (split <;> (first | (rename_i hx; exact (hx _ rfl).elim) | go_prune))))
    go_end0
    exact ⟨rfl, hO.keep, by rw [HE.out]; exact hO.row _ List.mem_cons_self⟩
/-- source and destination exchanged -/
def revH (h : Hd) : Hd := ⟨h.dst, h.src, h.proto, h.dport, h.sport⟩
theorem reverse_any (h : Hd) (w : World) : Calls Tryd.prog 16 #[hv h] w fun e w' => e = .returned (hv (revH h)) ∧ Below w.heap.size w w' := by
  have hO := own_start [] w
  go_enter Tryd.func16, Tryd.ntmps16
  go_wp2_with (first | ((with_reducible refine is_load ?_); (first | (refine own_ldP hO (h := ?_)) | (refine own_ld (h := ?_)))) | ((with_reducible refine is_store ?_); (first | (refine own_stRp (hO := hO) (h := ?_); clear hO; intro wv hO) | (refine own_st1p (hO := hO) (h := ?_); clear hO; intro wv hO) | (refine own_stR (hO := hO) (h := ?_); clear hO; intro wv hO) | (refine own_st1 (hO := hO) (h := ?_); clear hO; intro wv hO))) | ((with_reducible refine is_box ?_); (first | (refine own_bx (o := ⟨some 1, _, _, _, _, _⟩) (hO := hO) (h := ?_); clear hO; intro n1 wv hO))) | ((with_reducible refine is_alloc ?_); (first | (refine own_al (o := ⟨some 2, _, _, _, _, _⟩) (hO := hO) (h := ?_); clear hO; intro n2 wv hO))) | ((with_reducible refine is_load ?_); (refine own_ldW (hO := hO) (h := ?_))) | ((with_reducible refine is_store ?_); (refine own_stW (hO := hO) (h := ?_); clear hO; intro wv hO)))
  exact bodyPost_ret (own_res_cell hO Tryd.results16 rfl (by (repeat (first | exact List.mem_cons_self | refine List.mem_cons_of_mem _ ?_))) (by (refine row_len (s := ?s) ?ht ?he; (case ht => (with_reducible (first | exact row_Box | exact row_Range | exact row_Header | exact row_Five | exact row_Tape | exact row_Prefix | exact row_Truths | exact row_Packet))); (case he => rfl))) rfl) rfl ⟨rfl, hO.keep.below⟩
theorem rreverse_any (h : Hd) (w : World) : Calls Tryd.prog 17 #[hv h] w fun e w' => e = .returned (hv (revH h)) ∧ Below w.heap.size w w' := by
  have hO := own_start [] w
  go_enter Tryd.func17, Tryd.ntmps17
  go_wp2_with (first | ((with_reducible refine is_load ?_); (first | (refine own_ldP hO (h := ?_)) | (refine own_ld (h := ?_)))) | ((with_reducible refine is_store ?_); (first | (refine own_stRp (hO := hO) (h := ?_); clear hO; intro wv hO) | (refine own_st1p (hO := hO) (h := ?_); clear hO; intro wv hO) | (refine own_stR (hO := hO) (h := ?_); clear hO; intro wv hO) | (refine own_st1 (hO := hO) (h := ?_); clear hO; intro wv hO))) | ((with_reducible refine is_box ?_); (first | (refine own_bx (o := ⟨some 1, _, _, _, _, _⟩) (hO := hO) (h := ?_); clear hO; intro n1 wv hO))) | ((with_reducible refine is_alloc ?_); (first | (refine own_al (o := ⟨some 2, _, _, _, _, _⟩) (hO := hO) (h := ?_); clear hO; intro n2 wv hO))) | ((with_reducible refine is_load ?_); (refine own_ldW (hO := hO) (h := ?_))) | ((with_reducible refine is_store ?_); (refine own_stW (hO := hO) (h := ?_); clear hO; intro wv hO)))
  exact bodyPost_ret (own_res_cell hO Tryd.results17 rfl (by (repeat (first | exact List.mem_cons_self | refine List.mem_cons_of_mem _ ?_))) (by (refine row_len (s := ?s) ?ht ?he; (case ht => (with_reducible (first | exact row_Box | exact row_Range | exact row_Header | exact row_Five | exact row_Tape | exact row_Prefix | exact row_Truths | exact row_Packet))); (case he => rfl))) rfl) rfl ⟨rfl, hO.keep.below⟩
end Go.Proofs.YtjfiipbjphabeaaDoor

/- Which headers fit a packet. -/
namespace Go.Proofs.YtjfiipbjphabeaaDoor
open Go.RowKit
set_option maxRecDepth 100000

/-- can a packet of the protocol p0 (an echo request or not) get the header -/
def fitF (echo : Bool) (p0 : Int) (h : Hd) : Bool :=
  if (h.proto != p0) then false else if h.proto == 6 then true else if h.proto == 17 then true else
  if h.proto == 1 then (if echo then (if h.sport != 8 then h.dport == 8 else false) else (if h.sport == 8 then h.dport != 8 else false)) else (if h.sport == 0 then h.dport == 0 else false)
set_option maxHeartbeats 4000000 in
theorem fits_any (o h : Hd) (w : World) : Calls Tryd.prog 64 #[hv o, hv h] w fun e w' => e = .returned (.bool (fitF (o.dport == 8) o.proto h)) ∧ Below w.heap.size w w' := by
  have hO := own_start [] w
  obtain ⟨s, d, p, sp, dp⟩ := h
  obtain ⟨s', d', p', sp', dp'⟩ := o
  go_enter Tryd.func64, Tryd.ntmps64
  (repeat' (first | go_skip | ((first | ((with_reducible apply wp_move_bool); (focus rfl)) | ((with_reducible apply wp_move_boolG); (focus rfl); (focus rfl))); intro cb hcb; (cases cb <;> (first | (with_reducible exact no_tf hcb) | (with_reducible exact no_ft hcb) | skip)); all_goals ((try simp only [Act.put]); (try simp only [List.setIfInBounds_toArray, List.set_cons_zero, List.set_cons_succ]))) | (go_big_may; (first | ((with_reducible refine is_load ?_); (first | (refine own_ldP hO (h := ?_)) | (refine own_ld (h := ?_)))) | ((with_reducible refine is_store ?_); (first | (refine own_stRp (hO := hO) (h := ?_); clear hO; intro wv hO) | (refine own_st1p (hO := hO) (h := ?_); clear hO; intro wv hO) | (refine own_stR (hO := hO) (h := ?_); clear hO; intro wv hO) | (refine own_st1 (hO := hO) (h := ?_); clear hO; intro wv hO))) | ((with_reducible refine is_box ?_); (first | (refine own_bx (o := ⟨some 2, _, _, _, _, _⟩) (hO := hO) (h := ?_); clear hO; intro n2 wv hO) | (refine own_bx (o := ⟨some 3, _, _, _, _, _⟩) (hO := hO) (h := ?_); clear hO; intro n3 wv hO))) | ((with_reducible refine is_load ?_); (refine own_ldW (hO := hO) (h := ?_))) | ((with_reducible refine is_store ?_); (refine own_stW (hO := hO) (h := ?_); clear hO; intro wv hO)))) | go_values | go_skip | go_guarded | go_step | go_upon | go_back | (simp only at *; go_simp) | (go_values <;> (try go_simp)) | (go_ite <;> go_prune <;> (try go_simp)) | (split <;> (first | (rename_i hx; exact (hx _ rfl).elim) | go_prune))))
  all_goals
    go_ret
    exact ⟨ret_bool (by unfold fitF; dsimp only; (repeat (first | rfl | rw [if_pos (by assumption)] | rw [if_neg (ne_true (by assumption))] | rw [if_pos (Eq.refl true)] | rw [if_neg Bool.false_ne_true]))), hO.keep.below⟩
theorem fit_other {echo : Bool} {p p0 sp dp : Int} {s d : Int} (h : (p != p0) = false) (h1 : (p == 1) = false) : fitF echo p0 ⟨s, d, p, sp, dp⟩ = (!(otherF p) || ((sp == 0) && (dp == 0))) := by
  unfold fitF otherF
  cases h6 : p == 6 <;> cases h17 : p == 17 <;> cases h2 : sp == 0 <;> simp_all
theorem fit_t {echo : Bool} {p p0 sp dp : Int} {s d : Int} (h : (p != p0) = false) (h1 : (p == 1) = false) (ho : otherF p = false) : true = fitF echo p0 ⟨s, d, p, sp, dp⟩ := by rw [fit_other h h1, ho]; rfl
theorem fit_0 {echo : Bool} {p p0 sp dp : Int} {s d : Int} (h : (p != p0) = false) (h1 : (p == 1) = false) (ho : otherF p = true) (h0 : (sp == 0) = false) : false = fitF echo p0 ⟨s, d, p, sp, dp⟩ := by rw [fit_other h h1, ho, h0]; rfl
theorem fit_1 {echo : Bool} {p p0 sp dp : Int} {s d : Int} (h : (p != p0) = false) (h1 : (p == 1) = false) (ho : otherF p = true) (h0 : (sp == 0) = true) : (dp == 0) = fitF echo p0 ⟨s, d, p, sp, dp⟩ := by rw [fit_other h h1, ho, h0]; rfl
set_option maxHeartbeats 4000000 in
theorem rfits_any {v : Value} {l : List Int} (h : Hd) (w : World) (hw0 : IsB w v l) (hk : 20 ≤ l.length) (hl : l.length ≤ 65536) (hu : gt l 9 = 1 → 28 ≤ l.length) :
    Calls Tryd.prog 66 #[v, hv h] w fun e w' => e = .returned (.bool (fitF (gt l 20 == 8) (gt l 9) h)) ∧ Below w.heap.size w w' := by
  obtain ⟨g, o, c, rfl, hc, hO⟩ := hw0.pos (by omega)
  clear hw0
  obtain ⟨s, d, p, sp, dp⟩ := h
  have c9 := bc_at (show 9 < l.length by omega)
  cases h1 : p == 1
  · have ho := fun w => other_any p w
    generalize gt l 9 = q at *
    generalize (gt l 20 == 8) = echo at *
    obtain ⟨b, hb⟩ : ∃ b, otherF p = b := ⟨_, rfl⟩
    have HB := Lib.hid hb
    rw [hb] at ho
    clear hb hu
    go_enter Tryd.func66, Tryd.ntmps66
    go_wp2_with (first | ((with_reducible refine is_load ?_); (first | (refine own_ldP hO (h := ?_)) | (refine own_ld (h := ?_)))) | ((with_reducible refine is_store ?_); (first | (refine own_stRp (hO := hO) (h := ?_); clear hO; intro wv hO) | (refine own_st1p (hO := hO) (h := ?_); clear hO; intro wv hO) | (refine own_stR (hO := hO) (h := ?_); clear hO; intro wv hO) | (refine own_st1 (hO := hO) (h := ?_); clear hO; intro wv hO))) | ((with_reducible refine is_box ?_); (first | (refine own_bx (o := ⟨some 3, _, _, _, _, _⟩) (hO := hO) (h := ?_); clear hO; intro n3 wv hO))) | ((with_reducible refine is_load ?_); (refine own_ldW (hO := hO) (h := ?_))) | ((with_reducible refine is_store ?_); (refine own_stW (hO := hO) (h := ?_); clear hO; intro wv hO)))
    (try simp only [Act.put]); (refine own_quiet hO (by kernel_rfl) (by kernel_rfl) ?_; clear hO; (repeat (first | go_big_quiet_skip | (go_big_quiet_want; (first | ((with_reducible refine is_loadQ ?_); (first | (refine q_ldP (h := ?_)) | (refine q_ld (h := ?_))); (try simp only [Act.put]); (try simp only [List.setIfInBounds_toArray, List.set_cons_zero, List.set_cons_succ]); go_big_quiet_on) | (go_big_quiet_op; (first | go_big_quiet_on | ((refine ⟨_, fun _ _ => rfl, ?_⟩); go_big_quiet_on) | go_big_quiet_call (fail))))))); (refine wpQuiet_nil ?_); intro wv hO)
    cases b
    all_goals
      (repeat' (first | go_skip | ((first | ((with_reducible apply wp_move_bool); (focus rfl)) | ((with_reducible apply wp_move_boolG); (focus rfl); (focus rfl))); intro cb hcb; (cases cb <;> (first | (with_reducible exact no_tf hcb) | (with_reducible exact no_ft hcb) | skip)); all_goals ((try simp only [Act.put]); (try simp only [List.setIfInBounds_toArray, List.set_cons_zero, List.set_cons_succ]))) | (go_big_may; (first | ((with_reducible refine is_load ?_); (first | (refine own_ldP hO (h := ?_)) | (refine own_ld (h := ?_)))) | ((with_reducible refine is_store ?_); (first | (refine own_stRp (hO := hO) (h := ?_); clear hO; intro wv hO) | (refine own_st1p (hO := hO) (h := ?_); clear hO; intro wv hO) | (refine own_stR (hO := hO) (h := ?_); clear hO; intro wv hO) | (refine own_st1 (hO := hO) (h := ?_); clear hO; intro wv hO))) | ((with_reducible refine is_box ?_); (first | (refine own_bx (o := ⟨some 3, _, _, _, _, _⟩) (hO := hO) (h := ?_); clear hO; intro n3 wv hO))) | (go_at_call 69; refine (ho _).mono ?_; rintro e _ ⟨rfl, rfl⟩) | ((with_reducible refine is_load ?_); (refine own_ldW (hO := hO) (h := ?_))) | ((with_reducible refine is_store ?_); (refine own_stW (hO := hO) (h := ?_); clear hO; intro wv hO)))) | go_values | go_skip | go_guarded | go_step | go_upon | go_back | (simp only at *; go_simp) | (go_values <;> (try go_simp)) | (go_ite <;> go_prune <;> (try go_simp)) | (split <;> (first | (rename_i hx; exact (hx _ rfl).elim) | go_prune))))
    all_goals
      go_ret
      exact ⟨ret_bool (by first | exact fit_t (by assumption) (by assumption) HB.out | exact fit_0 (by assumption) (by assumption) HB.out (by assumption) | exact fit_1 (by assumption) (by assumption) HB.out (by assumption) | (unfold fitF; dsimp only; (repeat (first | rfl | rw [if_pos (by assumption)] | rw [if_neg (ne_true (by assumption))] | rw [if_pos (Eq.refl true)] | rw [if_neg Bool.false_ne_true])))), hO.keep.below⟩
  · obtain rfl : p = 1 := by simpa using h1
    cases h9 : ((1 : Int) != gt l 9)
    · have h91 : (1 : Int) = gt l 9 := by simpa using h9
      replace hu := hu h91.symm
      clear h91
      have c20 := bc_at (show 20 < l.length by omega)
      generalize gt l 9 = q at *
      generalize gt l 20 = r at *
      go_enter Tryd.func66, Tryd.ntmps66
      go_wp2_with (first | ((with_reducible refine is_load ?_); (first | (refine own_ldP hO (h := ?_)) | (refine own_ld (h := ?_)))) | ((with_reducible refine is_store ?_); (first | (refine own_stRp (hO := hO) (h := ?_); clear hO; intro wv hO) | (refine own_st1p (hO := hO) (h := ?_); clear hO; intro wv hO) | (refine own_stR (hO := hO) (h := ?_); clear hO; intro wv hO) | (refine own_st1 (hO := hO) (h := ?_); clear hO; intro wv hO))) | ((with_reducible refine is_box ?_); (first | (refine own_bx (o := ⟨some 3, _, _, _, _, _⟩) (hO := hO) (h := ?_); clear hO; intro n3 wv hO))) | ((with_reducible refine is_load ?_); (refine own_ldW (hO := hO) (h := ?_))) | ((with_reducible refine is_store ?_); (refine own_stW (hO := hO) (h := ?_); clear hO; intro wv hO)))
      (try simp only [Act.put]); (refine own_quiet hO (by kernel_rfl) (by kernel_rfl) ?_; clear hO; (repeat (first | go_big_quiet_skip | (go_big_quiet_want; (first | ((with_reducible refine is_loadQ ?_); (first | (refine q_ldP (h := ?_)) | (refine q_ld (h := ?_))); (try simp only [Act.put]); (try simp only [List.setIfInBounds_toArray, List.set_cons_zero, List.set_cons_succ]); go_big_quiet_on) | (go_big_quiet_op; (first | go_big_quiet_on | ((refine ⟨_, fun _ _ => rfl, ?_⟩); go_big_quiet_on) | go_big_quiet_call (fail))))))); (refine wpQuiet_nil ?_); intro wv hO)
      (repeat' (first | go_skip | ((first | ((with_reducible apply wp_move_bool); (focus rfl)) | ((with_reducible apply wp_move_boolG); (focus rfl); (focus rfl))); intro cb hcb; (cases cb <;> (first | (with_reducible exact no_tf hcb) | (with_reducible exact no_ft hcb) | skip)); all_goals ((try simp only [Act.put]); (try simp only [List.setIfInBounds_toArray, List.set_cons_zero, List.set_cons_succ]))) | (go_big_may; (first | ((with_reducible refine is_load ?_); (first | (refine own_ldP hO (h := ?_)) | (refine own_ld (h := ?_)))) | ((with_reducible refine is_store ?_); (first | (refine own_stRp (hO := hO) (h := ?_); clear hO; intro wv hO) | (refine own_st1p (hO := hO) (h := ?_); clear hO; intro wv hO) | (refine own_stR (hO := hO) (h := ?_); clear hO; intro wv hO) | (refine own_st1 (hO := hO) (h := ?_); clear hO; intro wv hO))) | ((with_reducible refine is_box ?_); (first | (refine own_bx (o := ⟨some 3, _, _, _, _, _⟩) (hO := hO) (h := ?_); clear hO; intro n3 wv hO))) | ((with_reducible refine is_load ?_); (refine own_ldW (hO := hO) (h := ?_))) | ((with_reducible refine is_store ?_); (refine own_stW (hO := hO) (h := ?_); clear hO; intro wv hO)))) | go_values | go_skip | go_guarded | go_step | go_upon | go_back | (simp only at *; go_simp) | (go_values <;> (try go_simp)) | (go_ite <;> go_prune <;> (try go_simp)) | (split <;> (first | (rename_i hx; exact (hx _ rfl).elim) | go_prune))))
      all_goals
        go_ret
        exact ⟨ret_bool (by unfold fitF; dsimp only; rw [h9, if_neg Bool.false_ne_true, if_neg (show ¬ ((1 : Int) == 6) = true by decide), if_neg (show ¬ ((1 : Int) == 17) = true by decide), if_pos (show ((1 : Int) == 1) = true by decide)]; (repeat (first | rfl | rw [if_pos (by assumption)] | rw [if_neg (ne_true (by assumption))] | rw [if_pos (Eq.refl true)] | rw [if_neg Bool.false_ne_true]))), hO.keep.below⟩
    · generalize gt l 9 = q at *
      clear hu
      go_enter Tryd.func66, Tryd.ntmps66
      go_wp2_with (first | ((with_reducible refine is_load ?_); (first | (refine own_ldP hO (h := ?_)) | (refine own_ld (h := ?_)))) | ((with_reducible refine is_store ?_); (first | (refine own_stRp (hO := hO) (h := ?_); clear hO; intro wv hO) | (refine own_st1p (hO := hO) (h := ?_); clear hO; intro wv hO) | (refine own_stR (hO := hO) (h := ?_); clear hO; intro wv hO) | (refine own_st1 (hO := hO) (h := ?_); clear hO; intro wv hO))) | ((with_reducible refine is_box ?_); (first | (refine own_bx (o := ⟨some 3, _, _, _, _, _⟩) (hO := hO) (h := ?_); clear hO; intro n3 wv hO))) | ((with_reducible refine is_load ?_); (refine own_ldW (hO := hO) (h := ?_))) | ((with_reducible refine is_store ?_); (refine own_stW (hO := hO) (h := ?_); clear hO; intro wv hO)))
      (try simp only [Act.put]); (refine own_quiet hO (by kernel_rfl) (by kernel_rfl) ?_; clear hO; (repeat (first | go_big_quiet_skip | (go_big_quiet_want; (first | ((with_reducible refine is_loadQ ?_); (first | (refine q_ldP (h := ?_)) | (refine q_ld (h := ?_))); (try simp only [Act.put]); (try simp only [List.setIfInBounds_toArray, List.set_cons_zero, List.set_cons_succ]); go_big_quiet_on) | (go_big_quiet_op; (first | go_big_quiet_on | ((refine ⟨_, fun _ _ => rfl, ?_⟩); go_big_quiet_on) | go_big_quiet_call (fail))))))); (refine wpQuiet_nil ?_); intro wv hO)
      (repeat' (first | go_skip | ((first | ((with_reducible apply wp_move_bool); (focus rfl)) | ((with_reducible apply wp_move_boolG); (focus rfl); (focus rfl))); intro cb hcb; (cases cb <;> (first | (with_reducible exact no_tf hcb) | (with_reducible exact no_ft hcb) | skip)); all_goals ((try simp only [Act.put]); (try simp only [List.setIfInBounds_toArray, List.set_cons_zero, List.set_cons_succ]))) | (go_big_may; (first | ((with_reducible refine is_load ?_); (first | (refine own_ldP hO (h := ?_)) | (refine own_ld (h := ?_)))) | ((with_reducible refine is_store ?_); (first | (refine own_stRp (hO := hO) (h := ?_); clear hO; intro wv hO) | (refine own_st1p (hO := hO) (h := ?_); clear hO; intro wv hO) | (refine own_stR (hO := hO) (h := ?_); clear hO; intro wv hO) | (refine own_st1 (hO := hO) (h := ?_); clear hO; intro wv hO))) | ((with_reducible refine is_box ?_); (first | (refine own_bx (o := ⟨some 3, _, _, _, _, _⟩) (hO := hO) (h := ?_); clear hO; intro n3 wv hO))) | ((with_reducible refine is_load ?_); (refine own_ldW (hO := hO) (h := ?_))) | ((with_reducible refine is_store ?_); (refine own_stW (hO := hO) (h := ?_); clear hO; intro wv hO)))) | go_values | go_skip | go_guarded | go_step | go_upon | go_back | (simp only at *; go_simp) | (go_values <;> (try go_simp)) | (go_ite <;> go_prune <;> (try go_simp)) | (split <;> (first | (rename_i hx; exact (hx _ rfl).elim) | go_prune))))
      all_goals
        go_ret
        exact ⟨ret_bool (by unfold fitF; dsimp only; rw [h9]; rfl), hO.keep.below⟩
end Go.Proofs.YtjfiipbjphabeaaDoor

/- Has the body of a packet the form of its protocol: the reference. -/
namespace Go.Proofs.YtjfiipbjphabeaaDoor
open Go.RowKit
set_option maxRecDepth 100000

/-- the body has the form of its protocol (n: its length) -/
def bodyR (l : List Int) (n : Int) : Bool :=
  if gt l 9 == 6 then (if decide (20 ≤ n) then (if decide (5 ≤ gt l 32 / 16) then decide (4 * (gt l 32 / 16) ≤ n) else false) else false)
  else if gt l 9 == 17 then (if decide (8 ≤ n) then (g16 l 24 == n) else false)
  else if gt l 9 == 1 then (if decide (8 ≤ n) then (if gt l 20 == 8 then (if gt l 21 == 0 then g16 l 24 != 8 else false) else (if gt l 20 == 0 then (if gt l 21 == 0 then g16 l 24 != 8 else false) else false)) else false)
  else true
theorem bodyR_6 {l : List Int} {n : Int} (h : gt l 9 = 6) : bodyR l n = if decide (20 ≤ n) then (if decide (5 ≤ gt l 32 / 16) then decide (4 * (gt l 32 / 16) ≤ n) else false) else false := by unfold bodyR; rw [h]; rfl
theorem bodyR_17 {l : List Int} {n : Int} (h : gt l 9 = 17) : bodyR l n = if decide (8 ≤ n) then (g16 l 24 == n) else false := by unfold bodyR; rw [h]; rfl
theorem bodyR_1 {l : List Int} {n : Int} (h : gt l 9 = 1) : bodyR l n = if decide (8 ≤ n) then (if gt l 20 == 8 then (if gt l 21 == 0 then g16 l 24 != 8 else false) else (if gt l 20 == 0 then (if gt l 21 == 0 then g16 l 24 != 8 else false) else false)) else false := by unfold bodyR; rw [h]; rfl
set_option maxHeartbeats 8000000 in
theorem rbody_any {v : Value} {l : List Int} (w : World) (hw0 : IsB w v l) (hb : BOk l) (hk : 20 ≤ l.length) (hl : l.length ≤ 65536) :
    Calls Tryd.prog 80 #[v] w fun e w' => e = .returned (.bool (bodyR l ((l.length : Int) - 20))) ∧ Below w.heap.size w w' := by
  obtain ⟨g, o, c, rfl, hc, hO⟩ := hw0.pos (by omega)
  have c9 := bc_at (show 9 < l.length by omega)
  have hg := fun (_ : 28 ≤ l.length) w hv => num16_any (v := .slice (some ⟨g, o, none⟩) l.length c) (l := l) 24 w hv hb (by omega) (by omega)
  obtain ⟨x0, x1⟩ := gt_bd hb 32
  obtain ⟨y0, y1⟩ := g16_bd hb 24
  rcases proto_cases (gt l 9) with hp | hp | hp | ⟨q1, q2, q3⟩
  · have hE := bodyR_6 (n := (l.length : Int) - 20) hp
    rw [hp] at c9
    clear hb hg
    by_cases h : 40 ≤ l.length
    · have c32 := bc_at (show 32 < l.length by omega)
      have q : decide (20 ≤ (l.length : Int) - 20) = true := by simp; omega
      rw [q] at hE
      generalize gt l 32 = x at *
      have HE := Lib.hid hE
      clear hE hp
      go_enter Tryd.func80, Tryd.ntmps80
      (repeat' (first | go_skip | ((first | ((with_reducible apply wp_move_bool); (focus rfl)) | ((with_reducible apply wp_move_boolG); (focus rfl); (focus rfl))); intro cb hcb; (cases cb <;> (first | (with_reducible exact no_tf hcb) | (with_reducible exact no_ft hcb) | skip)); all_goals ((try simp only [Act.put]); (try simp only [List.setIfInBounds_toArray, List.set_cons_zero, List.set_cons_succ]))) | (go_big_may; (first | ((with_reducible refine is_load ?_); (first | (refine own_ldP hO (h := ?_)) | (refine own_ld (h := ?_)))) | ((with_reducible refine is_store ?_); (first | (refine own_stRp (hO := hO) (h := ?_); clear hO; intro wv hO) | (refine own_st1p (hO := hO) (h := ?_); clear hO; intro wv hO) | (refine own_stR (hO := hO) (h := ?_); clear hO; intro wv hO) | (refine own_st1 (hO := hO) (h := ?_); clear hO; intro wv hO))) | ((with_reducible refine is_load ?_); (refine own_ldW (hO := hO) (h := ?_))) | ((with_reducible refine is_store ?_); (refine own_stW (hO := hO) (h := ?_); clear hO; intro wv hO)))) | go_values | go_skip | go_guarded | go_step | go_upon | go_back | (simp only at *; go_simp) | (go_values <;> (try go_simp)) | (go_ite <;> go_prune <;> (try go_simp)) | (split <;> (first | (rename_i hx; exact (hx _ rfl).elim) | go_prune))))
      all_goals
        go_ret
        exact ⟨ret_bool (by rw [HE.out]; (repeat (first | rfl | rw [if_pos (by assumption)] | rw [if_neg (ne_true (by assumption))] | rw [if_pos (Eq.refl true)] | rw [if_neg Bool.false_ne_true]))), hO.keep.below⟩
    · have q : decide (20 ≤ (l.length : Int) - 20) = false := by simp; omega
      rw [q] at hE
      have HE := Lib.hid hE
      clear hE hp
      go_enter Tryd.func80, Tryd.ntmps80
      (repeat' (first | go_skip | ((first | ((with_reducible apply wp_move_bool); (focus rfl)) | ((with_reducible apply wp_move_boolG); (focus rfl); (focus rfl))); intro cb hcb; (cases cb <;> (first | (with_reducible exact no_tf hcb) | (with_reducible exact no_ft hcb) | skip)); all_goals ((try simp only [Act.put]); (try simp only [List.setIfInBounds_toArray, List.set_cons_zero, List.set_cons_succ]))) | (go_big_may; (first | ((with_reducible refine is_load ?_); (first | (refine own_ldP hO (h := ?_)) | (refine own_ld (h := ?_)))) | ((with_reducible refine is_store ?_); (first | (refine own_stRp (hO := hO) (h := ?_); clear hO; intro wv hO) | (refine own_st1p (hO := hO) (h := ?_); clear hO; intro wv hO) | (refine own_stR (hO := hO) (h := ?_); clear hO; intro wv hO) | (refine own_st1 (hO := hO) (h := ?_); clear hO; intro wv hO))) | ((with_reducible refine is_load ?_); (refine own_ldW (hO := hO) (h := ?_))) | ((with_reducible refine is_store ?_); (refine own_stW (hO := hO) (h := ?_); clear hO; intro wv hO)))) | go_values | go_skip | go_guarded | go_step | go_upon | go_back | (simp only at *; go_simp) | (go_values <;> (try go_simp)) | (go_ite <;> go_prune <;> (try go_simp)) | (split <;> (first | (rename_i hx; exact (hx _ rfl).elim) | go_prune))))
      all_goals
        go_ret
        exact ⟨ret_bool (by rw [HE.out]; (repeat (first | rfl | rw [if_pos (by assumption)] | rw [if_neg (ne_true (by assumption))] | rw [if_pos (Eq.refl true)] | rw [if_neg Bool.false_ne_true]))), hO.keep.below⟩
  · have hE := bodyR_17 (n := (l.length : Int) - 20) hp
    rw [hp] at c9
    clear hb
    generalize g16 l 24 = y at *
    by_cases h : 28 ≤ l.length
    · replace hg := hg h
      have q : decide (8 ≤ (l.length : Int) - 20) = true := by simp; omega
      rw [q] at hE
      have HE := Lib.hid hE
      clear hE hp
      go_enter Tryd.func80, Tryd.ntmps80
      (repeat' (first | go_skip | ((first | ((with_reducible apply wp_move_bool); (focus rfl)) | ((with_reducible apply wp_move_boolG); (focus rfl); (focus rfl))); intro cb hcb; (cases cb <;> (first | (with_reducible exact no_tf hcb) | (with_reducible exact no_ft hcb) | skip)); all_goals ((try simp only [Act.put]); (try simp only [List.setIfInBounds_toArray, List.set_cons_zero, List.set_cons_succ]))) | (go_big_may; (first | ((with_reducible refine is_load ?_); (first | (refine own_ldP hO (h := ?_)) | (refine own_ld (h := ?_)))) | ((with_reducible refine is_store ?_); (first | (refine own_stRp (hO := hO) (h := ?_); clear hO; intro wv hO) | (refine own_st1p (hO := hO) (h := ?_); clear hO; intro wv hO) | (refine own_stR (hO := hO) (h := ?_); clear hO; intro wv hO) | (refine own_st1 (hO := hO) (h := ?_); clear hO; intro wv hO))) | (go_at_call 63; refine (hg _ (IsCells.below hw0 hO.keep.below)).mono ?_; rintro e wv ⟨rfl, hb⟩; replace hO := hO.call hb; clear hb) | ((with_reducible refine is_load ?_); (refine own_ldW (hO := hO) (h := ?_))) | ((with_reducible refine is_store ?_); (refine own_stW (hO := hO) (h := ?_); clear hO; intro wv hO)))) | go_values | go_skip | go_guarded | go_step | go_upon | go_back | (simp only at *; go_simp) | (go_values <;> (try go_simp)) | (go_ite <;> go_prune <;> (try go_simp)) | (split <;> (first | (rename_i hx; exact (hx _ rfl).elim) | go_prune))))
      all_goals
        go_ret
        exact ⟨ret_bool (by rw [HE.out]; (repeat (first | rfl | rw [if_pos (by assumption)] | rw [if_neg (ne_true (by assumption))] | rw [if_pos (Eq.refl true)] | rw [if_neg Bool.false_ne_true]))), hO.keep.below⟩
    · have q : decide (8 ≤ (l.length : Int) - 20) = false := by simp; omega
      rw [q] at hE
      have HE := Lib.hid hE
      clear hE hp hg
      go_enter Tryd.func80, Tryd.ntmps80
      (repeat' (first | go_skip | ((first | ((with_reducible apply wp_move_bool); (focus rfl)) | ((with_reducible apply wp_move_boolG); (focus rfl); (focus rfl))); intro cb hcb; (cases cb <;> (first | (with_reducible exact no_tf hcb) | (with_reducible exact no_ft hcb) | skip)); all_goals ((try simp only [Act.put]); (try simp only [List.setIfInBounds_toArray, List.set_cons_zero, List.set_cons_succ]))) | (go_big_may; (first | ((with_reducible refine is_load ?_); (first | (refine own_ldP hO (h := ?_)) | (refine own_ld (h := ?_)))) | ((with_reducible refine is_store ?_); (first | (refine own_stRp (hO := hO) (h := ?_); clear hO; intro wv hO) | (refine own_st1p (hO := hO) (h := ?_); clear hO; intro wv hO) | (refine own_stR (hO := hO) (h := ?_); clear hO; intro wv hO) | (refine own_st1 (hO := hO) (h := ?_); clear hO; intro wv hO))) | ((with_reducible refine is_load ?_); (refine own_ldW (hO := hO) (h := ?_))) | ((with_reducible refine is_store ?_); (refine own_stW (hO := hO) (h := ?_); clear hO; intro wv hO)))) | go_values | go_skip | go_guarded | go_step | go_upon | go_back | (simp only at *; go_simp) | (go_values <;> (try go_simp)) | (go_ite <;> go_prune <;> (try go_simp)) | (split <;> (first | (rename_i hx; exact (hx _ rfl).elim) | go_prune))))
      all_goals
        go_ret
        exact ⟨ret_bool (by rw [HE.out]; (repeat (first | rfl | rw [if_pos (by assumption)] | rw [if_neg (ne_true (by assumption))] | rw [if_pos (Eq.refl true)] | rw [if_neg Bool.false_ne_true]))), hO.keep.below⟩
  · have hE := bodyR_1 (n := (l.length : Int) - 20) hp
    rw [hp] at c9
    clear hb
    generalize g16 l 24 = y at *
    by_cases h : 28 ≤ l.length
    · replace hg := hg h
      have c20 := bc_at (show 20 < l.length by omega)
      have c21 := bc_at (show 21 < l.length by omega)
      have q : decide (8 ≤ (l.length : Int) - 20) = true := by simp; omega
      rw [q] at hE
      generalize gt l 20 = a at *
      generalize gt l 21 = b at *
      have HE := Lib.hid hE
      clear hE hp
      go_enter Tryd.func80, Tryd.ntmps80
      (repeat' (first | go_skip | ((first | ((with_reducible apply wp_move_bool); (focus rfl)) | ((with_reducible apply wp_move_boolG); (focus rfl); (focus rfl))); intro cb hcb; (cases cb <;> (first | (with_reducible exact no_tf hcb) | (with_reducible exact no_ft hcb) | skip)); all_goals ((try simp only [Act.put]); (try simp only [List.setIfInBounds_toArray, List.set_cons_zero, List.set_cons_succ]))) | (go_big_may; (first | ((with_reducible refine is_load ?_); (first | (refine own_ldP hO (h := ?_)) | (refine own_ld (h := ?_)))) | ((with_reducible refine is_store ?_); (first | (refine own_stRp (hO := hO) (h := ?_); clear hO; intro wv hO) | (refine own_st1p (hO := hO) (h := ?_); clear hO; intro wv hO) | (refine own_stR (hO := hO) (h := ?_); clear hO; intro wv hO) | (refine own_st1 (hO := hO) (h := ?_); clear hO; intro wv hO))) | (go_at_call 63; refine (hg _ (IsCells.below hw0 hO.keep.below)).mono ?_; rintro e wv ⟨rfl, hb⟩; replace hO := hO.call hb; clear hb) | ((with_reducible refine is_load ?_); (refine own_ldW (hO := hO) (h := ?_))) | ((with_reducible refine is_store ?_); (refine own_stW (hO := hO) (h := ?_); clear hO; intro wv hO)))) | go_values | go_skip | go_guarded | go_step | go_upon | go_back | (simp only at *; go_simp) | (go_values <;> (try go_simp)) | (go_ite <;> go_prune <;> (try go_simp)) | (split <;> (first | (rename_i hx; exact (hx _ rfl).elim) | go_prune))))
      all_goals
        go_ret
        exact ⟨ret_bool (by rw [HE.out]; (repeat (first | rfl | rw [if_pos (by assumption)] | rw [if_neg (ne_true (by assumption))] | rw [if_pos (Eq.refl true)] | rw [if_neg Bool.false_ne_true]))), hO.keep.below⟩
    · have q : decide (8 ≤ (l.length : Int) - 20) = false := by simp; omega
      rw [q] at hE
      have HE := Lib.hid hE
      clear hE hp hg
      go_enter Tryd.func80, Tryd.ntmps80
      (repeat' (first | go_skip | ((first | ((with_reducible apply wp_move_bool); (focus rfl)) | ((with_reducible apply wp_move_boolG); (focus rfl); (focus rfl))); intro cb hcb; (cases cb <;> (first | (with_reducible exact no_tf hcb) | (with_reducible exact no_ft hcb) | skip)); all_goals ((try simp only [Act.put]); (try simp only [List.setIfInBounds_toArray, List.set_cons_zero, List.set_cons_succ]))) | (go_big_may; (first | ((with_reducible refine is_load ?_); (first | (refine own_ldP hO (h := ?_)) | (refine own_ld (h := ?_)))) | ((with_reducible refine is_store ?_); (first | (refine own_stRp (hO := hO) (h := ?_); clear hO; intro wv hO) | (refine own_st1p (hO := hO) (h := ?_); clear hO; intro wv hO) | (refine own_stR (hO := hO) (h := ?_); clear hO; intro wv hO) | (refine own_st1 (hO := hO) (h := ?_); clear hO; intro wv hO))) | ((with_reducible refine is_load ?_); (refine own_ldW (hO := hO) (h := ?_))) | ((with_reducible refine is_store ?_); (refine own_stW (hO := hO) (h := ?_); clear hO; intro wv hO)))) | go_values | go_skip | go_guarded | go_step | go_upon | go_back | (simp only at *; go_simp) | (go_values <;> (try go_simp)) | (go_ite <;> go_prune <;> (try go_simp)) | (split <;> (first | (rename_i hx; exact (hx _ rfl).elim) | go_prune))))
      all_goals
        go_ret
        exact ⟨ret_bool (by rw [HE.out]; (repeat (first | rfl | rw [if_pos (by assumption)] | rw [if_neg (ne_true (by assumption))] | rw [if_pos (Eq.refl true)] | rw [if_neg Bool.false_ne_true]))), hO.keep.below⟩
  · have HE := Lib.hid (show bodyR l ((l.length : Int) - 20) = true by unfold bodyR; rw [q1, q2, q3]; rfl)
    generalize gt l 9 = p at *
    clear hb hg
    go_enter Tryd.func80, Tryd.ntmps80
    (repeat' (first | go_skip | ((first | ((with_reducible apply wp_move_bool); (focus rfl)) | ((with_reducible apply wp_move_boolG); (focus rfl); (focus rfl))); intro cb hcb; (cases cb <;> (first | (with_reducible exact no_tf hcb) | (with_reducible exact no_ft hcb) | skip)); all_goals ((try simp only [Act.put]); (try simp only [List.setIfInBounds_toArray, List.set_cons_zero, List.set_cons_succ]))) | (go_big_may; (first | ((with_reducible refine is_load ?_); (first | (refine own_ldP hO (h := ?_)) | (refine own_ld (h := ?_)))) | ((with_reducible refine is_store ?_); (first | (refine own_stRp (hO := hO) (h := ?_); clear hO; intro wv hO) | (refine own_st1p (hO := hO) (h := ?_); clear hO; intro wv hO) | (refine own_stR (hO := hO) (h := ?_); clear hO; intro wv hO) | (refine own_st1 (hO := hO) (h := ?_); clear hO; intro wv hO))) | ((with_reducible refine is_load ?_); (refine own_ldW (hO := hO) (h := ?_))) | ((with_reducible refine is_store ?_); (refine own_stW (hO := hO) (h := ?_); clear hO; intro wv hO)))) | go_values | go_skip | go_guarded | go_step | go_upon | go_back | (simp only at *; go_simp) | (go_values <;> (try go_simp)) | (go_ite <;> go_prune <;> (try go_simp)) | (split <;> (first | (rename_i hx; exact (hx _ rfl).elim) | go_prune))))
    all_goals
      go_ret
      exact ⟨ret_bool HE.out.symm, hO.keep.below⟩
end Go.Proofs.YtjfiipbjphabeaaDoor

/- The error of Decode: the reference. -/
namespace Go.Proofs.YtjfiipbjphabeaaDoor
open Go.RowKit
set_option maxRecDepth 100000

theorem own_ld0 {P : Program} {ops : Array Oper} {rest : List Oper} {o : Oper} {a : Act} {w w0 : World} {Q : Exit → Act → World → Prop} {M : List Nat} {X : List Chunk} {R : List Row} {S : List Ro} (hO : Own M w0 X R S w) (hw : Region.wanted o (yielded ops a.tmps) = true) {t : TypeId} {x : Operand} (ho : o.op = .load t x) {g off : Nat} (hx : a.eval x = .pointer (some ⟨g, off, none⟩))
    (ht : OneT P t) {xs : List Value} {v : Value} (hm : (⟨g, off, xs⟩ : Ro) ∈ S) (hv : xs[0]? = some v) (h : wpList P ops Q rest (a.put o.dst v) w) : wpList P ops Q (o :: rest) a w :=
  wpList_val hw _ _ (rx_load1 ho hx ht (by simpa using hO.roCell (j := 0) hm hv)) h
/-- the error behind the header's form -/
def faultT (l : List Int) (n : Int) : Int := if ck (l.take 20) != 0 then 15 else if bodyR l (n - 20) then (if rightF l then 0 else 15) else 14
/-- the error of Decode -/
def faultF (l : List Int) (n : Int) : Int :=
  if decide (576 < n) then 3 else if decide (n < 20) then 13 else if gt l 0 != 69 then 14 else if g16 l 2 != n then 14 else if g16 l 6 != 0 then (if g16 l 6 != 16384 then 14 else faultT l n) else faultT l n
theorem body_28 {l : List Int} (h : bodyR l ((l.length : Int) - 20) = true) : gt l 9 = 17 → 28 ≤ l.length := fun hp => by
  rw [bodyR_17 hp] at h
  by_cases h2 : 8 ≤ (l.length : Int) - 20
  · omega
  · rw [decide_eq_false h2, if_neg Bool.false_ne_true] at h; cases h
set_option maxHeartbeats 16000000 in
theorem fault_any {v : Value} {l : List Int} (w : World) (hw0 : IsB w v l) (hb : BOk l) (h1 : 20 ≤ l.length) (h2 : l.length ≤ 576) :
    Calls Tryd.prog 62 #[v] w fun e w' => e = .returned (.int .i64 (faultF l l.length)) ∧ Below w.heap.size w w' := by
  obtain ⟨g, o, c, rfl, hc, hO⟩ := hw0.pos (by omega)
  have c0 := bc_at (show 0 < l.length by omega)
  have hg2 : ∀ w, IsB w (.slice (some ⟨g, o, none⟩) l.length c) l → Calls Tryd.prog 63 #[.slice (some ⟨g, o, none⟩) l.length c, .int .i64 2, .int .i64 2] w fun e w' => e = .returned (.int .u32 (g16 l 2)) ∧ Below w.heap.size w w' := fun w hv => num16_any 2 w hv hb (by omega) (by omega)
  have hg6 : ∀ w, IsB w (.slice (some ⟨g, o, none⟩) l.length c) l → Calls Tryd.prog 63 #[.slice (some ⟨g, o, none⟩) l.length c, .int .i64 6, .int .i64 2] w fun e w' => e = .returned (.int .u32 (g16 l 6)) ∧ Below w.heap.size w w' := fun w hv => num16_any 6 w hv hb (by omega) (by omega)
  have hck := fun w hv => rcksum_any (v := .slice (some ⟨g, o, none⟩) 20 c) (l := l.take 20) w hv (hb.take 20) (by simp; omega)
  have hbd := fun w hv => rbody_any (v := .slice (some ⟨g, o, none⟩) l.length c) (l := l) w hv hb h1 (by omega)
  obtain ⟨y0, y1⟩ := g16_bd hb 2
  obtain ⟨z0, z1⟩ := g16_bd hb 6
  have hE : faultF l l.length = if gt l 0 != 69 then 14 else if g16 l 2 != (l.length : Int) then 14 else if g16 l 6 != 0 then (if g16 l 6 != 16384 then 14 else faultT l l.length) else faultT l l.length := by
    unfold faultF
    rw [decide_eq_false (by omega), if_neg Bool.false_ne_true, decide_eq_false (by omega), if_neg Bool.false_ne_true]
  unfold faultT at hE
  cases hB : bodyR l ((l.length : Int) - 20)
  · rw [hB] at hE hbd
    generalize gt l 0 = x at *
    generalize g16 l 2 = y at *
    generalize g16 l 6 = z at *
    generalize ck (l.take 20) = s at *
    have HE := Lib.hid hE
    clear hE hb hB
    go_enter Tryd.func62, Tryd.ntmps62
    (repeat' (first | go_skip | ((first | ((with_reducible apply wp_move_bool); (focus rfl)) | ((with_reducible apply wp_move_boolG); (focus rfl); (focus rfl))); intro cb hcb; (cases cb <;> (first | (with_reducible exact no_tf hcb) | (with_reducible exact no_ft hcb) | skip)); all_goals ((try simp only [Act.put]); (try simp only [List.setIfInBounds_toArray, List.set_cons_zero, List.set_cons_succ]))) | (go_big_may; (first | ((with_reducible refine is_load ?_); (first | (refine own_ldP hO (h := ?_)) | (refine own_ld (h := ?_)))) | ((with_reducible refine is_store ?_); (first | (refine own_stRp (hO := hO) (h := ?_); clear hO; intro wv hO) | (refine own_st1p (hO := hO) (h := ?_); clear hO; intro wv hO) | (refine own_stR (hO := hO) (h := ?_); clear hO; intro wv hO) | (refine own_st1 (hO := hO) (h := ?_); clear hO; intro wv hO))) | ((with_reducible refine is_load ?_); (refine own_ld0 hO (by rfl) rfl rfl one_u8 List.mem_cons_self c0 ?_)) | (go_at_call 63; (with_reducible refine (hg2 _ ?_).mono ?_); (focus exact IsCells.below hw0 hO.keep.below); rintro e wv ⟨rfl, hb9⟩; replace hO := hO.call hb9; clear hb9) | (go_at_call 63; (with_reducible refine (hg6 _ ?_).mono ?_); (focus exact IsCells.below hw0 hO.keep.below); rintro e wv ⟨rfl, hb9⟩; replace hO := hO.call hb9; clear hb9) | (go_at_call 15; refine (hck _ (IsB.front (IsCells.below hw0 hO.keep.below) (by omega) (by omega))).mono ?_; rintro e wv ⟨rfl, hb⟩; replace hO := hO.call hb; clear hb) | (go_at_call 80; refine (hbd _ (IsCells.below hw0 hO.keep.below)).mono ?_; rintro e wv ⟨rfl, hb⟩; replace hO := hO.call hb; clear hb) | (go_at_call 81; refine (hrt _ (IsCells.below hw0 hO.keep.below)).mono ?_; rintro e wv ⟨rfl, hb⟩; replace hO := hO.call hb; clear hb) | ((with_reducible refine is_load ?_); (refine own_ldW (hO := hO) (h := ?_))) | ((with_reducible refine is_store ?_); (refine own_stW (hO := hO) (h := ?_); clear hO; intro wv hO)))) | go_values | go_skip | go_guarded | go_step | go_upon | go_back | (simp only at *; go_simp) | (go_values <;> (try go_simp)) | (go_ite <;> go_prune <;> (try go_simp)) | (split <;> (first | (rename_i hx; exact (hx _ rfl).elim) | go_prune))))
    all_goals
      go_ret
      exact ⟨ret_int (by rw [HE.out]; (repeat (first | rfl | rw [if_pos (by assumption)] | rw [if_neg (ne_true (by assumption))] | rw [if_pos (Eq.refl true)] | rw [if_neg Bool.false_ne_true]))), hO.keep.below⟩
  · have hrt := fun w hv => right_any (v := .slice (some ⟨g, o, none⟩) l.length c) (l := l) w hv hb h1 (by omega) (body_28 hB)
    rw [hB] at hE hbd
    generalize rightF l = R at *
    generalize gt l 0 = x at *
    generalize g16 l 2 = y at *
    generalize g16 l 6 = z at *
    generalize ck (l.take 20) = s at *
    cases R
    all_goals
      have HE := Lib.hid hE
      clear hE hb hB
      go_enter Tryd.func62, Tryd.ntmps62
      (repeat' (first | go_skip | ((first | ((with_reducible apply wp_move_bool); (focus rfl)) | ((with_reducible apply wp_move_boolG); (focus rfl); (focus rfl))); intro cb hcb; (cases cb <;> (first | (with_reducible exact no_tf hcb) | (with_reducible exact no_ft hcb) | skip)); all_goals ((try simp only [Act.put]); (try simp only [List.setIfInBounds_toArray, List.set_cons_zero, List.set_cons_succ]))) | (go_big_may; (first | ((with_reducible refine is_load ?_); (first | (refine own_ldP hO (h := ?_)) | (refine own_ld (h := ?_)))) | ((with_reducible refine is_store ?_); (first | (refine own_stRp (hO := hO) (h := ?_); clear hO; intro wv hO) | (refine own_st1p (hO := hO) (h := ?_); clear hO; intro wv hO) | (refine own_stR (hO := hO) (h := ?_); clear hO; intro wv hO) | (refine own_st1 (hO := hO) (h := ?_); clear hO; intro wv hO))) | ((with_reducible refine is_load ?_); (refine own_ld0 hO (by rfl) rfl rfl one_u8 List.mem_cons_self c0 ?_)) | (go_at_call 63; (with_reducible refine (hg2 _ ?_).mono ?_); (focus exact IsCells.below hw0 hO.keep.below); rintro e wv ⟨rfl, hb9⟩; replace hO := hO.call hb9; clear hb9) | (go_at_call 63; (with_reducible refine (hg6 _ ?_).mono ?_); (focus exact IsCells.below hw0 hO.keep.below); rintro e wv ⟨rfl, hb9⟩; replace hO := hO.call hb9; clear hb9) | (go_at_call 15; refine (hck _ (IsB.front (IsCells.below hw0 hO.keep.below) (by omega) (by omega))).mono ?_; rintro e wv ⟨rfl, hb⟩; replace hO := hO.call hb; clear hb) | (go_at_call 80; refine (hbd _ (IsCells.below hw0 hO.keep.below)).mono ?_; rintro e wv ⟨rfl, hb⟩; replace hO := hO.call hb; clear hb) | (go_at_call 81; refine (hrt _ (IsCells.below hw0 hO.keep.below)).mono ?_; rintro e wv ⟨rfl, hb⟩; replace hO := hO.call hb; clear hb) | ((with_reducible refine is_load ?_); (refine own_ldW (hO := hO) (h := ?_))) | ((with_reducible refine is_store ?_); (refine own_stW (hO := hO) (h := ?_); clear hO; intro wv hO)))) | go_values | go_skip | go_guarded | go_step | go_upon | go_back | (simp only at *; go_simp) | (go_values <;> (try go_simp)) | (go_ite <;> go_prune <;> (try go_simp)) | (split <;> (first | (rename_i hx; exact (hx _ rfl).elim) | go_prune))))
      all_goals
        go_ret
        exact ⟨ret_int (by rw [HE.out]; (repeat (first | rfl | rw [if_pos (by assumption)] | rw [if_neg (ne_true (by assumption))] | rw [if_pos (Eq.refl true)] | rw [if_neg Bool.false_ne_true]))), hO.keep.below⟩
end Go.Proofs.YtjfiipbjphabeaaDoor

/- Packets in plain data: what Decode, Encode, Rewrite, Hop, Opens, Probe and Answer answer. -/
namespace Go.Proofs.YtjfiipbjphabeaaDoor
open Go.RowKit
set_option maxRecDepth 100000

/-- a packet -/
structure Pk where
  h : Hd
  t : Int
  f : Int
  pl : List Int
/-- where the payload begins -/
def fromF (l : List Int) : Nat := if gt l 9 == 6 then 20 + 4 * (gt l 32 / 16).toNat else if gt l 9 == 17 then 28 else if gt l 9 == 1 then 28 else 20
def spF (l : List Int) : Int := if gt l 9 == 6 then g16 l 20 else if gt l 9 == 17 then g16 l 20 else if gt l 9 == 1 then (if gt l 20 == 0 then 8 else g16 l 24) else 0
def dpF (l : List Int) : Int := if gt l 9 == 6 then g16 l 22 else if gt l 9 == 17 then g16 l 22 else if gt l 9 == 1 then (if gt l 20 == 0 then g16 l 24 else 8) else 0
def flF (l : List Int) : Int := if gt l 9 == 6 then bits BinOp.and IntKind.i64 (gt l 33) 23 else 0
def decOk (l : List Int) : Pk := ⟨⟨g32 l 12, g32 l 16, gt l 9, spF l, dpF l⟩, gt l 8, flF l, l.drop (fromF l)⟩
def errF (l : List Int) : Int := faultF l l.length
def decF (l : List Int) : Pk := if errF l == 0 then decOk l else ⟨⟨0, 0, 0, 0, 0⟩, 0, 0, []⟩
/-- the length of a packet ahead of its payload -/
def encLen (p : Int) : Nat := if p == 6 then 40 else if p == 17 then 28 else if p == 1 then 28 else 20
def encHd (p : Pk) : List Int := p16 ((((List.replicate (encLen p.h.proto) 0 ++ p.pl).set 0 69).set 8 p.t).set 9 p.h.proto) 2 (encLen p.h.proto + p.pl.length)
def kindF (l : List Int) (p : Pk) : List Int :=
  if p.h.proto == 6 then (l.set 32 80).set 33 p.f else if p.h.proto == 17 then p16 l 24 ((l.length : Int) - 20) else if p.h.proto == 1 then (if p.h.dport == 8 then l.set 20 8 else l) else l
def encB (p : Pk) : List Int := sumsF (hdrF (kindF (encHd p) p) p.h)
def encE (p : Pk) : Int := if encOkF p.h p.t p.f then (if 576 < encLen p.h.proto + p.pl.length then 3 else 0) else 1
def encF (p : Pk) : List Int := if encE p == 0 then encB p else []
def rwE (l : List Int) (h : Hd) : Int := if errF l == 0 then (if fitF (gt l 20 == 8) (gt l 9) h then 0 else 1) else errF l
def rwB (l : List Int) (h : Hd) : List Int := sumsR (hdrF l h) true
def rwF (l : List Int) (h : Hd) : List Int := if rwE l h == 0 then rwB l h else []
def hopE (l : List Int) : Int := if errF l == 0 then (if gt l 8 < 2 then 2 else 0) else errF l
def hopB (l : List Int) : List Int := hdSum (l.set 8 (gt l 8 - 1))
def hopF (l : List Int) : List Int := if hopE l == 0 then hopB l else []
def opensF (l : List Int) : Bool := if errF l == 0 then (if gt l 9 == 6 then flF l == 2 else if gt l 9 == 1 then gt l 20 == 8 else true) else false
def iniF (h : Hd) : Bool := if h.proto == 6 then true else if h.proto == 17 then true else if h.proto == 1 then (if h.dport == 8 then h.sport != 8 else false) else (if h.sport == 0 then h.dport == 0 else false)
def prbP (h : Hd) : Pk := ⟨h, 64, if h.proto == 6 then 2 else 0, []⟩
def prbE (h : Hd) : Int := if iniF h then encE (prbP h) else 1
def prbF (h : Hd) : List Int := if iniF h then encF (prbP h) else []
def ansP (l : List Int) : Pk := ⟨revH (decOk l).h, 64, if gt l 9 == 6 then (if bits BinOp.and IntKind.i64 (flF l) 2 != 0 then 18 else 16) else 0, []⟩
def ansE (l : List Int) : Int := if errF l == 0 then encE (ansP l) else errF l
def ansF (l : List Int) : List Int := if errF l == 0 then encF (ansP l) else []

/-! ### bytes at indices -/
theorem gt_set (l : List Int) (k : Nat) (x : Int) (j : Nat) : gt (l.set k x) j = if k = j ∧ j < l.length then x else gt l j := by
  unfold gt
  rw [List.getD_eq_getElem?_getD, List.getD_eq_getElem?_getD, List.getElem?_set]
  by_cases h : k = j
  · subst h
    by_cases h2 : k < l.length
    · simp [h2]
    · simp [h2]
  · simp [h]
theorem gt_app_l {l m : List Int} {k : Nat} (h : k < l.length) : gt (l ++ m) k = gt l k := by
  unfold gt; simp [List.getD_eq_getElem?_getD, List.getElem?_append_left h]
theorem gt_app_r {l m : List Int} {k : Nat} : gt (l ++ m) (l.length + k) = gt m k := by
  unfold gt; simp [List.getD_eq_getElem?_getD, List.getElem?_append_right]
theorem gt_take {l : List Int} {k n : Nat} (h : k < n) : gt (l.take n) k = gt l k := by
  unfold gt; simp [List.getD_eq_getElem?_getD, h]
theorem gt_drop {l : List Int} {k n : Nat} : gt (l.drop n) k = gt l (n + k) := by
  unfold gt; simp [List.getD_eq_getElem?_getD, List.getElem?_drop]
theorem gt_rep (n k : Nat) : gt (List.replicate n 0) k = 0 := by
  unfold gt; rw [List.getD_eq_getElem?_getD, List.getElem?_replicate]; split <;> rfl
theorem list_ext {l m : List Int} (hl : l.length = m.length) (h : ∀ k, k < l.length → gt l k = gt m k) : l = m := List.ext_getElem hl fun k h1 h2 => by
  have := h k h1
  unfold gt at this
  simpa [List.getD_eq_getElem?_getD, h1, h2] using this
theorem gt_p16 (l : List Int) (k : Nat) (x : Int) (j : Nat) : gt (p16 l k x) j = if k + 1 = j ∧ j < l.length then x % 256 else if k = j ∧ j < l.length then x / 256 else gt l j := by
  unfold p16
  rw [gt_set, gt_set]; simp
theorem g16_p16 {l : List Int} {k : Nat} {x : Int} (h : k + 1 < l.length) : g16 (p16 l k x) k = x := by
  unfold g16
  rw [gt_p16, gt_p16, if_neg (by omega), if_pos ⟨rfl, by omega⟩, if_pos ⟨rfl, h⟩]
  omega
theorem g16_p16_ne {l : List Int} {k j : Nat} {x : Int} (h : k + 1 < j ∨ j + 1 < k) : g16 (p16 l k x) j = g16 l j := by
  unfold g16
  rw [gt_p16_ne (by omega) (by omega), gt_p16_ne (by omega) (by omega)]
theorem g16_p32_ne {l : List Int} {k j : Nat} {x : Int} (h : k + 3 < j ∨ j + 1 < k) : g16 (p32 l k x) j = g16 l j := by
  unfold p32
  rw [g16_p16_ne (by omega), g16_p16_ne (by omega)]
theorem g32_p16_ne {l : List Int} {k j : Nat} {x : Int} (h : k + 1 < j ∨ j + 3 < k) : g32 (p16 l k x) j = g32 l j := by
  unfold g32
  rw [g16_p16_ne (by omega), g16_p16_ne (by omega)]
theorem g32_p32 {l : List Int} {k : Nat} {x : Int} (h : k + 3 < l.length) : g32 (p32 l k x) k = x := by
  unfold g32 p32
  rw [g16_p16_ne (by omega), g16_p16 (by omega), g16_p16 (by rw [p16_length]; omega)]
  omega
theorem g32_p32_ne {l : List Int} {k j : Nat} {x : Int} (h : k + 3 < j ∨ j + 3 < k) : g32 (p32 l k x) j = g32 l j := by
  unfold p32
  rw [g32_p16_ne (by omega), g32_p16_ne (by omega)]
theorem g16_set_ne {l : List Int} {k j : Nat} {x : Int} (h : k < j ∨ j + 1 < k) : g16 (l.set k x) j = g16 l j := by
  unfold g16
  rw [gt_set_ne (by omega), gt_set_ne (by omega)]
theorem g32_set_ne {l : List Int} {k j : Nat} {x : Int} (h : k < j ∨ j + 3 < k) : g32 (l.set k x) j = g32 l j := by
  unfold g32
  rw [g16_set_ne (by omega), g16_set_ne (by omega)]

/-! ### sums -/
theorem ws_succ (l : List Int) (n : Nat) : ws l (n + 1) = ws l n + (if n % 2 = 0 then gt l n * 256 else gt l n) := rfl
theorem ws_congr {l m : List Int} : ∀ n : Nat, (∀ k, k < n → gt l k = gt m k) → ws l n = ws m n
  | 0, _ => rfl
  | n + 1, h => by rw [ws_succ, ws_succ, ws_congr n fun k hk => h k (by omega), h n (by omega)]
theorem ws_set {l : List Int} {k : Nat} {x : Int} (hk : k < l.length) : ∀ n : Nat, ws (l.set k x) n = ws l n + (if k < n then (if k % 2 = 0 then (x - gt l k) * 256 else x - gt l k) else 0)
  | 0 => by simp [ws]
  | n + 1 => by
    rw [ws_succ, ws_succ, ws_set hk n, gt_set]
    by_cases h : k = n
    · subst h
      simp only [Nat.lt_irrefl, if_false, hk, and_self, if_true, show k < k + 1 by omega]
      split <;> omega
    · simp only [show ¬ (k = n ∧ n < l.length) from fun e => h e.1, if_false]
      by_cases h2 : k < n
      · simp only [h2, if_true, show k < n + 1 by omega]; omega
      · simp only [h2, if_false, show ¬ k < n + 1 by omega]; omega
theorem ws_p16 {l : List Int} {k n : Nat} {x : Int} (hk : k + 1 < l.length) (he : k % 2 = 0) (hn : k + 1 < n) : ws (p16 l k x) n = ws l n - g16 l k + x := by
  unfold p16 g16
  rw [ws_set (by simpa using hk), ws_set (by omega), if_pos hn, if_pos (by omega : k < n), if_pos he, if_neg (by omega), gt_set_ne (by omega)]
  omega
theorem ws_p16_out {l : List Int} {k n : Nat} {x : Int} (h : n ≤ k) : ws (p16 l k x) n = ws l n := ws_congr n fun j hj => gt_p16_ne (by omega) (by omega)
theorem ws_drop {l : List Int} {n : Nat} (he : n % 2 = 0) : ∀ j : Nat, ws (l.drop n) j = ws l (n + j) - ws l n
  | 0 => by simp [ws]
  | j + 1 => by
    rw [ws_succ, ws_drop he j, ← Nat.add_assoc, ws_succ, gt_drop, show (n + j) % 2 = j % 2 by omega]
    omega
theorem ws_app {l m : List Int} (he : l.length % 2 = 0) : ∀ j : Nat, ws (l ++ m) (l.length + j) = ws l l.length + ws m j
  | 0 => by
    simp only [Nat.add_zero, ws, Int.add_zero]
    exact ws_congr _ fun k hk => gt_app_l hk
  | j + 1 => by
    rw [← Nat.add_assoc, ws_succ, ws_app he j, ws_succ, gt_app_r, show (l.length + j) % 2 = j % 2 by omega]
    omega
theorem ws_take {l : List Int} {n j : Nat} (h : j ≤ n) : ws (l.take n) j = ws l j := ws_congr j fun k hk => gt_take (by omega)
/-- a sum that is right -/
def okS (s : Int) : Prop := 0 < s ∧ s % 65535 = 0
theorem fold_ok {s : Int} (h : 0 ≤ s) : 65535 - foldC s = 0 ↔ okS s := by
  unfold foldC okS
  split <;> omega
theorem fold_fix {s : Int} (h : 0 ≤ s) : okS (s + (65535 - foldC s)) := by
  unfold foldC okS
  split <;> omega
theorem ck_ok {l : List Int} (hb : BOk l) : ck l = 0 ↔ okS (ws l l.length) := fold_ok (ws_bd hb _).1
theorem ck_take {l : List Int} (h : 20 ≤ l.length) : ck (l.take 20) = 65535 - foldC (ws l 20) := by
  unfold ck
  rw [List.length_take, Nat.min_eq_left h, ws_take (Nat.le_refl _)]
def covS (l : List Int) : Int := if gt l 9 == 1 then ws l l.length - ws l 20 else ws l l.length - ws l 12 + gt l 9 + ((l.length : Int) - 20)
theorem ws_cov {l : List Int} (h : 20 ≤ l.length) : ws (cov l) (cov l).length = covS l := by
  unfold cov covS
  cases hp : gt l 9 == 1
  · rw [if_neg Bool.false_ne_true, if_neg Bool.false_ne_true]
    have e1 : ((l.drop 12).take 8).length = 8 := by simp; omega
    have e2 : ((l.drop 12).take 8 ++ [0, gt l 9, ((l.length : Int) - 20) / 256, ((l.length : Int) - 20) % 256]).length = 12 := by simp; omega
    have e3 : (((l.drop 12).take 8 ++ [0, gt l 9, ((l.length : Int) - 20) / 256, ((l.length : Int) - 20) % 256]) ++ l.drop 20).length = 12 + (l.length - 20) := by simp; omega
    have h3 : ws [0, gt l 9, ((l.length : Int) - 20) / 256, ((l.length : Int) - 20) % 256] 4 = gt l 9 + ((l.length : Int) - 20) := by
      simp [ws]; omega
    rw [e3]
    generalize ([0, gt l 9, ((l.length : Int) - 20) / 256, ((l.length : Int) - 20) % 256] : List Int) = B at *
    have h1 := ws_app (l := (l.drop 12).take 8 ++ B) (m := l.drop 20) (by rw [e2]) (l.length - 20)
    have h2 : ws ((l.drop 12).take 8 ++ B) 12 = ws ((l.drop 12).take 8) 8 + ws B 4 := by
      have := ws_app (l := (l.drop 12).take 8) (m := B) (by rw [e1]) 4
      rw [e1] at this
      exact this
    have h4 : ws ((l.drop 12).take 8) 8 = ws l 20 - ws l 12 := by
      rw [ws_take (Nat.le_refl _)]
      exact ws_drop (by rfl) 8
    have h5 : ws (l.drop 20) (l.length - 20) = ws l l.length - ws l 20 := by
      have := ws_drop (l := l) (n := 20) (by rfl) (l.length - 20)
      rwa [show 20 + (l.length - 20) = l.length by omega] at this
    rw [e2] at h1
    omega
  · rw [if_pos rfl, if_pos rfl, ws_drop (by rfl), List.length_drop, show 20 + (l.length - 20) = l.length by omega]
theorem BOk.cov {l : List Int} (hb : BOk l) (h : 20 ≤ l.length) (hl : l.length ≤ 65536) : BOk (cov l) := by
  unfold Go.Proofs.YtjfiipbjphabeaaDoor.cov
  obtain ⟨b1, b2⟩ := gt_bd hb 9
  split
  · exact fun x hx => hb x (List.mem_of_mem_drop hx)
  · refine ((hb.part 12 8).append fun x hx => ?_).append fun x hx => hb x (List.mem_of_mem_drop hx)
    simp only [List.mem_cons, List.not_mem_nil, or_false] at hx
    omega
theorem ck_cov {l : List Int} (hb : BOk l) (h : 20 ≤ l.length) (hl : l.length ≤ 65536) : ck (cov l) = 65535 - foldC (covS l) ∧ 0 ≤ covS l := by
  have h1 := ws_cov h
  have h2 := ws_bd (hb.cov h hl) (cov l).length
  unfold ck
  rw [h1] at h2 ⊢
  exact ⟨rfl, h2.1⟩
theorem covS_p16 {l : List Int} {k : Nat} {x : Int} (hk : k + 1 < l.length) (he : k % 2 = 0) (h : 20 ≤ k) : covS (p16 l k x) = covS l - g16 l k + x := by
  unfold covS
  rw [p16_length, gt_p16_ne (by omega) (by omega), ws_p16 hk he hk, ws_p16_out h, ws_p16_out (by omega)]
  split <;> omega
theorem covS_head {l : List Int} {x : Int} (h : 20 ≤ l.length) : covS (p16 l 10 x) = covS l := by
  unfold covS
  rw [p16_length, gt_p16_ne (by omega) (by omega), ws_p16 (by omega) (by rfl) (by omega), ws_p16 (by omega) (by rfl) (by omega), ws_p16 (by omega) (by rfl) (by omega)]
  split <;> omega
end Go.Proofs.YtjfiipbjphabeaaDoor

/- Packets in plain data: which bytes are a valid packet; the checksums that are set are right. -/
namespace Go.Proofs.YtjfiipbjphabeaaDoor
open Go.RowKit
set_option maxRecDepth 100000

theorem b66 : ((6 : Int) == 6) = true := rfl
theorem b1717 : ((17 : Int) == 17) = true := rfl
theorem b11 : ((1 : Int) == 1) = true := rfl
theorem errF_ok {l : List Int} : errF l = 0 ↔ 20 ≤ l.length ∧ l.length ≤ 576 ∧ gt l 0 = 69 ∧ g16 l 2 = l.length ∧ (g16 l 6 = 0 ∨ g16 l 6 = 16384) ∧ ck (l.take 20) = 0 ∧ bodyR l ((l.length : Int) - 20) = true ∧ rightF l = true := by
  unfold errF faultF faultT
  by_cases a1 : 576 < (l.length : Int)
  · rw [decide_eq_true a1, if_pos rfl]
    constructor
    · intro h; cases h
    · intro h; omega
  rw [decide_eq_false a1, if_neg Bool.false_ne_true]
  by_cases a2 : (l.length : Int) < 20
  · rw [decide_eq_true a2, if_pos rfl]
    constructor
    · intro h; cases h
    · intro h; omega
  rw [decide_eq_false a2, if_neg Bool.false_ne_true]
  have a3 : 20 ≤ l.length := by omega
  have a4 : l.length ≤ 576 := by omega
  simp only [a3, a4, true_and, bne_iff_ne, ne_eq, ite_not]
  by_cases b1 : gt l 0 = 69
  · by_cases b2 : g16 l 2 = l.length
    · rw [if_pos b1, if_pos b2]
      by_cases b3 : g16 l 6 = 0
      · rw [if_pos b3]
        by_cases b4 : ck (l.take 20) = 0
        · rw [if_pos b4]
          cases b5 : bodyR l ((l.length : Int) - 20) <;> cases b6 : rightF l <;> simp_all
        · rw [if_neg b4]; simp_all
      · rw [if_neg b3]
        by_cases b3' : g16 l 6 = 16384
        · rw [if_pos b3']
          by_cases b4 : ck (l.take 20) = 0
          · rw [if_pos b4]
            cases b5 : bodyR l ((l.length : Int) - 20) <;> cases b6 : rightF l <;> simp_all
          · rw [if_neg b4]; simp_all
        · rw [if_neg b3']; simp_all
    · rw [if_pos b1, if_neg b2]; simp_all
  · rw [if_neg b1]; simp_all
theorem rightF_ok {l : List Int} (hb : BOk l) (h : 20 ≤ l.length) (hl : l.length ≤ 65536) : rightF l = true ↔ (gt l 9 = 6 → okS (covS l)) ∧ (gt l 9 = 17 → g16 l 26 = 0 ∨ okS (covS l)) ∧ (gt l 9 = 1 → okS (covS l)) := by
  have e : (ck (cov l) == 0) = true ↔ okS (covS l) := by
    obtain ⟨h1, h2⟩ := ck_cov hb h hl
    rw [beq_iff_eq, h1]
    exact fold_ok h2
  unfold rightF
  rcases proto_cases (gt l 9) with hp | hp | hp | ⟨q1, q2, q3⟩
  · rw [hp, if_pos b66, e]; simp
  · rw [hp, if_neg (by decide), if_pos b1717]
    by_cases hq : g16 l 26 = 0
    · simp [hq]
    · rw [if_neg (by simpa using hq), e]; simp [hq]
  · rw [hp, if_neg (by decide), if_neg (by decide), if_pos b11, e]; simp
  · rw [q1, q2, q3]
    simp only [beq_eq_false_iff_ne, ne_eq] at q1 q2 q3
    simp [q1, q2, q3]
theorem bodyR_congr {l m : List Int} (n : Int) (h9 : gt l 9 = gt m 9) (h20 : gt l 20 = gt m 20) (h21 : gt l 21 = gt m 21) (h24 : g16 l 24 = g16 m 24) (h32 : gt l 32 = gt m 32) : bodyR l n = bodyR m n := by
  unfold bodyR
  rw [h9, h20, h21, h24, h32]
/-- what a body's form says of the length -/
theorem bodyR_len {l : List Int} {n : Int} (h : bodyR l n = true) : (gt l 9 = 6 → 20 ≤ n ∧ 5 ≤ gt l 32 / 16 ∧ 4 * (gt l 32 / 16) ≤ n) ∧ (gt l 9 = 17 → 8 ≤ n ∧ g16 l 24 = n) ∧ (gt l 9 = 1 → 8 ≤ n ∧ (gt l 20 = 8 ∨ gt l 20 = 0) ∧ gt l 21 = 0 ∧ g16 l 24 ≠ 8) := by
  refine ⟨fun hp => ?_, fun hp => ?_, fun hp => ?_⟩
  · rw [bodyR_6 hp] at h
    by_cases a : 20 ≤ n <;> by_cases b : 5 ≤ gt l 32 / 16 <;> simp_all
  · rw [bodyR_17 hp] at h
    by_cases a : 8 ≤ n <;> simp_all
  · rw [bodyR_1 hp] at h
    by_cases a : 8 ≤ n <;> by_cases b : gt l 20 = 8 <;> by_cases c : gt l 20 = 0 <;> by_cases d : gt l 21 = 0 <;> simp_all
theorem hdSum_eq (l : List Int) : hdSum l = p16 (p16 l 10 0) 10 (ck ((p16 l 10 0).take 20)) := rfl
theorem gt_hd {l : List Int} {j : Nat} (h : j < 10 ∨ 11 < j) : gt (hdSum l) j = gt l j := by
  unfold hdSum
  rw [gt_p16_ne (by omega) (by omega), gt_p16_ne (by omega) (by omega)]
theorem g16_hd {l : List Int} {j : Nat} (h : j + 1 < 10 ∨ 11 < j) : g16 (hdSum l) j = g16 l j := by unfold g16; rw [gt_hd (by omega), gt_hd (by omega)]
theorem g32_hd {l : List Int} {j : Nat} (h : j + 3 < 10 ∨ 11 < j) : g32 (hdSum l) j = g32 l j := by unfold g32; rw [g16_hd (by omega), g16_hd (by omega)]
theorem take_hd {l : List Int} (hb : BOk l) (h : 20 ≤ l.length) : ck ((hdSum l).take 20) = 0 := by
  have hl : (p16 l 10 0).length = l.length := p16_length _ _ _
  have hbm := hb.p16 10 (x := 0) (by omega) (by omega)
  rw [ck_take (by rw [hdSum_length]; exact h), hdSum_eq, ck_take (by omega), ws_p16 (by omega) (by rfl) (by omega), g16_p16 (by omega)]
  generalize hs : ws (p16 l 10 0) 20 = s
  have h0 : 0 ≤ s := hs ▸ (ws_bd hbm 20).1
  have := fold_fix h0
  rw [← fold_ok (Int.add_nonneg h0 (by have := foldC_bd s; omega))] at this
  rw [show s - 0 + (65535 - foldC s) = s + (65535 - foldC s) by omega]
  exact this
theorem covS_hd {l : List Int} (h : 20 ≤ l.length) : covS (hdSum l) = covS l := by
  rw [hdSum_eq, covS_head (by rw [p16_length]; exact h), covS_head h]
theorem rightF_hd {l : List Int} (hb : BOk l) (h : 20 ≤ l.length) (hl : l.length ≤ 65536) (hr : rightF l = true) : rightF (hdSum l) = true := by
  have hh : (hdSum l).length = l.length := hdSum_length l
  rw [rightF_ok hb.hdSum (by omega) (by omega), covS_hd h, gt_hd (by omega), g16_hd (by omega)]
  exact (rightF_ok hb h hl).1 hr
theorem errF_hd {l : List Int} (hb : BOk l) (h : 20 ≤ l.length) (hl : l.length ≤ 576) (h0 : gt l 0 = 69) (h2 : g16 l 2 = l.length) (h6 : g16 l 6 = 0 ∨ g16 l 6 = 16384) (hB : bodyR l ((l.length : Int) - 20) = true) (hr : rightF l = true) : errF (hdSum l) = 0 := by
  have hh : (hdSum l).length = l.length := hdSum_length l
  rw [errF_ok, hh, gt_hd (by omega), g16_hd (by omega), g16_hd (by omega)]
  refine ⟨h, hl, h0, h2, h6, take_hd hb h, ?_, rightF_hd hb h (by omega) hr⟩
  rw [bodyR_congr _ (gt_hd (by omega)) (gt_hd (by omega)) (gt_hd (by omega)) (g16_hd (by omega)) (gt_hd (by omega))]
  exact hB
/-! ### the body's checksum -/
theorem bdSum_eq (l : List Int) (k : Nat) (u : Bool) : ∃ c, bdSum l k u = p16 (p16 l k 0) k c ∧ (c = ck (cov (p16 l k 0)) ∨ (ck (cov (p16 l k 0)) = 0 ∧ c = 65535)) := by
  unfold bdSum
  refine ⟨_, rfl, ?_⟩
  split
  · rename_i h
    split
    · exact .inr ⟨by simpa using h, rfl⟩
    · exact .inl rfl
  · exact .inl rfl
theorem gt_bs {l : List Int} {k j : Nat} {u : Bool} (h : j < k ∨ k + 1 < j) : gt (bdSum l k u) j = gt l j := by
  unfold bdSum
  rw [gt_p16_ne (by omega) (by omega), gt_p16_ne (by omega) (by omega)]
theorem g16_bs {l : List Int} {k j : Nat} {u : Bool} (h : j + 1 < k ∨ k + 1 < j) : g16 (bdSum l k u) j = g16 l j := by unfold g16; rw [gt_bs (by omega), gt_bs (by omega)]
theorem g32_bs {l : List Int} {k j : Nat} {u : Bool} (h : j + 3 < k ∨ k + 1 < j) : g32 (bdSum l k u) j = g32 l j := by unfold g32; rw [g16_bs (by omega), g16_bs (by omega)]
theorem bdSum_length (l : List Int) (k : Nat) (u : Bool) : (bdSum l k u).length = l.length := by unfold bdSum; rw [p16_length, p16_length]
theorem bdSum_ok {l : List Int} {k : Nat} {u : Bool} (hb : BOk l) : BOk (bdSum l k u) := by
  obtain ⟨c, h1, h2⟩ := bdSum_eq l k u
  have h3 := ck_bd (cov (p16 l k 0))
  rw [h1]
  exact (hb.p16 k (x := 0) (by omega) (by omega)).p16 k (by omega) (by omega)
theorem covS_bs {l : List Int} {k : Nat} {u : Bool} (hb : BOk l) (h : 20 ≤ l.length) (hl : l.length ≤ 65536) (hk : k + 1 < l.length) (he : k % 2 = 0) (h20 : 20 ≤ k) : okS (covS (bdSum l k u)) := by
  obtain ⟨c, h1, h2⟩ := bdSum_eq l k u
  have hm : (p16 l k 0).length = l.length := p16_length _ _ _
  obtain ⟨h3, h4⟩ := ck_cov (hb.p16 k (x := 0) (by omega) (by omega)) (by omega) (by omega)
  rw [h1, covS_p16 (by omega) he h20, g16_p16 hk]
  generalize covS (p16 l k 0) = s at *
  have h5 := fold_fix h4
  unfold okS at *
  rcases h2 with h2 | ⟨h2, h6⟩
  · rw [h2, h3]; omega
  · rw [h3] at h2
    rw [h2] at h5
    omega
theorem rightF_bs {l : List Int} {k : Nat} {u : Bool} (hb : BOk l) (h : 20 ≤ l.length) (hl : l.length ≤ 65536) (hk : k + 1 < l.length) (he : k % 2 = 0) (h20 : 20 ≤ k) : rightF (bdSum l k u) = true := by
  have h1 := covS_bs (u := u) hb h hl hk he h20
  rw [rightF_ok (bdSum_ok hb) (by rw [bdSum_length]; exact h) (by rw [bdSum_length]; exact hl)]
  exact ⟨fun _ => h1, fun _ => .inr h1, fun _ => h1⟩
theorem errF_bs {l : List Int} {k : Nat} {u : Bool} (hb : BOk l) (h : 20 ≤ l.length) (hl : l.length ≤ 576) (h0 : gt l 0 = 69) (h2 : g16 l 2 = l.length) (h6 : g16 l 6 = 0 ∨ g16 l 6 = 16384) (hB : bodyR l ((l.length : Int) - 20) = true) (hk : k + 1 < l.length) (hk2 : k = 22 ∨ k = 26 ∨ k = 36) : errF (hdSum (bdSum l k u)) = 0 := by
  have hn := bdSum_length l k u
  refine errF_hd (bdSum_ok hb) (by omega) (by omega) (by rw [gt_bs (by omega)]; exact h0) (by rw [g16_bs (by omega), hn]; exact h2) (by rw [g16_bs (by omega)]; exact h6) ?_ (rightF_bs hb h (by omega) hk (by omega) (by omega))
  rw [hn, bodyR_congr _ (gt_bs (by omega)) (gt_bs (by omega)) (gt_bs (by omega)) (g16_bs (by omega)) (gt_bs (by omega))]
  exact hB
theorem errF_sums {l : List Int} (hb : BOk l) (h : 20 ≤ l.length) (hl : l.length ≤ 576) (h0 : gt l 0 = 69) (h2 : g16 l 2 = l.length) (h6 : g16 l 6 = 0 ∨ g16 l 6 = 16384) (hB : bodyR l ((l.length : Int) - 20) = true) : errF (sumsF l) = 0 := by
  obtain ⟨b6, b17, b1⟩ := bodyR_len hB
  unfold sumsF
  rcases proto_cases (gt l 9) with hp | hp | hp | ⟨q1, q2, q3⟩
  · rw [hp, if_pos b66]; have := b6 hp; exact errF_bs hb h hl h0 h2 h6 hB (by omega) (by omega)
  · rw [hp, if_neg (by decide), if_pos b1717]; have := b17 hp; exact errF_bs hb h hl h0 h2 h6 hB (by omega) (by omega)
  · rw [hp, if_neg (by decide), if_neg (by decide), if_pos b11]; have := b1 hp; exact errF_bs hb h hl h0 h2 h6 hB (by omega) (by omega)
  · rw [q1, q2, q3]
    refine errF_hd hb h hl h0 h2 h6 hB ?_
    rw [rightF_ok hb h (by omega)]
    simp only [beq_eq_false_iff_ne, ne_eq] at q1 q2 q3
    exact ⟨fun e => absurd e q1, fun e => absurd e q2, fun e => absurd e q3⟩
theorem sumsF_length (l : List Int) : (sumsF l).length = l.length := by
  unfold sumsF
  repeat' split
  all_goals simp [hdSum_length, bdSum_length]
theorem sumsF_ok {l : List Int} (hb : BOk l) : BOk (sumsF l) := by
  unfold sumsF
  repeat' split
  all_goals first | exact (bdSum_ok hb).hdSum | exact hb.hdSum
/-! ### what is read of a packet whose checksums are set -/
theorem decOk_congr {l m : List Int} (h8 : gt l 8 = gt m 8) (h9 : gt l 9 = gt m 9) (h12 : g32 l 12 = g32 m 12) (h16 : g32 l 16 = g32 m 16) (h20 : g16 l 20 = g16 m 20) (h20' : gt l 20 = gt m 20) (h22 : gt m 9 = 1 ∨ g16 l 22 = g16 m 22) (h24 : g16 l 24 = g16 m 24) (h32 : gt m 9 = 6 → gt l 32 = gt m 32) (h33 : gt m 9 = 6 → gt l 33 = gt m 33) (hd : l.drop (fromF m) = m.drop (fromF m)) : decOk l = decOk m := by
  have hf : fromF l = fromF m := by
    unfold fromF; rw [h9]
    by_cases h : gt m 9 = 6
    · rw [h32 h]
    · simp [h]
  have hfl : flF l = flF m := by
    unfold flF; rw [h9]
    by_cases h : gt m 9 = 6
    · rw [h33 h]
    · simp [h]
  have hsp : spF l = spF m := by unfold spF; rw [h9, h20, h20', h24]
  have hdp : dpF l = dpF m := by
    unfold dpF; rw [h9, h20', h24]
    rcases h22 with h | h
    · simp [h]
    · rw [h]
  unfold decOk
  rw [h8, h9, h12, h16, hf, hfl, hsp, hdp, hd]
theorem drop_p16 {l : List Int} {k n : Nat} {x : Int} (h : k + 1 < n) : (p16 l k x).drop n = l.drop n := by
  unfold p16
  rw [List.drop_set_of_lt h, List.drop_set_of_lt (by omega)]
theorem fromF_20 (l : List Int) : 20 ≤ fromF l := by
  unfold fromF
  repeat' split
  all_goals omega
theorem decOk_hd (l : List Int) : decOk (hdSum l) = decOk l := by
  have := fromF_20 l
  refine decOk_congr (gt_hd (by omega)) (gt_hd (by omega)) (g32_hd (by omega)) (g32_hd (by omega)) (g16_hd (by omega)) (gt_hd (by omega)) (.inr (g16_hd (by omega))) (g16_hd (by omega)) (fun _ => gt_hd (by omega)) (fun _ => gt_hd (by omega)) ?_
  unfold hdSum
  rw [drop_p16 (by omega), drop_p16 (by omega)]
theorem decOk_bs {l : List Int} {k : Nat} {u : Bool} (hk : k = 26 ∨ k = 36 ∨ (k = 22 ∧ gt l 9 = 1)) (hf : k + 1 < fromF l) : decOk (bdSum l k u) = decOk l := by
  refine decOk_congr (gt_bs (by omega)) (gt_bs (by omega)) (g32_bs (by omega)) (g32_bs (by omega)) (g16_bs (by omega)) (gt_bs (by omega)) ?_ (g16_bs (by omega)) (fun _ => gt_bs (by omega)) (fun _ => gt_bs (by omega)) ?_
  · rcases hk with h | h | h
    · exact .inr (g16_bs (by omega))
    · exact .inr (g16_bs (by omega))
    · exact .inl h.2
  · unfold bdSum
    rw [drop_p16 hf, drop_p16 hf]
theorem decOk_sums {l : List Int} {n : Int} (hB : bodyR l n = true) : decOk (sumsF l) = decOk l := by
  obtain ⟨b6, b17, b1⟩ := bodyR_len hB
  unfold sumsF
  rcases proto_cases (gt l 9) with hp | hp | hp | ⟨q1, q2, q3⟩
  · have := b6 hp
    have hf : fromF l = 20 + 4 * (gt l 32 / 16).toNat := by unfold fromF; rw [hp]; rfl
    rw [hp, if_pos b66, decOk_hd, decOk_bs (by omega) (by omega)]
  · have hf : fromF l = 28 := by unfold fromF; rw [hp]; rfl
    rw [hp, if_neg (by decide), if_pos b1717, decOk_hd, decOk_bs (by omega) (by omega)]
  · have hf : fromF l = 28 := by unfold fromF; rw [hp]; rfl
    rw [hp, if_neg (by decide), if_neg (by decide), if_pos b11, decOk_hd, decOk_bs (by omega) (by omega)]
  · rw [q1, q2, q3]
    exact decOk_hd l
end Go.Proofs.YtjfiipbjphabeaaDoor

/- Packets in plain data: Decode returns what Encode has encoded. -/
namespace Go.Proofs.YtjfiipbjphabeaaDoor
open Go.RowKit
set_option maxRecDepth 100000

/-! ### flags -/
theorem flags_of {f : Int} (h0 : -9223372036854775808 ≤ f) (h1 : f ≤ 9223372036854775807) (h : bits BinOp.andNot IntKind.i64 f 23 = 0) : 0 ≤ f ∧ f ≤ 23 ∧ bits BinOp.and IntKind.i64 f 23 = f := by
  have e : bits BinOp.andNot IntKind.i64 f 23 = IntKind.i64.wrap ((BitVec.ofInt 64 f &&& ~~~ (BitVec.ofInt 64 23)).toNat : Int) := rfl
  have e2 : bits BinOp.and IntKind.i64 f 23 = IntKind.i64.wrap ((BitVec.ofInt 64 f &&& BitVec.ofInt 64 23).toNat : Int) := rfl
  rw [e] at h
  have hx : (BitVec.ofInt 64 f).toNat = (f % 18446744073709551616).toNat := by rw [BitVec.toNat_ofInt]; rfl
  generalize BitVec.ofInt 64 f = x at *
  have hz : (x &&& ~~~ (BitVec.ofInt 64 23)).toNat = 0 := by
    have hb := (x &&& ~~~ (BitVec.ofInt 64 23)).isLt
    rw [IntKind.wrap_i64] at h
    omega
  have hz' : x &&& ~~~ (BitVec.ofInt 64 23) = 0 := BitVec.eq_of_toNat_eq (by rw [hz]; rfl)
  have hxe : x &&& BitVec.ofInt 64 23 = x := by
    apply BitVec.eq_of_getLsbD_eq
    intro i hi
    have := congrArg (fun y => y.getLsbD i) hz'
    simp only [BitVec.getLsbD_and, BitVec.getLsbD_not, hi, decide_true, Bool.true_and] at this ⊢
    cases hxi : x.getLsbD i <;> cases hyi : (BitVec.ofInt 64 23).getLsbD i <;> simp_all
  have hle : x.toNat ≤ 23 := by
    rw [← hxe, BitVec.toNat_and]
    exact Nat.and_le_right
  have hf : f = x.toNat := by omega
  refine ⟨by omega, by omega, ?_⟩
  rw [e2, hxe, IntKind.wrap_i64]
  omega
/-- what an encodable packet is -/
theorem encOk_of {h : Hd} {t f : Int} (f0 : -9223372036854775808 ≤ f) (f1 : f ≤ 9223372036854775807) (ho : encOkF h t f = true) : 0 ≤ t ∧ t ≤ 255 ∧ 0 ≤ f ∧ f ≤ 23 ∧ bits BinOp.and IntKind.i64 f 23 = f ∧ (h.proto ≠ 6 → f = 0) ∧ (h.proto = 1 → (h.sport = 8 ∧ h.dport ≠ 8) ∨ (h.sport ≠ 8 ∧ h.dport = 8)) ∧ (h.proto ≠ 6 → h.proto ≠ 17 → h.proto ≠ 1 → h.sport = 0 ∧ h.dport = 0) := by
  unfold encOkF at ho
  by_cases a1 : t < 0
  · rw [decide_eq_true a1, if_pos rfl] at ho; cases ho
  rw [decide_eq_false a1, if_neg Bool.false_ne_true] at ho
  by_cases a2 : 255 < t
  · rw [decide_eq_true a2, if_pos rfl] at ho; cases ho
  rw [decide_eq_false a2, if_neg Bool.false_ne_true] at ho
  by_cases a3 : bits BinOp.andNot IntKind.i64 f 23 = 0
  · rw [if_neg (by simp [a3])] at ho
    obtain ⟨b1, b2, b3⟩ := flags_of f0 f1 a3
    have hd : hdOkF h.proto h.sport h.dport = true ∧ (h.proto ≠ 6 → f = 0) := by
      by_cases a4 : f = 0
      · rw [if_neg (by simp [a4])] at ho; exact ⟨ho, fun _ => a4⟩
      · rw [if_pos (by simpa using a4)] at ho
        by_cases a5 : h.proto = 6
        · rw [if_neg (by simp [a5])] at ho; exact ⟨ho, fun e => absurd a5 e⟩
        · rw [if_pos (by simpa using a5)] at ho; cases ho
    obtain ⟨hd, hf⟩ := hd
    refine ⟨by omega, by omega, b1, b2, b3, hf, fun hp => ?_, fun h6 h17 h1 => ?_⟩
    · unfold hdOkF at hd
      rw [hp, if_neg (by decide), if_neg (by decide), if_pos b11] at hd
      cases c1 : h.sport == 8 <;> cases c2 : h.dport == 8 <;> simp_all
    · unfold hdOkF at hd
      by_cases c1 : h.sport = 0 <;> by_cases c2 : h.dport = 0 <;> simp_all
  · rw [if_pos (by simpa using a3)] at ho; cases ho
/-! ### the bytes -/
structure PkOk (p : Pk) : Prop where
  h : p.h.ok
  f0 : -9223372036854775808 ≤ p.f
  f1 : p.f ≤ 9223372036854775807
  pl : BOk p.pl
  t0 : -9223372036854775808 ≤ p.t
  t1 : p.t ≤ 9223372036854775807
theorem encLen_le (p : Int) : 20 ≤ encLen p ∧ encLen p ≤ 40 := by
  unfold encLen
  rcases proto_cases p with h | h | h | ⟨q1, q2, q3⟩
  · rw [h]; decide
  · rw [h]; decide
  · rw [h]; decide
  · rw [q1, q2, q3]; decide
theorem drop_p32 {l : List Int} {k n : Nat} {x : Int} (h : k + 3 < n) : (p32 l k x).drop n = l.drop n := by
  unfold p32
  rw [drop_p16 (by omega), drop_p16 (by omega)]
theorem encHd_length (p : Pk) : (encHd p).length = encLen p.h.proto + p.pl.length := by simp [encHd, p16_length]
theorem gt_encHd (p : Pk) {j : Nat} (hj : j < encLen p.h.proto) : gt (encHd p) j = if 3 = j then ((encLen p.h.proto : Int) + p.pl.length) % 256 else if 2 = j then ((encLen p.h.proto : Int) + p.pl.length) / 256 else if 9 = j then p.h.proto else if 8 = j then p.t else if 0 = j then 69 else 0 := by
  unfold encHd
  rw [gt_p16, gt_set, gt_set, gt_set, gt_app_l (by simpa using hj), gt_rep]
  have : j < encLen p.h.proto + p.pl.length := by omega
  simp [this]
theorem kindF_length (l : List Int) (p : Pk) : (kindF l p).length = l.length := by
  unfold kindF
  repeat' split
  all_goals simp [p16_length]
theorem drop_encHd (p : Pk) {n : Nat} (h : encLen p.h.proto = n) : (encHd p).drop n = p.pl := by
  have := encLen_le p.h.proto
  unfold encHd
  rw [drop_p16 (by omega), List.drop_set_of_lt (by omega), List.drop_set_of_lt (by omega), List.drop_set_of_lt (by omega), h, List.drop_left' (by simp)]
theorem BOk.encHd {p : Pk} (k : PkOk p) (t0 : 0 ≤ p.t) (t1 : p.t ≤ 255) (hn : encLen p.h.proto + p.pl.length ≤ 65535) : BOk (encHd p) := by
  unfold Go.Proofs.YtjfiipbjphabeaaDoor.encHd
  have h0 : BOk (List.replicate (encLen p.h.proto) 0 ++ p.pl) := BOk.append (fun x hx => by rw [(List.mem_replicate.1 hx).2]; omega) k.pl
  have := k.h.2.2.1
  exact (((h0.set 0 (by omega) (by omega)).set 8 t0 t1).set 9 this.1 this.2).p16 2 (by omega) (by omega)
theorem BOk.kindF {l : List Int} {p : Pk} (hb : BOk l) (f0 : 0 ≤ p.f) (f1 : p.f ≤ 23) (h20 : 20 ≤ l.length) (hn : l.length ≤ 65535) : BOk (kindF l p) := by
  unfold Go.Proofs.YtjfiipbjphabeaaDoor.kindF
  repeat' split
  · exact (hb.set 32 (by omega) (by omega)).set 33 (by omega) (by omega)
  · exact hb.p16 24 (by omega) (by omega)
  · exact hb.set 20 (by omega) (by omega)
  · exact hb
  · exact hb
theorem BOk.portsF {l : List Int} {h : Hd} (hb : BOk l) (k : h.ok) : BOk (portsF l h) := by
  obtain ⟨-, -, -, ⟨d0, d1⟩, e0, e1⟩ := k
  unfold Go.Proofs.YtjfiipbjphabeaaDoor.portsF
  repeat' split
  · exact (hb.p16 20 d0 d1).p16 22 e0 e1
  · exact (hb.p16 20 d0 d1).p16 22 e0 e1
  · exact hb.p16 24 d0 d1
  · exact hb.p16 24 e0 e1
  · exact hb
theorem BOk.hdrF {l : List Int} {h : Hd} (hb : BOk l) (k : h.ok) : BOk (hdrF l h) := ((hb.p32 12 k.1.1 k.1.2).p32 16 k.2.1.1 k.2.1.2).portsF k
theorem gt_portsF {l : List Int} {h : Hd} {j : Nat} (hj : j < 20 ∨ 25 < j) : gt (portsF l h) j = gt l j := by
  unfold portsF
  repeat' split
  all_goals (first | rfl | (repeat rw [gt_p16_ne (by omega) (by omega)]))
theorem gt_hdrF {l : List Int} {h : Hd} {j : Nat} (hj : j < 12 ∨ 25 < j) : gt (hdrF l h) j = gt l j := by
  unfold hdrF
  rw [gt_portsF (by omega), gt_p32_ne (by omega), gt_p32_ne (by omega)]
/-- the packet ahead of its checksums -/
def encM (p : Pk) : List Int := hdrF (kindF (encHd p) p) p.h
theorem encB_eq (p : Pk) : encB p = sumsF (encM p) := rfl
theorem encM_length (p : Pk) : (encM p).length = encLen p.h.proto + p.pl.length := by unfold encM; rw [hdrF_length, kindF_length, encHd_length]
theorem encM_ok {p : Pk} (k : PkOk p) (ho : encOkF p.h p.t p.f = true) (hn : encLen p.h.proto + p.pl.length ≤ 65535) : BOk (encM p) := by
  obtain ⟨t0, t1, f0, f1, -⟩ := encOk_of k.f0 k.f1 ho
  have := encLen_le p.h.proto
  exact ((BOk.encHd k t0 t1 hn).kindF f0 f1 (by rw [encHd_length]; omega) (by rw [encHd_length]; exact hn)).hdrF k.h
/-- what is read of it -/
theorem encM_good {p : Pk} (k : PkOk p) (ho : encOkF p.h p.t p.f = true) (hn : encLen p.h.proto + p.pl.length ≤ 576) :
    gt (encM p) 0 = 69 ∧ g16 (encM p) 2 = (encM p).length ∧ g16 (encM p) 6 = 0 ∧ bodyR (encM p) (((encM p).length : Int) - 20) = true ∧ decOk (encM p) = p := by
  obtain ⟨t0, t1, f0, f1, ff, fo, ic, ot⟩ := encOk_of k.f0 k.f1 ho
  obtain ⟨⟨s0, s1⟩, ⟨d0, d1⟩, ⟨p0, p1⟩, ⟨sp0, sp1⟩, dp0, dp1⟩ := k.h
  have hlen := encM_length p
  have hdrop : ∀ (n : Nat), encLen p.h.proto = n → (encM p).drop n = p.pl → (encM p).drop n = p.pl := fun _ _ h => h
  rcases proto_cases p.h.proto with hp | hp | hp | ⟨q1, q2, q3⟩
  · have hl : encLen p.h.proto = 40 := by rw [hp]; rfl
    have hM : encM p = p16 (p16 (p32 (p32 (((encHd p).set 32 80).set 33 p.f) 12 p.h.src) 16 p.h.dst) 20 p.h.sport) 22 p.h.dport := by unfold encM hdrF portsF kindF; rw [hp]; rfl
    have hL : (encHd p).length = 40 + p.pl.length := by rw [encHd_length, hl]
    have hg := fun (j : Nat) (hj : j < 40) => gt_encHd p (j := j) (by rw [hl]; exact hj)
    have hN : (encM p).length = 40 + p.pl.length := by rw [encM_length, hl]
    have hp32 : ∀ (l : List Int) (k : Nat) (x : Int), p32 l k x = p16 (p16 l k (x / 65536)) (k + 2) (x % 65536) := fun _ _ _ => rfl
    have hG : ∀ j, j < 12 → gt (encM p) j = gt (encHd p) j := fun j hj => by
      rw [hM]
      rw [gt_p16_ne (by omega) (by omega), gt_p16_ne (by omega) (by omega), gt_p32_ne (by omega), gt_p32_ne (by omega), gt_set_ne (by omega), gt_set_ne (by omega)]
    have e0 : gt (encM p) 0 = 69 := by rw [hG 0 (by omega), hg 0 (by omega)]; rfl
    have e8 : gt (encM p) 8 = p.t := by rw [hG 8 (by omega), hg 8 (by omega)]; rfl
    have e9 : gt (encM p) 9 = p.h.proto := by rw [hG 9 (by omega), hg 9 (by omega)]; rfl
    have e2 : g16 (encM p) 2 = (encM p).length := by unfold g16; rw [hG 2 (by omega), hG 3 (by omega), hg 2 (by omega), hg 3 (by omega), hN, hl]; simp; omega
    have e6 : g16 (encM p) 6 = 0 := by unfold g16; rw [hG 6 (by omega), hG 7 (by omega), hg 6 (by omega), hg 7 (by omega)]; rfl
    have a12 : g32 (encM p) 12 = p.h.src := by rw [hM, g32_p16_ne (by omega), g32_p16_ne (by omega), g32_p32_ne (by omega), g32_p32 (by simp; omega)]
    have a16 : g32 (encM p) 16 = p.h.dst := by rw [hM, g32_p16_ne (by omega), g32_p16_ne (by omega), g32_p32 (by simp [p32_length]; omega)]
    have a20 : g16 (encM p) 20 = p.h.sport := by rw [hM, g16_p16_ne (by omega), g16_p16 (by simp [p32_length]; omega)]
    have a22 : g16 (encM p) 22 = p.h.dport := by rw [hM, g16_p16 (by simp [p32_length, p16_length]; omega)]
    have a32 : gt (encM p) 32 = 80 := by rw [hM, gt_p16_ne (by omega) (by omega), gt_p16_ne (by omega) (by omega), gt_p32_ne (by omega), gt_p32_ne (by omega), gt_set_ne (by omega), gt_set, if_pos ⟨rfl, by omega⟩]
    have a33 : gt (encM p) 33 = p.f := by rw [hM, gt_p16_ne (by omega) (by omega), gt_p16_ne (by omega) (by omega), gt_p32_ne (by omega), gt_p32_ne (by omega), gt_set, if_pos ⟨rfl, by simp; omega⟩]
    have ad : (encM p).drop 40 = p.pl := by rw [hM, drop_p16 (by omega), drop_p16 (by omega), drop_p32 (by omega), drop_p32 (by omega), List.drop_set_of_lt (by omega), List.drop_set_of_lt (by omega), drop_encHd p hl]
    have e9' := e9.trans hp
    refine ⟨e0, e2, e6, ?_, ?_⟩
    · rw [bodyR_6 e9', a32, decide_eq_true (by omega), if_pos rfl, if_pos (by decide), decide_eq_true (by omega)]
    · unfold decOk spF dpF flF fromF
      rw [e9', if_pos b66, if_pos b66, if_pos b66, if_pos b66, a12, a16, a20, a22, e8, a32, a33, ff, show 20 + 4 * ((80 : Int) / 16).toNat = 40 from rfl, ad, ← hp]
  · have hl : encLen p.h.proto = 28 := by rw [hp]; rfl
    have hM : encM p = p16 (p16 (p32 (p32 (p16 (encHd p) 24 (((encHd p).length : Int) - 20)) 12 p.h.src) 16 p.h.dst) 20 p.h.sport) 22 p.h.dport := by unfold encM hdrF portsF kindF; rw [hp]; rfl
    have hL : (encHd p).length = 28 + p.pl.length := by rw [encHd_length, hl]
    have hg := fun (j : Nat) (hj : j < 28) => gt_encHd p (j := j) (by rw [hl]; exact hj)
    have hN : (encM p).length = 28 + p.pl.length := by rw [encM_length, hl]
    have hp32 : ∀ (l : List Int) (k : Nat) (x : Int), p32 l k x = p16 (p16 l k (x / 65536)) (k + 2) (x % 65536) := fun _ _ _ => rfl
    have hG : ∀ j, j < 12 → gt (encM p) j = gt (encHd p) j := fun j hj => by
      rw [hM]
      rw [gt_p16_ne (by omega) (by omega), gt_p16_ne (by omega) (by omega), gt_p32_ne (by omega), gt_p32_ne (by omega), gt_p16_ne (by omega) (by omega)]
    have e0 : gt (encM p) 0 = 69 := by rw [hG 0 (by omega), hg 0 (by omega)]; rfl
    have e8 : gt (encM p) 8 = p.t := by rw [hG 8 (by omega), hg 8 (by omega)]; rfl
    have e9 : gt (encM p) 9 = p.h.proto := by rw [hG 9 (by omega), hg 9 (by omega)]; rfl
    have e2 : g16 (encM p) 2 = (encM p).length := by unfold g16; rw [hG 2 (by omega), hG 3 (by omega), hg 2 (by omega), hg 3 (by omega), hN, hl]; simp; omega
    have e6 : g16 (encM p) 6 = 0 := by unfold g16; rw [hG 6 (by omega), hG 7 (by omega), hg 6 (by omega), hg 7 (by omega)]; rfl
    have a12 : g32 (encM p) 12 = p.h.src := by rw [hM, g32_p16_ne (by omega), g32_p16_ne (by omega), g32_p32_ne (by omega), g32_p32 (by simp [p16_length]; omega)]
    have a16 : g32 (encM p) 16 = p.h.dst := by rw [hM, g32_p16_ne (by omega), g32_p16_ne (by omega), g32_p32 (by simp [p32_length, p16_length]; omega)]
    have a20 : g16 (encM p) 20 = p.h.sport := by rw [hM, g16_p16_ne (by omega), g16_p16 (by simp [p32_length, p16_length]; omega)]
    have a22 : g16 (encM p) 22 = p.h.dport := by rw [hM, g16_p16 (by simp [p32_length, p16_length]; omega)]
    have a24 : g16 (encM p) 24 = ((encM p).length : Int) - 20 := by rw [hN, hM, g16_p16_ne (by omega), g16_p16_ne (by omega), g16_p32_ne (by omega), g16_p32_ne (by omega), g16_p16 (by omega), hL]
    have ad : (encM p).drop 28 = p.pl := by rw [hM, drop_p16 (by omega), drop_p16 (by omega), drop_p32 (by omega), drop_p32 (by omega), drop_p16 (by omega), drop_encHd p hl]
    have e9' := e9.trans hp
    have f00 := fo (by omega)
    refine ⟨e0, e2, e6, ?_, ?_⟩
    · rw [bodyR_17 e9', a24, decide_eq_true (by omega), if_pos rfl]; simp
    · unfold decOk spF dpF flF fromF
      rw [e9', if_neg (by decide), if_pos b1717, if_neg (by decide), if_pos b1717, if_neg (by decide), if_neg (by decide), if_pos b1717, a12, a16, a20, a22, e8, ad, ← hp, ← f00]
  · have hl : encLen p.h.proto = 28 := by rw [hp]; rfl
    have f00 := fo (by omega)
    rcases ic hp with ⟨i1, i2⟩ | ⟨i1, i2⟩
    · have hk : kindF (encHd p) p = encHd p := by
        unfold kindF
        rw [hp, if_neg (by decide), if_neg (by decide), if_pos b11, if_neg (by simpa using i2)]
      have h20 : gt (encHd p) 20 = 0 := by rw [gt_encHd p (by omega)]; rfl
      have hM : encM p = p16 (p32 (p32 (encHd p) 12 p.h.src) 16 p.h.dst) 24 p.h.dport := by
        unfold encM hdrF portsF
        rw [hp, if_neg (by decide), if_neg (by decide), if_pos b11, hk, gt_p32_ne (by omega), gt_p32_ne (by omega), h20]; rfl
      have hL : (encHd p).length = 28 + p.pl.length := by rw [encHd_length, hl]
      have hg := fun (j : Nat) (hj : j < 28) => gt_encHd p (j := j) (by rw [hl]; exact hj)
      have hN : (encM p).length = 28 + p.pl.length := by rw [encM_length, hl]
      have hp32 : ∀ (l : List Int) (k : Nat) (x : Int), p32 l k x = p16 (p16 l k (x / 65536)) (k + 2) (x % 65536) := fun _ _ _ => rfl
      have hG : ∀ j, j < 12 → gt (encM p) j = gt (encHd p) j := fun j hj => by
        rw [hM]
        rw [gt_p16_ne (by omega) (by omega), gt_p32_ne (by omega), gt_p32_ne (by omega)]
      have e0 : gt (encM p) 0 = 69 := by rw [hG 0 (by omega), hg 0 (by omega)]; rfl
      have e8 : gt (encM p) 8 = p.t := by rw [hG 8 (by omega), hg 8 (by omega)]; rfl
      have e9 : gt (encM p) 9 = p.h.proto := by rw [hG 9 (by omega), hg 9 (by omega)]; rfl
      have e2 : g16 (encM p) 2 = (encM p).length := by unfold g16; rw [hG 2 (by omega), hG 3 (by omega), hg 2 (by omega), hg 3 (by omega), hN, hl]; simp; omega
      have e6 : g16 (encM p) 6 = 0 := by unfold g16; rw [hG 6 (by omega), hG 7 (by omega), hg 6 (by omega), hg 7 (by omega)]; rfl
      have a12 : g32 (encM p) 12 = p.h.src := by rw [hM, g32_p16_ne (by omega), g32_p32_ne (by omega), g32_p32 (by omega)]
      have a16 : g32 (encM p) 16 = p.h.dst := by rw [hM, g32_p16_ne (by omega), g32_p32 (by simp [p32_length]; omega)]
      have a24 : g16 (encM p) 24 = p.h.dport := by rw [hM, g16_p16 (by simp [p32_length]; omega)]
      have a20 : gt (encM p) 20 = 0 := by rw [hM, gt_p16_ne (by omega) (by omega), gt_p32_ne (by omega), gt_p32_ne (by omega), h20]
      have a21 : gt (encM p) 21 = 0 := by rw [hM, gt_p16_ne (by omega) (by omega), gt_p32_ne (by omega), gt_p32_ne (by omega), gt_encHd p (by omega)]; rfl
      have ad : (encM p).drop 28 = p.pl := by rw [hM, drop_p16 (by omega), drop_p32 (by omega), drop_p32 (by omega), drop_encHd p hl]
      have e9' := e9.trans hp
      refine ⟨e0, e2, e6, ?_, ?_⟩
      · rw [bodyR_1 e9', a20, a21, a24, decide_eq_true (by omega), if_pos rfl]; simpa using i2
      · unfold decOk spF dpF flF fromF
        simp only [e9', a20, a12, a16, a24, e8]
        obtain ⟨⟨a, b, c, d, e⟩, t, f, pl⟩ := p
        simp_all
    · have hk : kindF (encHd p) p = (encHd p).set 20 8 := by
        unfold kindF
        rw [hp, if_neg (by decide), if_neg (by decide), if_pos b11, if_pos (by simpa using i2)]
      have hL0 : (encHd p).length = 28 + p.pl.length := by rw [encHd_length, hl]
      have h20 : gt ((encHd p).set 20 8) 20 = 8 := by rw [gt_set, if_pos ⟨rfl, by omega⟩]
      have hM : encM p = p16 (p32 (p32 ((encHd p).set 20 8) 12 p.h.src) 16 p.h.dst) 24 p.h.sport := by
        unfold encM hdrF portsF
        rw [hp, if_neg (by decide), if_neg (by decide), if_pos b11, hk, gt_p32_ne (by omega), gt_p32_ne (by omega), h20]; rfl
      have hL : (encHd p).length = 28 + p.pl.length := by rw [encHd_length, hl]
      have hg := fun (j : Nat) (hj : j < 28) => gt_encHd p (j := j) (by rw [hl]; exact hj)
      have hN : (encM p).length = 28 + p.pl.length := by rw [encM_length, hl]
      have hp32 : ∀ (l : List Int) (k : Nat) (x : Int), p32 l k x = p16 (p16 l k (x / 65536)) (k + 2) (x % 65536) := fun _ _ _ => rfl
      have hG : ∀ j, j < 12 → gt (encM p) j = gt (encHd p) j := fun j hj => by
        rw [hM]
        rw [gt_p16_ne (by omega) (by omega), gt_p32_ne (by omega), gt_p32_ne (by omega), gt_set_ne (by omega)]
      have e0 : gt (encM p) 0 = 69 := by rw [hG 0 (by omega), hg 0 (by omega)]; rfl
      have e8 : gt (encM p) 8 = p.t := by rw [hG 8 (by omega), hg 8 (by omega)]; rfl
      have e9 : gt (encM p) 9 = p.h.proto := by rw [hG 9 (by omega), hg 9 (by omega)]; rfl
      have e2 : g16 (encM p) 2 = (encM p).length := by unfold g16; rw [hG 2 (by omega), hG 3 (by omega), hg 2 (by omega), hg 3 (by omega), hN, hl]; simp; omega
      have e6 : g16 (encM p) 6 = 0 := by unfold g16; rw [hG 6 (by omega), hG 7 (by omega), hg 6 (by omega), hg 7 (by omega)]; rfl
      have a12 : g32 (encM p) 12 = p.h.src := by rw [hM, g32_p16_ne (by omega), g32_p32_ne (by omega), g32_p32 (by simp; omega)]
      have a16 : g32 (encM p) 16 = p.h.dst := by rw [hM, g32_p16_ne (by omega), g32_p32 (by simp [p32_length]; omega)]
      have a24 : g16 (encM p) 24 = p.h.sport := by rw [hM, g16_p16 (by simp [p32_length]; omega)]
      have a20 : gt (encM p) 20 = 8 := by rw [hM, gt_p16_ne (by omega) (by omega), gt_p32_ne (by omega), gt_p32_ne (by omega), h20]
      have a21 : gt (encM p) 21 = 0 := by rw [hM, gt_p16_ne (by omega) (by omega), gt_p32_ne (by omega), gt_p32_ne (by omega), gt_set_ne (by omega), gt_encHd p (by omega)]; rfl
      have ad : (encM p).drop 28 = p.pl := by rw [hM, drop_p16 (by omega), drop_p32 (by omega), drop_p32 (by omega), List.drop_set_of_lt (by omega), drop_encHd p hl]
      have e9' := e9.trans hp
      refine ⟨e0, e2, e6, ?_, ?_⟩
      · rw [bodyR_1 e9', a20, a21, a24, decide_eq_true (by omega), if_pos rfl]; simpa using i1
      · unfold decOk spF dpF flF fromF
        simp only [e9', a20, a12, a16, a24, e8]
        obtain ⟨⟨a, b, c, d, e⟩, t, f, pl⟩ := p
        simp_all
  · have hl : encLen p.h.proto = 20 := by unfold encLen; rw [q1, q2, q3]; rfl
    have q1' : p.h.proto ≠ 6 := by simpa using q1
    have q2' : p.h.proto ≠ 17 := by simpa using q2
    have q3' : p.h.proto ≠ 1 := by simpa using q3
    obtain ⟨o1, o2⟩ := ot q1' q2' q3'
    have f00 := fo q1'
    have hM : encM p = p32 (p32 (encHd p) 12 p.h.src) 16 p.h.dst := by unfold encM hdrF portsF kindF; rw [q1, q2, q3]; rfl
    have hL : (encHd p).length = 20 + p.pl.length := by rw [encHd_length, hl]
    have hg := fun (j : Nat) (hj : j < 20) => gt_encHd p (j := j) (by rw [hl]; exact hj)
    have hN : (encM p).length = 20 + p.pl.length := by rw [encM_length, hl]
    have hp32 : ∀ (l : List Int) (k : Nat) (x : Int), p32 l k x = p16 (p16 l k (x / 65536)) (k + 2) (x % 65536) := fun _ _ _ => rfl
    have hG : ∀ j, j < 12 → gt (encM p) j = gt (encHd p) j := fun j hj => by
      rw [hM]
      rw [gt_p32_ne (by omega), gt_p32_ne (by omega)]
    have e0 : gt (encM p) 0 = 69 := by rw [hG 0 (by omega), hg 0 (by omega)]; rfl
    have e8 : gt (encM p) 8 = p.t := by rw [hG 8 (by omega), hg 8 (by omega)]; rfl
    have e9 : gt (encM p) 9 = p.h.proto := by rw [hG 9 (by omega), hg 9 (by omega)]; rfl
    have e2 : g16 (encM p) 2 = (encM p).length := by unfold g16; rw [hG 2 (by omega), hG 3 (by omega), hg 2 (by omega), hg 3 (by omega), hN, hl]; simp; omega
    have e6 : g16 (encM p) 6 = 0 := by unfold g16; rw [hG 6 (by omega), hG 7 (by omega), hg 6 (by omega), hg 7 (by omega)]; rfl
    have a12 : g32 (encM p) 12 = p.h.src := by rw [hM, g32_p32_ne (by omega), g32_p32 (by omega)]
    have a16 : g32 (encM p) 16 = p.h.dst := by rw [hM, g32_p32 (by simp [p32_length]; omega)]
    have ad : (encM p).drop 20 = p.pl := by rw [hM, drop_p32 (by omega), drop_p32 (by omega), drop_encHd p hl]
    refine ⟨e0, e2, e6, ?_, ?_⟩
    · unfold bodyR; rw [e9, q1, q2, q3]; rfl
    · unfold decOk spF dpF flF fromF
      rw [e9, q1, q2, q3, a12, a16, e8]
      simp only [Bool.false_eq_true, if_false, ad]
      obtain ⟨⟨a, b, c, d, e⟩, t, f, pl⟩ := p
      simp_all
/-- Decode returns what Encode has encoded -/
theorem enc_valid {p : Pk} (k : PkOk p) (hE : encE p = 0) : errF (encB p) = 0 ∧ decOk (encB p) = p ∧ BOk (encB p) ∧ (encB p).length = encLen p.h.proto + p.pl.length ∧ encLen p.h.proto + p.pl.length ≤ 576 := by
  have hE' : encOkF p.h p.t p.f = true ∧ encLen p.h.proto + p.pl.length ≤ 576 := by
    unfold encE at hE
    cases ho : encOkF p.h p.t p.f
    · rw [ho] at hE; cases hE
    · rw [ho, if_pos rfl] at hE
      refine ⟨rfl, ?_⟩
      by_cases h : 576 < encLen p.h.proto + p.pl.length
      · rw [if_pos h] at hE; cases hE
      · omega
  obtain ⟨ho, hn⟩ := hE'
  obtain ⟨e0, e2, e6, eB, eD⟩ := encM_good k ho hn
  have hb := encM_ok k ho (by omega)
  have hl := encM_length p
  have := encLen_le p.h.proto
  refine ⟨?_, ?_, sumsF_ok hb, by rw [encB_eq, sumsF_length, hl], hn⟩
  · have h1 : 20 ≤ (encM p).length := by omega
    have h2 : (encM p).length ≤ 576 := by omega
    exact errF_sums hb h1 h2 e0 e2 (.inl e6) eB
  · rw [encB_eq, decOk_sums eB, eD]
end Go.Proofs.YtjfiipbjphabeaaDoor
