/- A packet that has passed a device: the plain law. -/
import Derived.Test.YtjfiipbjphabeaaDoorMK
import Derived.Test.YtjfiipbjphabeaaDoorMQ
namespace Go.Proofs.YtjfiipbjphabeaaDoor
open Go.RowKit
set_option maxRecDepth 100000

theorem covS_set8 {l : List Int} {x : Int} (h : 20 ≤ l.length) : covS (l.set 8 x) = covS l := by
  unfold covS
  rw [List.length_set, gt_set_ne (by omega), ws_set (by omega), ws_set (by omega), ws_set (by omega), if_pos (by omega : 8 < l.length), if_pos (by omega : 8 < 20), if_pos (by omega : 8 < 12)]
  split <;> omega
theorem rightF_set8 {l : List Int} {x : Int} (hb : BOk l) (x0 : 0 ≤ x) (x1 : x ≤ 255) (h : 20 ≤ l.length) (hl : l.length ≤ 65536) : rightF (l.set 8 x) = true ↔ rightF l = true := by
  rw [rightF_ok hb h hl, rightF_ok (hb.set 8 x0 x1) (by simpa using h) (by simpa using hl), covS_set8 h, gt_set_ne (by omega), g16_set_ne (by omega)]
theorem decOk_set8 {l : List Int} {x : Int} (h : 20 ≤ l.length) : decOk (l.set 8 x) = ⟨(decOk l).h, x, (decOk l).f, (decOk l).pl⟩ := by
  have e : ∀ j, 8 ≠ j → gt (l.set 8 x) j = gt l j := fun j h => gt_set_ne h
  have e16 : ∀ j, 8 < j → g16 (l.set 8 x) j = g16 l j := fun j h => g16_set_ne (.inl h)
  have e32 : ∀ j, 8 < j → g32 (l.set 8 x) j = g32 l j := fun j h => g32_set_ne (.inl h)
  have e8 : gt (l.set 8 x) 8 = x := by rw [gt_set, if_pos ⟨rfl, by omega⟩]
  have eF : fromF (l.set 8 x) = fromF l := by unfold fromF; rw [e 9 (by decide), e 32 (by decide)]
  have eS : spF (l.set 8 x) = spF l := by unfold spF; rw [e 9 (by decide), e 20 (by decide), e16 20 (by decide), e16 24 (by decide)]
  have eD : dpF (l.set 8 x) = dpF l := by unfold dpF; rw [e 9 (by decide), e 20 (by decide), e16 22 (by decide), e16 24 (by decide)]
  have eL : flF (l.set 8 x) = flF l := by unfold flF; rw [e 9 (by decide), e 33 (by decide)]
  have h20 := fromF_20 l
  unfold decOk
  rw [eF, eS, eD, eL, e8, e 9 (by decide), e32 12 (by decide), e32 16 (by decide), List.drop_set_of_lt (by omega)]
theorem hop_dec {l : List Int} (hb : BOk l) (hE : errF l = 0) (h2 : ¬ gt l 8 < 2) : errF (hopB l) = 0 ∧ decOk (hopB l) = ⟨(decOk l).h, (decOk l).t - 1, (decOk l).f, (decOk l).pl⟩ ∧ BOk (hopB l) ∧ (hopB l).length = l.length := by
  obtain ⟨h20, h576, h0, hl2, h6, hc, hB, hr⟩ := errF_ok.1 hE
  obtain ⟨x0, x1⟩ := gt_bd hb 8
  have hb2 : BOk (l.set 8 (gt l 8 - 1)) := hb.set 8 (by omega) (by omega)
  have hn : (l.set 8 (gt l 8 - 1)).length = l.length := by simp
  unfold hopB
  refine ⟨errF_hd hb2 (by omega) (by omega) (by rw [gt_set_ne (by omega)]; exact h0) (by rw [hn, g16_set_ne (by omega)]; exact hl2) (by rw [g16_set_ne (by omega)]; exact h6) ?_ ((rightF_set8 hb (by omega) (by omega) h20 (by omega)).2 hr), ?_, hb2.hdSum, (hdSum_length _).trans hn⟩
  · rw [hn, bodyR_congr _ (gt_set_ne (by omega)) (gt_set_ne (by omega)) (gt_set_ne (by omega)) (g16_set_ne (by omega)) (gt_set_ne (by omega))]
    exact hB
  · rw [decOk_hd, decOk_set8 h20]
    rfl
end Go.Proofs.YtjfiipbjphabeaaDoor

/- PacketHops: the walk. -/
namespace Go.Proofs.YtjfiipbjphabeaaDoor
open Go.RowKit
set_option maxRecDepth 100000

theorem hop_cases {l : List Int} (hb : BOk l) : (hopE l != 0) = true ∨ ((hopE l != 0) = false ∧ ∃ s d p sp dp t f pl, decF l = ⟨⟨s, d, p, sp, dp⟩, t, f, pl⟩ ∧ errF l = 0 ∧ decF (hopF l) = ⟨⟨s, d, p, sp, dp⟩, t - 1, f, pl⟩ ∧ errF (hopF l) = 0 ∧ BOk (hopF l) ∧ (hopF l).length ≤ 576 ∧ 2 ≤ t ∧ t ≤ 255) := by
  by_cases hE : errF l = 0
  · by_cases h2 : gt l 8 < 2
    · left; rw [(hopE_low hE h2).1]; rfl
    · right
      obtain ⟨e1, e2⟩ := hopE_ok hE h2
      obtain ⟨k1, k2, k3, k4⟩ := hop_dec hb hE h2
      obtain ⟨-, h576, -⟩ := errF_ok.1 hE
      obtain ⟨x0, x1⟩ := gt_bd hb 8
      rw [e1, e2]
      refine ⟨rfl, _, _, _, _, _, _, _, _, decF_ok hE, hE, (decF_ok k1).trans k2, k1, k3, by omega, by show 2 ≤ gt l 8; omega, x1⟩
  · left
    rw [(hopE_err hE).1]
    simpa using hE
theorem hbend_any {w : World} {n : Nat} {sl : Value} {zs : List Int} {i : Nat} {v : Value} {l : List Int} (hZ : ZsOk sl zs) (hT : TapeIn w n sl zs i) (hv : IsB w v l) (hn : v.ownBlock ≠ some n) (hb : BOk l) (h20 : 20 ≤ l.length) (hl : l.length ≤ 576) :
    Calls Tryd.prog 22 #[.pointer (some ⟨n, 0, none⟩), v] w (TPost w n sl zs fun v w' => ∃ l, IsB w' v l ∧ BOk l ∧ l.length ≤ 577 ∧ ((hopE l != 0) = true ∨ ((hopE l != 0) = false ∧ ∃ s d p sp dp t f pl, decF l = ⟨⟨s, d, p, sp, dp⟩, t, f, pl⟩ ∧ errF l = 0 ∧ decF (hopF l) = ⟨⟨s, d, p, sp, dp⟩, t - 1, f, pl⟩ ∧ errF (hopF l) = 0 ∧ BOk (hopF l) ∧ (hopF l).length ≤ 576 ∧ 2 ≤ t ∧ t ≤ 255))) :=
  (bend_any hZ hT hv hn hb h20 hl).mono fun _ _ h => h.mono fun _ _ ⟨l, h1, _, h3, h4⟩ => ⟨l, h1, h3, h4, hop_cases h3⟩
set_option maxHeartbeats 8000000 in
theorem hops_law (sl : Value) (zs : List Int) (v : Value) (l : List Int) (w : World) (ht : Tops w) (hZ : ZsOk sl zs) (hr : ∀ s ∈ roS sl (ints zs), w.rangeAt s.g s.o s.xs) (hv0 : IsB w v l) (hb : BOk l) (hl : l.length ≤ 9223372036854775807) :
    Calls Tryd.prog 11 #[sl, v] w fun e w' => e = .returned (.bool true) ∧ Below w.heap.size w w' := by
  have hO := own_law2 hr hv0
  obtain ⟨sa, sc, rfl, -⟩ := hZ.view
  obtain ⟨a, c, rfl, hc, -, h0, h1⟩ := IsCells.view hv0
  go_enter Tryd.func11, Tryd.ntmps11
  go_wp2_with (first | ((with_reducible refine is_load ?_); (first | (refine own_ldP hO (h := ?_)) | (refine own_ld (h := ?_)))) | ((with_reducible refine is_store ?_); (first | (refine own_stRp (hO := hO) (h := ?_); clear hO; intro wv hO) | (refine own_st1p (hO := hO) (h := ?_); clear hO; intro wv hO) | (refine own_stR (hO := hO) (h := ?_); clear hO; intro wv hO) | (refine own_st1 (hO := hO) (h := ?_); clear hO; intro wv hO))) | ((with_reducible refine is_alloc ?_); (first | (refine own_al (o := ⟨some 12, _, _, _, _, _⟩) (hO := hO) (h := ?_); clear hO; intro n12 wv hO) | (refine own_al (o := ⟨some 14, _, _, _, _, _⟩) (hO := hO) (h := ?_); clear hO; intro n14 wv hO))) | (go_at_call 20; (with_reducible refine (new_any _ _ _).mono ?_); rintro e wv ⟨n, rfl, hB, hn, hb⟩; replace hO := hO.gain hb hB hn; have hT := hO.tapeIn List.mem_cons_self (by (intro s hs; repeat (first | exact hs | exact List.mem_append_left _ hs | apply List.mem_append_right | apply List.mem_cons_of_mem))) (Nat.zero_le _); clear hb hB hn) | ((with_reducible refine is_load ?_); (refine own_ldW (hO := hO) (h := ?_))) | ((with_reducible refine is_store ?_); (refine own_stW (hO := hO) (h := ?_); clear hO; intro wv hO)))
  go_loopw [6] (fun q wr => ∃ (k i : Nat), k ≤ 4 ∧ q = .int .i64 k ∧ TapeIn wr n (.slice sa zs.length sc) zs i ∧ Own [] w [⟨n, tcs (.slice sa zs.length sc) i, 64⟩] [] (roS (.slice sa zs.length sc) (ints zs) ++ roC (.slice a l.length c) (bc l)) wr) (fun q _ => 4 - (intOf q).toNat)
  case atStart => exact ⟨0, 0, by omega, rfl, (hO.tapeIn (by (repeat (first | exact List.mem_cons_self | refine List.mem_cons_of_mem _ ?_))) (by (intro s hs; repeat (first | exact hs | exact List.mem_append_left _ hs | apply List.mem_append_right | apply List.mem_cons_of_mem))) hT.le), hO⟩
  case round =>
    clear hO hT
    obtain ⟨k, i, hk, rfl, hT, hO⟩ := hrel
    by_cases hlt : k < 4
    · have d1 : decide ((k : Int) < 4) = true := by simp; omega
      (repeat' (first | go_skip | ((first | ((with_reducible apply wp_move_bool); (focus rfl)) | ((with_reducible apply wp_move_boolG); (focus rfl); (focus rfl))); intro cb hcb; (cases cb <;> (first | (with_reducible exact no_tf hcb) | (with_reducible exact no_ft hcb) | skip)); all_goals ((try simp only [Act.put]); (try simp only [List.setIfInBounds_toArray, List.set_cons_zero, List.set_cons_succ]))) | (go_big_may; (first | ((with_reducible refine is_load ?_); (first | (refine own_ldP hO (h := ?_)) | (refine own_ld (h := ?_)))) | ((with_reducible refine is_store ?_); (first | (refine own_stRp (hO := hO) (h := ?_); clear hO; intro wv hO) | (refine own_st1p (hO := hO) (h := ?_); clear hO; intro wv hO) | (refine own_stR (hO := hO) (h := ?_); clear hO; intro wv hO) | (refine own_st1 (hO := hO) (h := ?_); clear hO; intro wv hO))) | ((with_reducible refine is_alloc ?_); (first | (refine own_al (o := ⟨some 12, _, _, _, _, _⟩) (hO := hO) (h := ?_); clear hO; intro n12 wv hO) | (refine own_al (o := ⟨some 14, _, _, _, _, _⟩) (hO := hO) (h := ?_); clear hO; intro n14 wv hO))) | (go_at_call 23; (with_reducible refine (pvalid2_any hZ (hO.tapeIn (by (repeat (first | exact List.mem_cons_self | refine List.mem_cons_of_mem _ ?_))) (by (intro s hs; repeat (first | exact hs | exact List.mem_append_left _ hs | apply List.mem_append_right | apply List.mem_cons_of_mem))) hT.le)).mono ?_); rintro e wv ⟨v, i1, rfl, hv, hk, hT1⟩; replace hO := hO.after (by (repeat (first | exact Upd.here | apply Upd.there))) hk hT1.blk; replace hT := hT1; clear hT1 hk; obtain ⟨l1, G1, O1, C1, rfl, hc1, hv1, hn1, ho1, hE1, hb1, g1, g2⟩ := hv) | (go_at_call 22; (with_reducible refine (hbend_any hZ (hO.tapeIn (by (repeat (first | exact List.mem_cons_self | refine List.mem_cons_of_mem _ ?_))) (by (intro s hs; repeat (first | exact hs | exact List.mem_append_left _ hs | apply List.mem_append_right | apply List.mem_cons_of_mem))) hT.le) hv1 ho1 hb1 g1 g2).mono ?_); rintro e wv ⟨v, i1, rfl, hv, hk, hT1⟩; replace hO := hO.after (by (repeat (first | exact Upd.here | apply Upd.there))) hk hT1.blk; replace hT := hT1; clear hT1 hk; obtain ⟨l2, hv2, hb2, g3, q1 | ⟨q1, s, d, p, sp, dp, t, f, pl, hK, hk2, hK3, hk3, hb3, g4, t0, t1⟩⟩ := hv) | (go_at_call 37; (with_reducible refine (hop_any (l := l2) _ ?_ hb2 (by omega)).mono ?_); (focus exact hv2); rintro e wv ⟨v3, rfl, hrow, hb9⟩; replace hO := hO.gainRow hb9 hrow; replace hv2 := hv2.below hb9; clear hb9 hrow) | (go_at_call 38; (with_reducible refine (rhop_any (l := l2) _ ?_ hb2 (by omega)).mono ?_); (focus exact hv2); rintro e wv ⟨v3, rfl, hrow, hb9⟩; replace hO := hO.gainRow hb9 hrow; replace hv2 := hv2.below hb9; clear hb9 hrow) | ((with_reducible refine is_conv ?_); (refine own_conv (by rfl) rfl rfl (hO.rowIs (by (repeat (first | exact List.mem_cons_self | refine List.mem_cons_of_mem _ ?_)))) ?_)) | (go_at_call 28; (with_reducible refine (Calls.mono (decode_any (l := l2) _ ?_ hb2 (by omega)) (fun e w' h => dec_at h hK hk2)).mono ?_); (focus exact hv2); rintro e wv ⟨v5, rfl, hv5, hn5, hb9⟩; replace hO := hO.gainRo hb9 hv5 hn5; replace hv2 := hv2.below hb9; clear hb9 hn5; obtain ⟨a5, c5, rfl, -⟩ := IsCells.view hv5) | (go_at_call 28; (with_reducible refine (Calls.mono (decode_any (l := hopF l2) _ ?_ hb3 (by omega)) (fun e w' h => dec_at h hK3 hk3)).mono ?_); (focus exact hO.rowIs (by (repeat (first | exact List.mem_cons_self | refine List.mem_cons_of_mem _ ?_)))); rintro e wv ⟨v6, rfl, hv6, hn6, hb9⟩; replace hO := hO.gainRo hb9 hv6 hn6; clear hb9 hn6; obtain ⟨a6, c6, rfl, -⟩ := IsCells.view hv6) | (go_at_call 29; refine (same_any s d p sp dp (t - 1) f pl _ _ _ (hO.isRo hv5 (by intro s hs; repeat (first | exact hs | exact List.mem_append_left _ hs | apply List.mem_append_right | apply List.mem_cons_of_mem))) (hO.isRo hv6 (by intro s hs; repeat (first | exact hs | exact List.mem_append_left _ hs | apply List.mem_append_right | apply List.mem_cons_of_mem)))).mono ?_; rintro e wv ⟨rfl, hb⟩; replace hO := hO.call hb; clear hb) | ((with_reducible refine is_load ?_); (refine own_ldW (hO := hO) (h := ?_))) | ((with_reducible refine is_store ?_); (refine own_stW (hO := hO) (h := ?_); clear hO; intro wv hO)))) | go_values | go_skip | go_guarded | go_step | go_upon | go_back | (simp only at *; go_simp) | (go_values <;> (try go_simp)) | (go_ite <;> go_prune <;> (try go_simp)) | (split <;> (first | (rename_i hx; exact (hx _ rfl).elim) | go_prune))))
      all_goals
        go_roundw
        case rel =>
          have hT2 := (hO.tapeIn (by (repeat (first | exact List.mem_cons_self | refine List.mem_cons_of_mem _ ?_))) (by (intro s hs; repeat (first | exact hs | exact List.mem_append_left _ hs | apply List.mem_append_right | apply List.mem_cons_of_mem))) hT.le)
          have hk2 : k + 1 ≤ 4 := hlt
          first
          | exact ⟨k + 1, _, hk2, by go_num, hT2, hO.sub (by repeat (first | exact List.Sublist.slnil | apply List.Sublist.cons_cons | apply List.Sublist.cons)) (by simp) (by intro s hs; repeat (first | exact hs | exact List.mem_append_left _ hs | apply List.mem_append_right | apply List.mem_cons_of_mem))⟩
          | exact ⟨k + 1, hk2, by omega, _, hT2, hO.sub (by repeat (first | exact List.Sublist.slnil | apply List.Sublist.cons_cons | apply List.Sublist.cons)) (by simp) (by intro s hs; repeat (first | exact hs | exact List.mem_append_left _ hs | apply List.mem_append_right | apply List.mem_cons_of_mem))⟩
        case measure => simp [intOf]; omega
    · have d1 : decide ((k : Int) < 4) = false := by simp; omega
      by_cases hbig : 1000 < l.length
      · have d2 : decide (1000 < (l.length : Int)) = true := by simp; omega
        go_wp2_with (first | ((with_reducible refine is_load ?_); (first | (refine own_ldP hO (h := ?_)) | (refine own_ld (h := ?_)))) | ((with_reducible refine is_store ?_); (first | (refine own_stRp (hO := hO) (h := ?_); clear hO; intro wv hO) | (refine own_st1p (hO := hO) (h := ?_); clear hO; intro wv hO) | (refine own_stR (hO := hO) (h := ?_); clear hO; intro wv hO) | (refine own_st1 (hO := hO) (h := ?_); clear hO; intro wv hO))) | ((with_reducible refine is_alloc ?_); (first | (refine own_al (o := ⟨some 12, _, _, _, _, _⟩) (hO := hO) (h := ?_); clear hO; intro n12 wv hO) | (refine own_al (o := ⟨some 14, _, _, _, _, _⟩) (hO := hO) (h := ?_); clear hO; intro n14 wv hO))) | (go_at_call 18; refine (psane_any _ (hO.tops ht (by simp))).mono ?_; rintro e wv ⟨rfl, hb⟩; replace hO := hO.call hb; clear hb) | ((with_reducible refine is_load ?_); (refine own_ldW (hO := hO) (h := ?_))) | ((with_reducible refine is_store ?_); (refine own_stW (hO := hO) (h := ?_); clear hO; intro wv hO)))
        go_ret
        exact ⟨rfl, hO.keep.below⟩
      · have d2 : decide (1000 < (l.length : Int)) = false := by simp; omega
        go_wp2_with (first | ((with_reducible refine is_load ?_); (first | (refine own_ldP hO (h := ?_)) | (refine own_ld (h := ?_)))) | ((with_reducible refine is_store ?_); (first | (refine own_stRp (hO := hO) (h := ?_); clear hO; intro wv hO) | (refine own_st1p (hO := hO) (h := ?_); clear hO; intro wv hO) | (refine own_stR (hO := hO) (h := ?_); clear hO; intro wv hO) | (refine own_st1 (hO := hO) (h := ?_); clear hO; intro wv hO))) | ((with_reducible refine is_alloc ?_); (first | (refine own_al (o := ⟨some 12, _, _, _, _, _⟩) (hO := hO) (h := ?_); clear hO; intro n12 wv hO) | (refine own_al (o := ⟨some 14, _, _, _, _, _⟩) (hO := hO) (h := ?_); clear hO; intro n14 wv hO))) | (go_at_call 37; (with_reducible refine (hop_any (l := l) _ ?_ hb (by omega)).mono ?_); (focus exact hv0.below hO.keep.below); rintro e wv ⟨v3, rfl, hrow, hb9⟩; replace hO := hO.gainRow hb9 hrow; clear hb9 hrow) | (go_at_call 38; (with_reducible refine (rhop_any (l := l) _ ?_ hb (by omega)).mono ?_); (focus exact hv0.below hO.keep.below); rintro e wv ⟨v3, rfl, hrow, hb9⟩; replace hO := hO.gainRow hb9 hrow; clear hb9 hrow) | ((with_reducible refine is_conv ?_); (refine own_conv (by rfl) rfl rfl (hO.rowIs (by (repeat (first | exact List.mem_cons_self | refine List.mem_cons_of_mem _ ?_)))) ?_)) | (go_at_call 18; refine (psane_any _ (hO.tops ht (by simp))).mono ?_; rintro e wv ⟨rfl, hb⟩; replace hO := hO.call hb; clear hb) | ((with_reducible refine is_load ?_); (refine own_ldW (hO := hO) (h := ?_))) | ((with_reducible refine is_store ?_); (refine own_stW (hO := hO) (h := ?_); clear hO; intro wv hO)))
        go_ret
        exact ⟨rfl, hO.keep.below⟩
end Go.Proofs.YtjfiipbjphabeaaDoor
