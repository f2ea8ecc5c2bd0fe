/- FilterPoints: the walk. -/
import Derived.Deep.CutRange
import Derived.Deep.DeepCutAuto
import Derived.Test.YtmcbbepfakfehaaDoorOG
import Derived.Test.YtmcbbepfakfehaaDoorOF
import Derived.Test.YtmcbbepfakfehaaDoorMB
namespace Go.Proofs.YtmcbbepfakfehaaDoor
open Go.RowKit
set_option maxRecDepth 100000
theorem slice_HdsP : SliceT Tryd.prog 44 36 5 16 := ⟨Tryd.underlying44, by omega, by
  obtain ⟨i, h1, h2, h3, h4⟩ := info_parts (show (Tryd.prog.info? 36).map (fun i => (i.zero, i.size, i.bytes)) = some (some (hv ⟨0, 0, 0, 0, 0⟩), 5, 16) by kernel_rfl)
  exact ⟨i, _, h1, h2, h3, h4, rfl⟩⟩
/-- three headers, one behind the other -/
def h3csP (h h1 h2 : Hd) : List Value := hcs h ++ (hcs h1 ++ (hcs h2 ++ []))
theorem h3_atP {h h1 h2 : Hd} (k : h.ok) (k1 : h1.ok) (k2 : h2.ok) {i : Nat} (hi : i < 3) : ∃ x : Hd, x.ok ∧ List.take (hcs x).length (List.drop (i * 5) (h3csP h h1 h2)) = hcs x := by
  obtain rfl | rfl | rfl : i = 0 ∨ i = 1 ∨ i = 2 := by omega
  · exact ⟨h, k, rfl⟩
  · exact ⟨h1, k1, rfl⟩
  · exact ⟨h2, k2, rfl⟩
theorem dec_range (x : List Rul) (h : Hd) : -1 ≤ decI x h ∧ decI x h < x.length ∧ (decP x h = true → 0 ≤ decI x h) := by
  have hP := decP_N (t := x) (h := h)
  unfold decI
  cases hd : decN x h with
  | none =>
    rw [hd] at hP
    exact ⟨by simp, by dsimp only; omega, fun h => by rw [hP] at h; cases h⟩
  | some i =>
    have := decN_lt hd
    exact ⟨by dsimp only; omega, by dsimp only; omega, fun _ => by dsimp only; omega⟩
theorem eff_point {x : List Rul} (kx : okT x) {j : Nat} (hj : j < x.length) {h : Hd} (ho : h.ok) : effF x j = none ∨ ∃ s, effF x j = some s ∧ IsSet s ∧ s.any (hasH h) = (decI x h == (j : Int)) := by
  cases he : effF x j with
  | none => exact .inl rfl
  | some s =>
    obtain ⟨h1, h2⟩ := effF_spec kx hj he
    refine .inr ⟨s, rfl, h1, ?_⟩
    rw [h2 h ho, Bool.eq_iff_iff, decide_eq_true_iff, beq_iff_eq]
    unfold decI
    cases decN x h with
    | none => simp <;> omega
    | some i => simp <;> omega
set_option maxHeartbeats 16000000 in
theorem fpoints_law (sl : Value) (zs : List Int) (h : Hd) (w : World) (ht : Tops w) (hZ : ZsOk sl zs) (hr : ∀ s ∈ roS sl (ints zs), w.rangeAt s.g s.o s.xs) (ho : h.ok) :
    Calls Tryd.prog 4 #[sl, hv h] w fun e w' => e = .returned (.bool true) ∧ Below w.heap.size w w' := by
  have hO := own_law hr
  clear hr
  obtain ⟨sa, sc, rfl, -⟩ := hZ.view
  go_enter Tryd.func4, Tryd.ntmps4
  go_upto_region 3 with (first | ((with_reducible refine is_load ?_); (first | (refine own_ldT (h := ?_)))) | ((with_reducible refine is_store ?_); (first | (refine own_stRT (hO := hO) (h := ?_); clear hO; intro wv hO) | (refine own_st1T (hO := hO) (h := ?_); clear hO; intro wv hO))) | ((with_reducible refine is_box ?_); (first | (refine own_bx (o := ⟨some 3, _, _, _, _, _⟩) (hO := hO) (h := ?_); clear hO; intro n3 wv hO))) | (go_at_call 9; (with_reducible refine (new_any _ _ _).mono ?_); rintro e wv ⟨n, rfl, hB, hn, hb⟩; replace hO := hO.gain hb hB hn; have hT := hO.tapeIn List.mem_cons_self (by (intro s hs; repeat (first | exact hs | exact List.mem_append_left _ hs | apply List.mem_append_right | apply List.mem_cons_of_mem))) (Nat.zero_le _); clear hb hB hn) | (go_at_call 10; (with_reducible refine (ttable_any 4 true hZ (hO.tapeIn (by (repeat (first | exact List.mem_cons_self | refine List.mem_cons_of_mem _ ?_))) (by (intro s hs; repeat (first | exact hs | exact List.mem_append_left _ hs | apply List.mem_append_right | apply List.mem_cons_of_mem))) hT.le) (by omega) (by omega)).mono ?_); rintro e wv ⟨vx, i1, rfl, ⟨x, hv9, hn9, kx, nx⟩, hk9, hT1⟩; have hoff9 := off_of_new hO hn9; replace hO := hO.after (by (repeat (first | exact Upd.here | apply Upd.there))) hk9 hT1.blk; replace hT := hT1; clear hT1 hk9; have hfx := hv9.form; obtain ⟨ax, cx, rfl, hax, hO⟩ := own_offRS hO ⟨hv9, hoff9⟩; clear hv9 hn9 hoff9))
  have hs8 := sane8_any
  have h1 := fun w ht hv => fPermitted_any (vt := .slice ax x.length cx) (t := x) w ht hv kx (by omega)
  cases hp : permF x with
  | none =>
    rw [hp] at h1
    clear hp
    go_wp2_with (first | ((with_reducible refine is_load ?_); (first | (refine own_ldT (h := ?_)))) | ((with_reducible refine is_store ?_); (first | (refine own_stRT (hO := hO) (h := ?_); clear hO; intro wv hO) | (refine own_st1T (hO := hO) (h := ?_); clear hO; intro wv hO))) | ((with_reducible refine is_box ?_); (first | (refine own_bx (o := ⟨some 3, _, _, _, _, _⟩) (hO := hO) (h := ?_); clear hO; intro n3 wv hO))) | (go_at_call 15; (with_reducible refine (h1 _ (hO.tops ht (by simp)) (hO.isR hfx (by intro q hq; repeat (first | exact hq | exact List.mem_append_left _ hq | apply List.mem_append_right | apply List.mem_cons_of_mem)))).mono ?_); rintro e wv hpo; obtain ⟨rfl, hb9⟩ := hpo.no; replace hO := hO.call hb9; clear hb9 hpo) | (go_at_call 14; refine (hs8 _ (hO.tops ht (by simp))).mono ?_; rintro e wv ⟨rfl, hb⟩; replace hO := hO.call hb; clear hb))
    go_ret
    exact ⟨rfl, hO.keep.below⟩
  | some s =>
    rw [hp] at h1
    obtain ⟨hs, hps⟩ := permF_spec kx hp
    clear hp
    go_upto_region 6 with (first | ((with_reducible refine is_load ?_); (first | (refine own_ldT (h := ?_)))) | ((with_reducible refine is_store ?_); (first | (refine own_stRT (hO := hO) (h := ?_); clear hO; intro wv hO) | (refine own_st1T (hO := hO) (h := ?_); clear hO; intro wv hO))) | ((with_reducible refine is_box ?_); (first | (refine own_bx (o := ⟨some 3, _, _, _, _, _⟩) (hO := hO) (h := ?_); clear hO; intro n3 wv hO))) | (go_at_call 15; (with_reducible refine (h1 _ (hO.tops ht (by simp)) (hO.isR hfx (by intro q hq; repeat (first | exact hq | exact List.mem_append_left _ hq | apply List.mem_append_right | apply List.mem_cons_of_mem)))).mono ?_); rintro e wv hpo; obtain ⟨v7, rfl, hv9, hn9, hb9⟩ := hpo.yes; have hfs := hv9.form; replace hO := hO.gainB hb9 hv9 hn9; replace hT := (hO.tapeIn (by (repeat (first | exact List.mem_cons_self | refine List.mem_cons_of_mem _ ?_))) (by (intro s hs; repeat (first | exact hs | exact List.mem_append_left _ hs | apply List.mem_append_right | apply List.mem_cons_of_mem))) hT.le); clear hb9 hv9 hn9 hpo))
    obtain ⟨a3, c3, rfl, -⟩ := hfs.view
    go_cut [9] (fun q9 wx => ∃ (n9 : Nat) (h1 h2 : Hd), q9 = .slice (some ⟨n9, 0, none⟩) 3 3 ∧ h1.ok ∧ h2.ok ∧ Own [] w [⟨n9, h3csP h h1 h2, 36⟩] [] (roS (.slice a3 s.length c3) (cellsB s) ++ roS (.slice ax x.length cx) (cellsR x)) wx)
    case first =>
      clear h1
      (try simp only [Act.put]); (try simp only [List.setIfInBounds_toArray, List.set_cons_zero, List.set_cons_succ])
      refine wp_region_any (by kernel_rfl) ?_
      replace hO := hO.drew
      have ix9 := Ix.mk [1, 2, 5, 6]
      iterate 4 (refine wpAny_tk ix9 ?_; replace ix9 := ix9.tail; (first | go_big_quiet_skip | (go_big_quiet_want; (go_big_quiet_op; (first | go_big_quiet_on | ((refine ⟨_, fun _ _ => rfl, ?_⟩); go_big_quiet_on))))); (refine wpQuiet_nil ?_); (try simp only [Act.put]); (try simp only [List.setIfInBounds_toArray, List.set_cons_zero, List.set_cons_succ]))
      clear ix9
      refine wpAny_all (rs := [0, 3]) (by kernel_rfl) (by simp) (ord_cons ?_ (ord_cons ?_ ord_nil))
      rotate_left 2
      all_goals
        refine wpOp_of_listL rfl ?_
        (first | ((with_reducible refine is_load ?_); (first | (refine own_ldT (h := ?_)))) | ((with_reducible refine is_store ?_); (first | (refine own_stRT (hO := hO) (h := ?_); clear hO; intro wv hO) | (refine own_st1T (hO := hO) (h := ?_); clear hO; intro wv hO))) | ((with_reducible refine is_build ?_); (refine' own_buildN (o := ⟨some 41, _, _, _, _, _⟩) [hv h, hv h1, hv h2] hO (by rfl) rfl slice_HdsP rfl rfl (by rfl) (by decide) (by decide) ?_); clear hO; intro n41 wv hO) | ((refine wpList_step (fun K hK => ?_)); go_simp; (first | ((refine hK _ _ ?_); clear hK K) | ((first | (go_at_call 17; (with_reducible refine (lboxes_any (t := x) _ (hO.isR hfx (by intro q hq; repeat (first | exact hq | exact List.mem_append_left _ hq | apply List.mem_append_right | apply List.mem_cons_of_mem))) (by omega)).mono ?_); rintro e wv ⟨vb, rfl, ⟨hv9, hn9⟩, hb9⟩; have hfb := hv9.form; have hnb : vb.ownBlock ≠ some n := fun e9 => absurd (hn9 _ e9) (Nat.not_le_of_lt hT.blk.lt); have kb : ∀ b ∈ x.map (·.1), b.ok := okT_boxes kx; have nb : (x.map (·.1)).length ≤ 4611686018427387904 := (by rw [List.length_map]; omega); replace hO := hO.gainB hb9 hv9 hn9; replace hT := (hO.tapeIn (by (repeat (first | exact List.mem_cons_self | refine List.mem_cons_of_mem _ ?_))) (by (intro s hs; repeat (first | exact hs | exact List.mem_append_left _ hs | apply List.mem_append_right | apply List.mem_cons_of_mem))) hT.le); clear hb9 hv9 hn9) | (go_at_call 16; (fail_if_success (have := kh1)); (with_reducible refine (near_any vb (x.map (·.1)) hZ (hO.tapeIn (by (repeat (first | exact List.mem_cons_self | refine List.mem_cons_of_mem _ ?_))) (by (intro s hs; repeat (first | exact hs | exact List.mem_append_left _ hs | apply List.mem_append_right | apply List.mem_cons_of_mem))) hT.le) (hO.isB hfb (by intro q hq; repeat (first | exact hq | exact List.mem_append_left _ hq | apply List.mem_append_right | apply List.mem_cons_of_mem))) hnb kb nb).mono ?_); rintro e wv ⟨v, i1, rfl, hv9, hk9, hT1⟩; replace hO := hO.after (by (repeat (first | exact Upd.here | apply Upd.there))) hk9 hT1.blk; replace hT := hT1; clear hT1 hk9; obtain ⟨h1, rfl, kh1⟩ := hv9) | (go_at_call 16; (with_reducible refine (near_any vb (x.map (·.1)) hZ (hO.tapeIn (by (repeat (first | exact List.mem_cons_self | refine List.mem_cons_of_mem _ ?_))) (by (intro s hs; repeat (first | exact hs | exact List.mem_append_left _ hs | apply List.mem_append_right | apply List.mem_cons_of_mem))) hT.le) (hO.isB hfb (by intro q hq; repeat (first | exact hq | exact List.mem_append_left _ hq | apply List.mem_append_right | apply List.mem_cons_of_mem))) hnb kb nb).mono ?_); rintro e wv ⟨v, i1, rfl, hv9, hk9, hT1⟩; replace hO := hO.after (by (repeat (first | exact Upd.here | apply Upd.there))) hk9 hT1.blk; replace hT := hT1; clear hT1 hk9; obtain ⟨h2, rfl, kh2⟩ := hv9)); (try simp only []); (refine hK _ _ ?_); clear hK K)))); (try simp only [Act.put]); (try simp only [List.setIfInBounds_toArray, List.set_cons_zero, List.set_cons_succ])
        refine wpList_done (qk_intro ?_)
      refine wpAny_all (rs := [3]) (by kernel_rfl) (by simp) (ord_cons ?_ ord_nil)
      rotate_left 1
      refine wpAny_all (rs := [0, 4]) (by kernel_rfl) (by simp) (ord_cons ?_ (ord_cons ?_ ord_nil))
      rotate_left 2
      all_goals
        refine wpOp_of_listL rfl ?_
        (first | ((with_reducible refine is_load ?_); (first | (refine own_ldT (h := ?_)))) | ((with_reducible refine is_store ?_); (first | (refine own_stRT (hO := hO) (h := ?_); clear hO; intro wv hO) | (refine own_st1T (hO := hO) (h := ?_); clear hO; intro wv hO))) | ((with_reducible refine is_build ?_); (refine' own_buildN (o := ⟨some 41, _, _, _, _, _⟩) [hv h, hv h1, hv h2] hO (by rfl) rfl slice_HdsP rfl rfl (by rfl) (by decide) (by decide) ?_); clear hO; intro n41 wv hO) | ((refine wpList_step (fun K hK => ?_)); go_simp; (first | ((refine hK _ _ ?_); clear hK K) | ((first | (go_at_call 17; (with_reducible refine (lboxes_any (t := x) _ (hO.isR hfx (by intro q hq; repeat (first | exact hq | exact List.mem_append_left _ hq | apply List.mem_append_right | apply List.mem_cons_of_mem))) (by omega)).mono ?_); rintro e wv ⟨vb, rfl, ⟨hv9, hn9⟩, hb9⟩; have hfb := hv9.form; have hnb : vb.ownBlock ≠ some n := fun e9 => absurd (hn9 _ e9) (Nat.not_le_of_lt hT.blk.lt); have kb : ∀ b ∈ x.map (·.1), b.ok := okT_boxes kx; have nb : (x.map (·.1)).length ≤ 4611686018427387904 := (by rw [List.length_map]; omega); replace hO := hO.gainB hb9 hv9 hn9; replace hT := (hO.tapeIn (by (repeat (first | exact List.mem_cons_self | refine List.mem_cons_of_mem _ ?_))) (by (intro s hs; repeat (first | exact hs | exact List.mem_append_left _ hs | apply List.mem_append_right | apply List.mem_cons_of_mem))) hT.le); clear hb9 hv9 hn9) | (go_at_call 16; (fail_if_success (have := kh1)); (with_reducible refine (near_any vb (x.map (·.1)) hZ (hO.tapeIn (by (repeat (first | exact List.mem_cons_self | refine List.mem_cons_of_mem _ ?_))) (by (intro s hs; repeat (first | exact hs | exact List.mem_append_left _ hs | apply List.mem_append_right | apply List.mem_cons_of_mem))) hT.le) (hO.isB hfb (by intro q hq; repeat (first | exact hq | exact List.mem_append_left _ hq | apply List.mem_append_right | apply List.mem_cons_of_mem))) hnb kb nb).mono ?_); rintro e wv ⟨v, i1, rfl, hv9, hk9, hT1⟩; replace hO := hO.after (by (repeat (first | exact Upd.here | apply Upd.there))) hk9 hT1.blk; replace hT := hT1; clear hT1 hk9; obtain ⟨h1, rfl, kh1⟩ := hv9) | (go_at_call 16; (with_reducible refine (near_any vb (x.map (·.1)) hZ (hO.tapeIn (by (repeat (first | exact List.mem_cons_self | refine List.mem_cons_of_mem _ ?_))) (by (intro s hs; repeat (first | exact hs | exact List.mem_append_left _ hs | apply List.mem_append_right | apply List.mem_cons_of_mem))) hT.le) (hO.isB hfb (by intro q hq; repeat (first | exact hq | exact List.mem_append_left _ hq | apply List.mem_append_right | apply List.mem_cons_of_mem))) hnb kb nb).mono ?_); rintro e wv ⟨v, i1, rfl, hv9, hk9, hT1⟩; replace hO := hO.after (by (repeat (first | exact Upd.here | apply Upd.there))) hk9 hT1.blk; replace hT := hT1; clear hT1 hk9; obtain ⟨h2, rfl, kh2⟩ := hv9)); (try simp only []); (refine hK _ _ ?_); clear hK K)))); (try simp only [Act.put]); (try simp only [List.setIfInBounds_toArray, List.set_cons_zero, List.set_cons_succ])
        refine wpList_done (qk_intro ?_)
      refine wpAny_all (rs := [4]) (by kernel_rfl) (by simp) (ord_cons ?_ ord_nil)
      rotate_left 1
      refine wpAny_all (rs := [4]) (by kernel_rfl) (by simp) (ord_cons ?_ ord_nil)
      rotate_left 1
      refine wpAny_all (rs := [0, 7]) (by kernel_rfl) (by simp) (ord_cons ?_ (ord_cons ?_ ord_nil))
      rotate_left 2
      all_goals
        refine wpOp_of_listL rfl ?_
        (first | ((with_reducible refine is_load ?_); (first | (refine own_ldT (h := ?_)))) | ((with_reducible refine is_store ?_); (first | (refine own_stRT (hO := hO) (h := ?_); clear hO; intro wv hO) | (refine own_st1T (hO := hO) (h := ?_); clear hO; intro wv hO))) | ((with_reducible refine is_build ?_); (refine' own_buildN (o := ⟨some 41, _, _, _, _, _⟩) [hv h, hv h1, hv h2] hO (by rfl) rfl slice_HdsP rfl rfl (by rfl) (by decide) (by decide) ?_); clear hO; intro n41 wv hO) | ((refine wpList_step (fun K hK => ?_)); go_simp; (first | ((refine hK _ _ ?_); clear hK K) | ((first | (go_at_call 17; (with_reducible refine (lboxes_any (t := x) _ (hO.isR hfx (by intro q hq; repeat (first | exact hq | exact List.mem_append_left _ hq | apply List.mem_append_right | apply List.mem_cons_of_mem))) (by omega)).mono ?_); rintro e wv ⟨vb, rfl, ⟨hv9, hn9⟩, hb9⟩; have hfb := hv9.form; have hnb : vb.ownBlock ≠ some n := fun e9 => absurd (hn9 _ e9) (Nat.not_le_of_lt hT.blk.lt); have kb : ∀ b ∈ x.map (·.1), b.ok := okT_boxes kx; have nb : (x.map (·.1)).length ≤ 4611686018427387904 := (by rw [List.length_map]; omega); replace hO := hO.gainB hb9 hv9 hn9; replace hT := (hO.tapeIn (by (repeat (first | exact List.mem_cons_self | refine List.mem_cons_of_mem _ ?_))) (by (intro s hs; repeat (first | exact hs | exact List.mem_append_left _ hs | apply List.mem_append_right | apply List.mem_cons_of_mem))) hT.le); clear hb9 hv9 hn9) | (go_at_call 16; (fail_if_success (have := kh1)); (with_reducible refine (near_any vb (x.map (·.1)) hZ (hO.tapeIn (by (repeat (first | exact List.mem_cons_self | refine List.mem_cons_of_mem _ ?_))) (by (intro s hs; repeat (first | exact hs | exact List.mem_append_left _ hs | apply List.mem_append_right | apply List.mem_cons_of_mem))) hT.le) (hO.isB hfb (by intro q hq; repeat (first | exact hq | exact List.mem_append_left _ hq | apply List.mem_append_right | apply List.mem_cons_of_mem))) hnb kb nb).mono ?_); rintro e wv ⟨v, i1, rfl, hv9, hk9, hT1⟩; replace hO := hO.after (by (repeat (first | exact Upd.here | apply Upd.there))) hk9 hT1.blk; replace hT := hT1; clear hT1 hk9; obtain ⟨h1, rfl, kh1⟩ := hv9) | (go_at_call 16; (with_reducible refine (near_any vb (x.map (·.1)) hZ (hO.tapeIn (by (repeat (first | exact List.mem_cons_self | refine List.mem_cons_of_mem _ ?_))) (by (intro s hs; repeat (first | exact hs | exact List.mem_append_left _ hs | apply List.mem_append_right | apply List.mem_cons_of_mem))) hT.le) (hO.isB hfb (by intro q hq; repeat (first | exact hq | exact List.mem_append_left _ hq | apply List.mem_append_right | apply List.mem_cons_of_mem))) hnb kb nb).mono ?_); rintro e wv ⟨v, i1, rfl, hv9, hk9, hT1⟩; replace hO := hO.after (by (repeat (first | exact Upd.here | apply Upd.there))) hk9 hT1.blk; replace hT := hT1; clear hT1 hk9; obtain ⟨h2, rfl, kh2⟩ := hv9)); (try simp only []); (refine hK _ _ ?_); clear hK K)))); (try simp only [Act.put]); (try simp only [List.setIfInBounds_toArray, List.set_cons_zero, List.set_cons_succ])
        refine wpList_done (qk_intro ?_)
      refine wpAny_all (rs := [7]) (by kernel_rfl) (by simp) (ord_cons ?_ ord_nil)
      rotate_left 1
      refine wpAny_all (rs := [7]) (by kernel_rfl) (by simp) (ord_cons ?_ ord_nil)
      rotate_left 1
      refine wpAny_all (rs := [7]) (by kernel_rfl) (by simp) (ord_cons ?_ ord_nil)
      rotate_left 1
      refine wpAny_all (rs := [0, 8]) (by kernel_rfl) (by simp) (ord_cons ?_ (ord_cons ?_ ord_nil))
      rotate_left 2
      all_goals
        refine wpOp_of_listL rfl ?_
        (first | ((with_reducible refine is_load ?_); (first | (refine own_ldT (h := ?_)))) | ((with_reducible refine is_store ?_); (first | (refine own_stRT (hO := hO) (h := ?_); clear hO; intro wv hO) | (refine own_st1T (hO := hO) (h := ?_); clear hO; intro wv hO))) | ((with_reducible refine is_build ?_); (refine' own_buildN (o := ⟨some 41, _, _, _, _, _⟩) [hv h, hv h1, hv h2] hO (by rfl) rfl slice_HdsP rfl rfl (by rfl) (by decide) (by decide) ?_); clear hO; intro n41 wv hO) | ((refine wpList_step (fun K hK => ?_)); go_simp; (first | ((refine hK _ _ ?_); clear hK K) | ((first | (go_at_call 17; (with_reducible refine (lboxes_any (t := x) _ (hO.isR hfx (by intro q hq; repeat (first | exact hq | exact List.mem_append_left _ hq | apply List.mem_append_right | apply List.mem_cons_of_mem))) (by omega)).mono ?_); rintro e wv ⟨vb, rfl, ⟨hv9, hn9⟩, hb9⟩; have hfb := hv9.form; have hnb : vb.ownBlock ≠ some n := fun e9 => absurd (hn9 _ e9) (Nat.not_le_of_lt hT.blk.lt); have kb : ∀ b ∈ x.map (·.1), b.ok := okT_boxes kx; have nb : (x.map (·.1)).length ≤ 4611686018427387904 := (by rw [List.length_map]; omega); replace hO := hO.gainB hb9 hv9 hn9; replace hT := (hO.tapeIn (by (repeat (first | exact List.mem_cons_self | refine List.mem_cons_of_mem _ ?_))) (by (intro s hs; repeat (first | exact hs | exact List.mem_append_left _ hs | apply List.mem_append_right | apply List.mem_cons_of_mem))) hT.le); clear hb9 hv9 hn9) | (go_at_call 16; (fail_if_success (have := kh1)); (with_reducible refine (near_any vb (x.map (·.1)) hZ (hO.tapeIn (by (repeat (first | exact List.mem_cons_self | refine List.mem_cons_of_mem _ ?_))) (by (intro s hs; repeat (first | exact hs | exact List.mem_append_left _ hs | apply List.mem_append_right | apply List.mem_cons_of_mem))) hT.le) (hO.isB hfb (by intro q hq; repeat (first | exact hq | exact List.mem_append_left _ hq | apply List.mem_append_right | apply List.mem_cons_of_mem))) hnb kb nb).mono ?_); rintro e wv ⟨v, i1, rfl, hv9, hk9, hT1⟩; replace hO := hO.after (by (repeat (first | exact Upd.here | apply Upd.there))) hk9 hT1.blk; replace hT := hT1; clear hT1 hk9; obtain ⟨h1, rfl, kh1⟩ := hv9) | (go_at_call 16; (with_reducible refine (near_any vb (x.map (·.1)) hZ (hO.tapeIn (by (repeat (first | exact List.mem_cons_self | refine List.mem_cons_of_mem _ ?_))) (by (intro s hs; repeat (first | exact hs | exact List.mem_append_left _ hs | apply List.mem_append_right | apply List.mem_cons_of_mem))) hT.le) (hO.isB hfb (by intro q hq; repeat (first | exact hq | exact List.mem_append_left _ hq | apply List.mem_append_right | apply List.mem_cons_of_mem))) hnb kb nb).mono ?_); rintro e wv ⟨v, i1, rfl, hv9, hk9, hT1⟩; replace hO := hO.after (by (repeat (first | exact Upd.here | apply Upd.there))) hk9 hT1.blk; replace hT := hT1; clear hT1 hk9; obtain ⟨h2, rfl, kh2⟩ := hv9)); (try simp only []); (refine hK _ _ ?_); clear hK K)))); (try simp only [Act.put]); (try simp only [List.setIfInBounds_toArray, List.set_cons_zero, List.set_cons_succ])
        refine wpList_done (qk_intro ?_)
      refine wpAny_all (rs := [8]) (by kernel_rfl) (by simp) (ord_cons ?_ ord_nil)
      rotate_left 1
      refine wpAny_all (rs := [8]) (by kernel_rfl) (by simp) (ord_cons ?_ ord_nil)
      rotate_left 1
      refine wpAny_all (rs := [8]) (by kernel_rfl) (by simp) (ord_cons ?_ ord_nil)
      rotate_left 1
      refine wpAny_all (rs := [8]) (by kernel_rfl) (by simp) (ord_cons ?_ ord_nil)
      rotate_left 1
      refine wpAny_all (rs := [0]) (by kernel_rfl) (by simp) (ord_cons ?_ ord_nil)
      rotate_left 1
      all_goals
        refine wpOp_of_listL rfl ?_
        (first | ((with_reducible refine is_load ?_); (first | (refine own_ldT (h := ?_)))) | ((with_reducible refine is_store ?_); (first | (refine own_stRT (hO := hO) (h := ?_); clear hO; intro wv hO) | (refine own_st1T (hO := hO) (h := ?_); clear hO; intro wv hO))) | ((with_reducible refine is_build ?_); (refine' own_buildN (o := ⟨some 41, _, _, _, _, _⟩) [hv h, hv h1, hv h2] hO (by rfl) rfl slice_HdsP rfl rfl (by rfl) (by decide) (by decide) ?_); clear hO; intro n41 wv hO) | ((refine wpList_step (fun K hK => ?_)); go_simp; (first | ((refine hK _ _ ?_); clear hK K) | ((first | (go_at_call 17; (with_reducible refine (lboxes_any (t := x) _ (hO.isR hfx (by intro q hq; repeat (first | exact hq | exact List.mem_append_left _ hq | apply List.mem_append_right | apply List.mem_cons_of_mem))) (by omega)).mono ?_); rintro e wv ⟨vb, rfl, ⟨hv9, hn9⟩, hb9⟩; have hfb := hv9.form; have hnb : vb.ownBlock ≠ some n := fun e9 => absurd (hn9 _ e9) (Nat.not_le_of_lt hT.blk.lt); have kb : ∀ b ∈ x.map (·.1), b.ok := okT_boxes kx; have nb : (x.map (·.1)).length ≤ 4611686018427387904 := (by rw [List.length_map]; omega); replace hO := hO.gainB hb9 hv9 hn9; replace hT := (hO.tapeIn (by (repeat (first | exact List.mem_cons_self | refine List.mem_cons_of_mem _ ?_))) (by (intro s hs; repeat (first | exact hs | exact List.mem_append_left _ hs | apply List.mem_append_right | apply List.mem_cons_of_mem))) hT.le); clear hb9 hv9 hn9) | (go_at_call 16; (fail_if_success (have := kh1)); (with_reducible refine (near_any vb (x.map (·.1)) hZ (hO.tapeIn (by (repeat (first | exact List.mem_cons_self | refine List.mem_cons_of_mem _ ?_))) (by (intro s hs; repeat (first | exact hs | exact List.mem_append_left _ hs | apply List.mem_append_right | apply List.mem_cons_of_mem))) hT.le) (hO.isB hfb (by intro q hq; repeat (first | exact hq | exact List.mem_append_left _ hq | apply List.mem_append_right | apply List.mem_cons_of_mem))) hnb kb nb).mono ?_); rintro e wv ⟨v, i1, rfl, hv9, hk9, hT1⟩; replace hO := hO.after (by (repeat (first | exact Upd.here | apply Upd.there))) hk9 hT1.blk; replace hT := hT1; clear hT1 hk9; obtain ⟨h1, rfl, kh1⟩ := hv9) | (go_at_call 16; (with_reducible refine (near_any vb (x.map (·.1)) hZ (hO.tapeIn (by (repeat (first | exact List.mem_cons_self | refine List.mem_cons_of_mem _ ?_))) (by (intro s hs; repeat (first | exact hs | exact List.mem_append_left _ hs | apply List.mem_append_right | apply List.mem_cons_of_mem))) hT.le) (hO.isB hfb (by intro q hq; repeat (first | exact hq | exact List.mem_append_left _ hq | apply List.mem_append_right | apply List.mem_cons_of_mem))) hnb kb nb).mono ?_); rintro e wv ⟨v, i1, rfl, hv9, hk9, hT1⟩; replace hO := hO.after (by (repeat (first | exact Upd.here | apply Upd.there))) hk9 hT1.blk; replace hT := hT1; clear hT1 hk9; obtain ⟨h2, rfl, kh2⟩ := hv9)); (try simp only []); (refine hK _ _ ?_); clear hK K)))); (try simp only [Act.put]); (try simp only [List.setIfInBounds_toArray, List.set_cons_zero, List.set_cons_succ])
        refine wpList_done (qk_intro ?_)
      refine wpAny_all (rs := [9]) (by kernel_rfl) (by simp) (ord_cons ?_ ord_nil)
      rotate_left 1
      refine wpAny_all (rs := [9]) (by kernel_rfl) (by simp) (ord_cons ?_ ord_nil)
      rotate_left 1
      refine wpAny_all (rs := [9]) (by kernel_rfl) (by simp) (ord_cons ?_ ord_nil)
      rotate_left 1
      refine wpAny_all (rs := [9]) (by kernel_rfl) (by simp) (ord_cons ?_ ord_nil)
      rotate_left 1
      refine wpAny_all (rs := [9]) (by kernel_rfl) (by simp) (ord_cons ?_ ord_nil)
      rotate_left 1
      all_goals
        refine wpOp_of_listL rfl ?_
        (first | ((with_reducible refine is_load ?_); (first | (refine own_ldT (h := ?_)))) | ((with_reducible refine is_store ?_); (first | (refine own_stRT (hO := hO) (h := ?_); clear hO; intro wv hO) | (refine own_st1T (hO := hO) (h := ?_); clear hO; intro wv hO))) | ((with_reducible refine is_build ?_); (refine' own_buildN (o := ⟨some 41, _, _, _, _, _⟩) [hv h, hv h1, hv h2] hO (by rfl) rfl slice_HdsP rfl rfl (by rfl) (by decide) (by decide) ?_); clear hO; intro n41 wv hO) | ((refine wpList_step (fun K hK => ?_)); go_simp; (first | ((refine hK _ _ ?_); clear hK K) | ((first | (go_at_call 17; (with_reducible refine (lboxes_any (t := x) _ (hO.isR hfx (by intro q hq; repeat (first | exact hq | exact List.mem_append_left _ hq | apply List.mem_append_right | apply List.mem_cons_of_mem))) (by omega)).mono ?_); rintro e wv ⟨vb, rfl, ⟨hv9, hn9⟩, hb9⟩; have hfb := hv9.form; have hnb : vb.ownBlock ≠ some n := fun e9 => absurd (hn9 _ e9) (Nat.not_le_of_lt hT.blk.lt); have kb : ∀ b ∈ x.map (·.1), b.ok := okT_boxes kx; have nb : (x.map (·.1)).length ≤ 4611686018427387904 := (by rw [List.length_map]; omega); replace hO := hO.gainB hb9 hv9 hn9; replace hT := (hO.tapeIn (by (repeat (first | exact List.mem_cons_self | refine List.mem_cons_of_mem _ ?_))) (by (intro s hs; repeat (first | exact hs | exact List.mem_append_left _ hs | apply List.mem_append_right | apply List.mem_cons_of_mem))) hT.le); clear hb9 hv9 hn9) | (go_at_call 16; (fail_if_success (have := kh1)); (with_reducible refine (near_any vb (x.map (·.1)) hZ (hO.tapeIn (by (repeat (first | exact List.mem_cons_self | refine List.mem_cons_of_mem _ ?_))) (by (intro s hs; repeat (first | exact hs | exact List.mem_append_left _ hs | apply List.mem_append_right | apply List.mem_cons_of_mem))) hT.le) (hO.isB hfb (by intro q hq; repeat (first | exact hq | exact List.mem_append_left _ hq | apply List.mem_append_right | apply List.mem_cons_of_mem))) hnb kb nb).mono ?_); rintro e wv ⟨v, i1, rfl, hv9, hk9, hT1⟩; replace hO := hO.after (by (repeat (first | exact Upd.here | apply Upd.there))) hk9 hT1.blk; replace hT := hT1; clear hT1 hk9; obtain ⟨h1, rfl, kh1⟩ := hv9) | (go_at_call 16; (with_reducible refine (near_any vb (x.map (·.1)) hZ (hO.tapeIn (by (repeat (first | exact List.mem_cons_self | refine List.mem_cons_of_mem _ ?_))) (by (intro s hs; repeat (first | exact hs | exact List.mem_append_left _ hs | apply List.mem_append_right | apply List.mem_cons_of_mem))) hT.le) (hO.isB hfb (by intro q hq; repeat (first | exact hq | exact List.mem_append_left _ hq | apply List.mem_append_right | apply List.mem_cons_of_mem))) hnb kb nb).mono ?_); rintro e wv ⟨v, i1, rfl, hv9, hk9, hT1⟩; replace hO := hO.after (by (repeat (first | exact Upd.here | apply Upd.there))) hk9 hT1.blk; replace hT := hT1; clear hT1 hk9; obtain ⟨h2, rfl, kh2⟩ := hv9)); (try simp only []); (refine hK _ _ ?_); clear hK K)))); (try simp only [Act.put]); (try simp only [List.setIfInBounds_toArray, List.set_cons_zero, List.set_cons_succ])
        refine wpList_done (qk_intro ?_)
      refine wpAny_all (rs := [10]) (by kernel_rfl) (by simp) (ord_cons ?_ ord_nil)
      rotate_left 1
      refine wpAny_all (rs := [10]) (by kernel_rfl) (by simp) (ord_cons ?_ ord_nil)
      rotate_left 1
      refine wpAny_all (rs := [10]) (by kernel_rfl) (by simp) (ord_cons ?_ ord_nil)
      rotate_left 1
      refine wpAny_all (rs := [10]) (by kernel_rfl) (by simp) (ord_cons ?_ ord_nil)
      rotate_left 1
      refine wpAny_all (rs := [10]) (by kernel_rfl) (by simp) (ord_cons ?_ ord_nil)
      rotate_left 1
      all_goals
        refine wpOp_of_listL rfl ?_
        (first | ((with_reducible refine is_load ?_); (first | (refine own_ldT (h := ?_)))) | ((with_reducible refine is_store ?_); (first | (refine own_stRT (hO := hO) (h := ?_); clear hO; intro wv hO) | (refine own_st1T (hO := hO) (h := ?_); clear hO; intro wv hO))) | ((with_reducible refine is_build ?_); (refine' own_buildN (o := ⟨some 41, _, _, _, _, _⟩) [hv h, hv h1, hv h2] hO (by rfl) rfl slice_HdsP rfl rfl (by rfl) (by decide) (by decide) ?_); clear hO; intro n41 wv hO) | ((refine wpList_step (fun K hK => ?_)); go_simp; (first | ((refine hK _ _ ?_); clear hK K) | ((first | (go_at_call 17; (with_reducible refine (lboxes_any (t := x) _ (hO.isR hfx (by intro q hq; repeat (first | exact hq | exact List.mem_append_left _ hq | apply List.mem_append_right | apply List.mem_cons_of_mem))) (by omega)).mono ?_); rintro e wv ⟨vb, rfl, ⟨hv9, hn9⟩, hb9⟩; have hfb := hv9.form; have hnb : vb.ownBlock ≠ some n := fun e9 => absurd (hn9 _ e9) (Nat.not_le_of_lt hT.blk.lt); have kb : ∀ b ∈ x.map (·.1), b.ok := okT_boxes kx; have nb : (x.map (·.1)).length ≤ 4611686018427387904 := (by rw [List.length_map]; omega); replace hO := hO.gainB hb9 hv9 hn9; replace hT := (hO.tapeIn (by (repeat (first | exact List.mem_cons_self | refine List.mem_cons_of_mem _ ?_))) (by (intro s hs; repeat (first | exact hs | exact List.mem_append_left _ hs | apply List.mem_append_right | apply List.mem_cons_of_mem))) hT.le); clear hb9 hv9 hn9) | (go_at_call 16; (fail_if_success (have := kh1)); (with_reducible refine (near_any vb (x.map (·.1)) hZ (hO.tapeIn (by (repeat (first | exact List.mem_cons_self | refine List.mem_cons_of_mem _ ?_))) (by (intro s hs; repeat (first | exact hs | exact List.mem_append_left _ hs | apply List.mem_append_right | apply List.mem_cons_of_mem))) hT.le) (hO.isB hfb (by intro q hq; repeat (first | exact hq | exact List.mem_append_left _ hq | apply List.mem_append_right | apply List.mem_cons_of_mem))) hnb kb nb).mono ?_); rintro e wv ⟨v, i1, rfl, hv9, hk9, hT1⟩; replace hO := hO.after (by (repeat (first | exact Upd.here | apply Upd.there))) hk9 hT1.blk; replace hT := hT1; clear hT1 hk9; obtain ⟨h1, rfl, kh1⟩ := hv9) | (go_at_call 16; (with_reducible refine (near_any vb (x.map (·.1)) hZ (hO.tapeIn (by (repeat (first | exact List.mem_cons_self | refine List.mem_cons_of_mem _ ?_))) (by (intro s hs; repeat (first | exact hs | exact List.mem_append_left _ hs | apply List.mem_append_right | apply List.mem_cons_of_mem))) hT.le) (hO.isB hfb (by intro q hq; repeat (first | exact hq | exact List.mem_append_left _ hq | apply List.mem_append_right | apply List.mem_cons_of_mem))) hnb kb nb).mono ?_); rintro e wv ⟨v, i1, rfl, hv9, hk9, hT1⟩; replace hO := hO.after (by (repeat (first | exact Upd.here | apply Upd.there))) hk9 hT1.blk; replace hT := hT1; clear hT1 hk9; obtain ⟨h2, rfl, kh2⟩ := hv9)); (try simp only []); (refine hK _ _ ?_); clear hK K)))); (try simp only [Act.put]); (try simp only [List.setIfInBounds_toArray, List.set_cons_zero, List.set_cons_succ])
        refine wpList_done (qk_intro ?_)
      refine wpAny_done (by kernel_rfl) ?_ _
      rotate_left
      refine wpAny_done (by kernel_rfl) ?_ _
      rotate_left
      refine wpAny_done (by kernel_rfl) ?_ _
      rotate_left
      refine wpAny_done (by kernel_rfl) ?_ _
      rotate_left
      refine wpAny_done (by kernel_rfl) ?_ _
      rotate_left
      all_goals
        go_wp2_with fail
        go_meet
        exact ⟨_, h1, h2, rfl, kh1, kh2, hO.sub (.cons_cons _ (.cons _ (.cons _ (.refl _)))) (.refl _) (fun q hq => List.mem_append_right _ (List.mem_append_right _ ((List.mem_append.1 hq).elim (fun h => List.mem_append_left _ h) (fun h => List.mem_append_right _ (List.mem_append_left _ h)))))⟩
    case rest =>
      clear hO hT h1
      obtain ⟨n9, h1, h2, rfl, kh1, kh2, hO⟩ := hcut
      have H3 := Lib.hid (fun (i : Nat) (hi : i < 3) => h3_atP ho kh1 kh2 hi)
      have HPS := Lib.hid hps
      have HR := Lib.hid (fun hd => dec_range x hd)
      have HE0 := Lib.hid (fun (j : Nat) (hj : j < x.length) (hd : Hd) (kd : hd.ok) => eff_point kx hj kd)
      have hsl : s.length ≤ 9223372036854775806 := Nat.le_trans hs.2.1 (by omega)
      clear hps kh1 kh2 hs
      go_wp2_with (first | ((with_reducible refine is_load ?_); (first | (refine own_ldT (h := ?_)))) | ((with_reducible refine is_store ?_); (first | (refine own_stRT (hO := hO) (h := ?_); clear hO; intro wv hO) | (refine own_st1T (hO := hO) (h := ?_); clear hO; intro wv hO))) | ((with_reducible refine is_box ?_); (first | (refine own_bx (o := ⟨some 3, _, _, _, _, _⟩) (hO := hO) (h := ?_); clear hO; intro n3 wv hO))))
      go_loopw [10] (fun q10 wr => ∃ i : Nat, i ≤ 3 ∧ q10 = .int .i64 i ∧ Own [] w [⟨n9, h3csP h h1 h2, 36⟩] [] (roS (.slice a3 s.length c3) (cellsB s) ++ roS (.slice ax x.length cx) (cellsR x)) wr) (fun q _ => 3 - (intOf q).toNat)
      case atStart => exact ⟨0, by omega, rfl, hO⟩
      case round =>
        clear hO
        obtain ⟨i, hi, rfl, hO⟩ := hrel
        by_cases hlt : i < 3
        · have g1 : decide ((i : Int) < 3) = true := decide_eq_true (by omega)
          obtain ⟨hd, kd, t1⟩ := H3.out i hlt
          have h4 := fun w ht hv => fDecide_any (vt := .slice ax x.length cx) (t := x) hd w ht kd hv (by omega)
          have h5 := fun w hv => rcontains4_any (vl := .slice a3 s.length c3) (l := s) hd w kd hv hsl
          rw [HPS.out hd kd] at h5
          have h6 := fun (j : Nat) (hj : j < x.length) w ht hv => fEff_any (vt := .slice ax x.length cx) (t := x) (i := j) w ht hv kx (by omega) hj
          have hE := fun (j : Nat) (hj : j < x.length) => HE0.out j hj hd kd
          obtain ⟨r1, r2, r3⟩ := HR.out hd
          generalize decP x hd = p at *
          generalize decI x hd = nI at *
          have HEf := Lib.hid hE
          have g2 : decide (nI < -1) = false := decide_eq_false (by omega)
          have g3 : decide ((x.length : Int) ≤ nI) = false := decide_eq_false (by omega)
          have r0 : 0 ≤ nI → decide (nI < 0) = false := fun h => decide_eq_false (by omega)
          clear hE r1 r2
          cases p
          all_goals
            have e1 : ((false : Bool) != false) = false := rfl
            (try (have g4 := r0 (r3 rfl)))
            clear r0 r3
            go_wp2_with (first | ((with_reducible refine is_load ?_); (first | (refine own_ldT (h := ?_)))) | ((with_reducible refine is_store ?_); (first | (refine own_stRT (hO := hO) (h := ?_); clear hO; intro wv hO) | (refine own_st1T (hO := hO) (h := ?_); clear hO; intro wv hO))) | ((with_reducible refine is_box ?_); (first | (refine own_bx (o := ⟨some 3, _, _, _, _, _⟩) (hO := hO) (h := ?_); clear hO; intro n3 wv hO))) | (go_at_call 18; (with_reducible refine (h4 _ (hO.tops ht (by simp)) (hO.isR hfx (by intro q hq; repeat (first | exact hq | exact List.mem_append_left _ hq | apply List.mem_append_right | apply List.mem_cons_of_mem)))).mono ?_); rintro e wv ⟨rfl, hb9⟩; replace hO := hO.call hb9; clear hb9 h4) | (go_at_call 19; (with_reducible refine (h5 _ (hO.isB hfs (by intro q hq; repeat (first | exact hq | exact List.mem_append_left _ hq | apply List.mem_append_right | apply List.mem_cons_of_mem)))).mono ?_); rintro e wv ⟨rfl, hb9⟩; replace hO := hO.call hb9; clear hb9 h5))
            go_loopw [13] (fun q13 wq => ∃ j : Nat, j ≤ x.length ∧ q13 = .int .i64 j ∧ Own [] w [⟨n9, h3csP h h1 h2, 36⟩] [] (roS (.slice a3 s.length c3) (cellsB s) ++ roS (.slice ax x.length cx) (cellsR x)) wq) (fun q _ => x.length - (intOf q).toNat)
            case atStart => exact ⟨0, by omega, rfl, hO⟩
            case round =>
              clear hO
              obtain ⟨j, hj, rfl, hO⟩ := hrel
              by_cases hjt : j < x.length
              · have h8 := h6 j hjt
                rcases HEf.out j hjt with he | ⟨s2, he, hs2, ha2⟩
                · rw [he] at h8
                  clear he
                  go_wp2_with (first | ((with_reducible refine is_load ?_); (first | (refine own_ldT (h := ?_)))) | ((with_reducible refine is_store ?_); (first | (refine own_stRT (hO := hO) (h := ?_); clear hO; intro wv hO) | (refine own_st1T (hO := hO) (h := ?_); clear hO; intro wv hO))) | ((with_reducible refine is_box ?_); (first | (refine own_bx (o := ⟨some 3, _, _, _, _, _⟩) (hO := hO) (h := ?_); clear hO; intro n3 wv hO))) | (go_at_call 20; (with_reducible refine (h8 _ (hO.tops ht (by simp)) (hO.isR hfx (by intro q hq; repeat (first | exact hq | exact List.mem_append_left _ hq | apply List.mem_append_right | apply List.mem_cons_of_mem)))).mono ?_); rintro e wv hpo; obtain ⟨rfl, hb9⟩ := hpo.no; replace hO := hO.call hb9; clear hb9 hpo))
                  go_roundw
                  case rel => exact ⟨j + 1, by omega, by go_num, hO⟩
                  case measure => simp [intOf] <;> omega
                · rw [he] at h8
                  have h9 := fun v w hv => rcontains4_any (vl := v) (l := s2) hd w kd hv (Nat.le_trans hs2.2.1 (by omega))
                  rw [ha2] at h9
                  clear he ha2 hs2
                  have e2 : ((nI == (j : Int)) != (nI == (j : Int))) = false := bne_self_eq_false _
                  go_wp2_with (first | ((with_reducible refine is_load ?_); (first | (refine own_ldT (h := ?_)))) | ((with_reducible refine is_store ?_); (first | (refine own_stRT (hO := hO) (h := ?_); clear hO; intro wv hO) | (refine own_st1T (hO := hO) (h := ?_); clear hO; intro wv hO))) | ((with_reducible refine is_box ?_); (first | (refine own_bx (o := ⟨some 3, _, _, _, _, _⟩) (hO := hO) (h := ?_); clear hO; intro n3 wv hO))) | (go_at_call 20; (with_reducible refine (h8 _ (hO.tops ht (by simp)) (hO.isR hfx (by intro q hq; repeat (first | exact hq | exact List.mem_append_left _ hq | apply List.mem_append_right | apply List.mem_cons_of_mem)))).mono ?_); rintro e wv hpo; obtain ⟨v14, rfl, hv9, hn9, hb9⟩ := hpo.yes; have hfp := hv9.form; replace hO := hO.gainB hb9 hv9 hn9; clear hb9 hv9 hn9 hpo) | (go_at_call 19; (with_reducible refine (h9 _ _ (hO.isB hfp (by intro q hq; repeat (first | exact hq | exact List.mem_append_left _ hq | apply List.mem_append_right | apply List.mem_cons_of_mem)))).mono ?_); rintro e wv ⟨rfl, hb9⟩; replace hO := hO.call hb9; clear hb9))
                  go_roundw
                  case rel => exact ⟨j + 1, by omega, by go_num, hO.sub (.refl _) (.refl _) (fun q hq => List.mem_append_right _ hq)⟩
                  case measure => simp [intOf] <;> omega
              · obtain rfl : j = x.length := by omega
                go_wp2_with (first | ((with_reducible refine is_load ?_); (first | (refine own_ldT (h := ?_)))) | ((with_reducible refine is_store ?_); (first | (refine own_stRT (hO := hO) (h := ?_); clear hO; intro wv hO) | (refine own_st1T (hO := hO) (h := ?_); clear hO; intro wv hO))) | ((with_reducible refine is_box ?_); (first | (refine own_bx (o := ⟨some 3, _, _, _, _, _⟩) (hO := hO) (h := ?_); clear hO; intro n3 wv hO))))
                go_roundw
                case rel => exact ⟨i + 1, by omega, by go_num, hO⟩
                case measure => simp [intOf] <;> omega
        · have g1 : decide ((i : Int) < 3) = false := decide_eq_false (by omega)
          go_wp2_with (first | ((with_reducible refine is_load ?_); (first | (refine own_ldT (h := ?_)))) | ((with_reducible refine is_store ?_); (first | (refine own_stRT (hO := hO) (h := ?_); clear hO; intro wv hO) | (refine own_st1T (hO := hO) (h := ?_); clear hO; intro wv hO))) | ((with_reducible refine is_box ?_); (first | (refine own_bx (o := ⟨some 3, _, _, _, _, _⟩) (hO := hO) (h := ?_); clear hO; intro n3 wv hO))) | (go_at_call 14; refine (hs8 _ (hO.tops ht (by simp))).mono ?_; rintro e wv ⟨rfl, hb⟩; replace hO := hO.call hb; clear hb))
          go_ret
          exact ⟨rfl, hO.keep.below⟩
end Go.Proofs.YtmcbbepfakfehaaDoor
