/- PacketsetMembers: the walk. -/
import Derived.Deep.CutRange
import Derived.Deep.DeepCutAuto
import Derived.Test.YtdfihajngmgigaaDoorMS
import Derived.Test.YtdfihajngmgigaaDoorMB
namespace Go.Proofs.YtdfihajngmgigaaDoor
open Go.RowKit
set_option maxRecDepth 100000
theorem slice_Hds : SliceT Tryd.prog 34 26 5 16 := ⟨Tryd.underlying34, by omega, by
  obtain ⟨i, h1, h2, h3, h4⟩ := info_parts (show (Tryd.prog.info? 26).map (fun i => (i.zero, i.size, i.bytes)) = some (some (hv ⟨0, 0, 0, 0, 0⟩), 5, 16) by kernel_rfl)
  exact ⟨i, _, h1, h2, h3, h4, rfl⟩⟩
/-- the error of a result -/
def ecd (r : Option (List Bx)) : Int := match r with
  | none => 3
  | some _ => 0
theorem SetPost.uni {w w' : World} {r : Option (List Bx)} {e : Ending} (h : SetPost w r e w') : ∃ v, e = .returned (.tuple #[v, .int .i64 (ecd r)]) ∧ IsBoxes w' v (r.getD []) ∧ NewFrom w v ∧ Below w.heap.size w w' := by
  obtain ⟨v, hb, ⟨l, rfl, h2, h3, h4⟩ | ⟨rfl, h2⟩⟩ := h
  · exact ⟨v, h2, h3, h4, hb⟩
  · exact ⟨_, h2, .inl ⟨rfl, rfl⟩, fun g hg => (by cases hg), hb⟩
/-- three headers, one behind the other -/
def h3cs (h h1 h2 : Hd) : List Value := hcs h ++ (hcs h1 ++ (hcs h2 ++ []))
theorem h3_at {h h1 h2 : Hd} (k : h.ok) (k1 : h1.ok) (k2 : h2.ok) {i : Nat} (hi : i < 3) : ∃ x : Hd, x.ok ∧ List.take (hcs x).length (List.drop (i * 5) (h3cs h h1 h2)) = hcs x := by
  obtain rfl | rfl | rfl : i = 0 ∨ i = 1 ∨ i = 2 := by omega
  · exact ⟨h, k, rfl⟩
  · exact ⟨h1, k1, rfl⟩
  · exact ⟨h2, k2, rfl⟩
theorem comp_has {l z : List Bx} {h : Hd} (kl : okL l) (ho : h.ok) (hz : ofF exB [fullBx] l = some z) : z.any (hasH h) = !l.any (hasH h) := by
  rw [(of_members okL_full kl ho hz).2.2, full_has ho]; rfl
set_option maxHeartbeats 32000000 in
theorem psmembers_law (sl : Value) (zs : List Int) (h : Hd) (w : World) (ht : Tops w) (hZ : ZsOk sl zs) (hr : ∀ s ∈ roS sl (ints zs), w.rangeAt s.g s.o s.xs) (ho : h.ok) :
    Calls Tryd.prog 4 #[sl, hv h] w fun e w' => e = .returned (.bool true) ∧ Below w.heap.size w w' := by
  have hO := own_law hr
  clear hr
  obtain ⟨sa, sc, rfl, -⟩ := hZ.view
  go_enter Tryd.func4, Tryd.ntmps4
  go_wp2_with (first | ((with_reducible refine is_load ?_); (first | (refine own_ld (h := ?_)))) | ((with_reducible refine is_store ?_); (first | (refine own_stR (hO := hO) (h := ?_); clear hO; intro wv hO) | (refine own_st1 (hO := hO) (h := ?_); clear hO; intro wv hO))) | ((with_reducible refine is_box ?_); (first | (refine own_bx (o := ⟨some 3, _, _, _, _, _⟩) (hO := hO) (h := ?_); clear hO; intro n3 wv hO))) | (go_at_call 10; (with_reducible refine (new_any _ _ _).mono ?_); rintro e wv ⟨n, rfl, hB, hn, hb⟩; replace hO := hO.gain hb hB hn; have hT := hO.tapeIn List.mem_cons_self (by (intro s hs; repeat (first | exact hs | exact List.mem_append_left _ hs | apply List.mem_append_right | apply List.mem_cons_of_mem))) (Nat.zero_le _); clear hb hB hn) | (go_at_call 20; (fail_if_success (have := la)); (with_reducible refine (tboxes_any 3 true hZ (hO.tapeIn (by (repeat (first | exact List.mem_cons_self | refine List.mem_cons_of_mem _ ?_))) (by (intro s hs; repeat (first | exact hs | exact List.mem_append_left _ hs | apply List.mem_append_right | apply List.mem_cons_of_mem))) hT.le) (by omega) (by omega)).mono ?_); rintro e wv ⟨va, i1, rfl, ⟨la, hv9, hn9, ka, na, -⟩, hk, hT1⟩; have hnna : va.ownBlock ≠ some n := fun e9 => absurd (hn9 _ e9) (Nat.not_le_of_lt hT.blk.lt); have hoff9 := off_of_new hO hn9; replace hO := hO.after (by (repeat (first | exact Upd.here | apply Upd.there))) hk hT1.blk; replace hT := hT1; clear hT1 hk; have hfa := hv9.form; obtain ⟨aa, ca, rfl, hla, hO⟩ := own_offS hO ⟨hv9, hoff9⟩; clear hv9 hn9 hoff9) | (go_at_call 20; (with_reducible refine (tboxes_any 3 true hZ (hO.tapeIn (by (repeat (first | exact List.mem_cons_self | refine List.mem_cons_of_mem _ ?_))) (by (intro s hs; repeat (first | exact hs | exact List.mem_append_left _ hs | apply List.mem_append_right | apply List.mem_cons_of_mem))) hT.le) (by omega) (by omega)).mono ?_); rintro e wv ⟨vb, i1, rfl, ⟨lb, hv9, hn9, kb, nb, -⟩, hk, hT1⟩; have hnnb : vb.ownBlock ≠ some n := fun e9 => absurd (hn9 _ e9) (Nat.not_le_of_lt hT.blk.lt); have hoff9 := off_of_new hO hn9; replace hO := hO.after (by (repeat (first | exact Upd.here | apply Upd.there))) hk hT1.blk; replace hT := hT1; clear hT1 hk; have hfb := hv9.form; obtain ⟨ab, cb, rfl, hlb, hO⟩ := own_offS hO ⟨hv9, hoff9⟩; clear hv9 hn9 hoff9))
  have na' : la.length ≤ 1000000000000 := by omega
  have nb' : lb.length ≤ 1000000000000 := by omega
  go_upto_region 3 with (first | ((with_reducible refine is_load ?_); (first | (refine own_ld (h := ?_)))) | ((with_reducible refine is_store ?_); (first | (refine own_stR (hO := hO) (h := ?_); clear hO; intro wv hO) | (refine own_st1 (hO := hO) (h := ?_); clear hO; intro wv hO))) | ((with_reducible refine is_box ?_); (first | (refine own_bx (o := ⟨some 3, _, _, _, _, _⟩) (hO := hO) (h := ?_); clear hO; intro n3 wv hO))))
  go_cut [8] (fun q8 wx => ∃ (n8 : Nat) (h1 h2 : Hd), q8 = .slice (some ⟨n8, 0, none⟩) 3 3 ∧ h1.ok ∧ h2.ok ∧ Own [] w [⟨n8, h3cs h h1 h2, 26⟩] [] (roS (.slice ab lb.length cb) (cellsB lb) ++ roS (.slice aa la.length ca) (cellsB la)) wx)
  case first =>
    (try simp only [Act.put]); (try simp only [List.setIfInBounds_toArray, List.set_cons_zero, List.set_cons_succ])
    refine wp_region_any (by kernel_rfl) ?_
    replace hO := hO.drew
    refine wpAny_takePL 1 rfl (by kernel_rfl) (by kernel_rfl) (by kernel_rfl) (by intro c d v a w h; cases d <;> exact h) (by rfl) ?_
    (first | go_big_quiet_skip | (go_big_quiet_want; (go_big_quiet_op; (first | go_big_quiet_on | ((refine ⟨_, fun _ _ => rfl, ?_⟩); go_big_quiet_on))))); (refine wpQuiet_nil ?_); (try simp only [Act.put]); (try simp only [List.setIfInBounds_toArray, List.set_cons_zero, List.set_cons_succ])
    refine wpAny_takePL 2 rfl (by kernel_rfl) (by kernel_rfl) (by kernel_rfl) (by intro c d v a w h; cases d <;> exact h) (by rfl) ?_
    (first | go_big_quiet_skip | (go_big_quiet_want; (go_big_quiet_op; (first | go_big_quiet_on | ((refine ⟨_, fun _ _ => rfl, ?_⟩); go_big_quiet_on))))); (refine wpQuiet_nil ?_); (try simp only [Act.put]); (try simp only [List.setIfInBounds_toArray, List.set_cons_zero, List.set_cons_succ])
    refine wpAny_takePL 4 rfl (by kernel_rfl) (by kernel_rfl) (by kernel_rfl) (by intro c d v a w h; cases d <;> exact h) (by rfl) ?_
    (first | go_big_quiet_skip | (go_big_quiet_want; (go_big_quiet_op; (first | go_big_quiet_on | ((refine ⟨_, fun _ _ => rfl, ?_⟩); go_big_quiet_on))))); (refine wpQuiet_nil ?_); (try simp only [Act.put]); (try simp only [List.setIfInBounds_toArray, List.set_cons_zero, List.set_cons_succ])
    refine wpAny_takePL 5 rfl (by kernel_rfl) (by kernel_rfl) (by kernel_rfl) (by intro c d v a w h; cases d <;> exact h) (by rfl) ?_
    (first | go_big_quiet_skip | (go_big_quiet_want; (go_big_quiet_op; (first | go_big_quiet_on | ((refine ⟨_, fun _ _ => rfl, ?_⟩); go_big_quiet_on))))); (refine wpQuiet_nil ?_); (try simp only [Act.put]); (try simp only [List.setIfInBounds_toArray, List.set_cons_zero, List.set_cons_succ])
    refine wpAny_all (rs := [0, 3]) (by kernel_rfl) (by simp) (ord_cons ?_ (ord_cons ?_ ord_nil))
    rotate_left 2
    all_goals
      refine wpOp_of_listL rfl ?_
      (first | ((with_reducible refine is_load ?_); (first | (refine own_ld (h := ?_)))) | ((with_reducible refine is_store ?_); (first | (refine own_stR (hO := hO) (h := ?_); clear hO; intro wv hO) | (refine own_st1 (hO := hO) (h := ?_); clear hO; intro wv hO))) | ((with_reducible refine is_build ?_); (refine' own_buildN (o := ⟨some 33, _, _, _, _, _⟩) [hv h, hv h1, hv h2] hO (by rfl) rfl slice_Hds rfl rfl (by rfl) (by decide) (by decide) ?_); clear hO; intro n33 wv hO) | ((refine wpList_step (fun K hK => ?_)); go_simp; (first | ((refine hK _ _ ?_); clear hK K) | ((first | (go_at_call 13; (with_reducible refine (near_any (.slice aa la.length ca) la hZ (hO.tapeIn (by (repeat (first | exact List.mem_cons_self | refine List.mem_cons_of_mem _ ?_))) (by (intro s hs; repeat (first | exact hs | exact List.mem_append_left _ hs | apply List.mem_append_right | apply List.mem_cons_of_mem))) hT.le) (hO.isB hfa (by intro q hq; repeat (first | exact hq | exact List.mem_append_left _ hq | apply List.mem_append_right | apply List.mem_cons_of_mem))) hnna ka (by omega)).mono ?_); rintro e wv ⟨v, i1, rfl, hv9, hk, hT1⟩; replace hO := hO.after (by (repeat (first | exact Upd.here | apply Upd.there))) hk hT1.blk; replace hT := hT1; clear hT1 hk; obtain ⟨h1, rfl, kh1⟩ := hv9) | (go_at_call 13; (with_reducible refine (near_any (.slice ab lb.length cb) lb hZ (hO.tapeIn (by (repeat (first | exact List.mem_cons_self | refine List.mem_cons_of_mem _ ?_))) (by (intro s hs; repeat (first | exact hs | exact List.mem_append_left _ hs | apply List.mem_append_right | apply List.mem_cons_of_mem))) hT.le) (hO.isB hfb (by intro q hq; repeat (first | exact hq | exact List.mem_append_left _ hq | apply List.mem_append_right | apply List.mem_cons_of_mem))) hnnb kb (by omega)).mono ?_); rintro e wv ⟨v, i1, rfl, hv9, hk, hT1⟩; replace hO := hO.after (by (repeat (first | exact Upd.here | apply Upd.there))) hk hT1.blk; replace hT := hT1; clear hT1 hk; obtain ⟨h2, rfl, kh2⟩ := hv9)); (try simp only []); (refine hK _ _ ?_); clear hK K)))); (try simp only [Act.put]); (try simp only [List.setIfInBounds_toArray, List.set_cons_zero, List.set_cons_succ])
      refine wpList_done (qk_intro ?_)
    refine wpAny_all (rs := [3]) (by kernel_rfl) (by simp) (ord_cons ?_ ord_nil)
    rotate_left 1
    refine wpAny_all (rs := [0, 6]) (by kernel_rfl) (by simp) (ord_cons ?_ (ord_cons ?_ ord_nil))
    rotate_left 2
    all_goals
      refine wpOp_of_listL rfl ?_
      (first | ((with_reducible refine is_load ?_); (first | (refine own_ld (h := ?_)))) | ((with_reducible refine is_store ?_); (first | (refine own_stR (hO := hO) (h := ?_); clear hO; intro wv hO) | (refine own_st1 (hO := hO) (h := ?_); clear hO; intro wv hO))) | ((with_reducible refine is_build ?_); (refine' own_buildN (o := ⟨some 33, _, _, _, _, _⟩) [hv h, hv h1, hv h2] hO (by rfl) rfl slice_Hds rfl rfl (by rfl) (by decide) (by decide) ?_); clear hO; intro n33 wv hO) | ((refine wpList_step (fun K hK => ?_)); go_simp; (first | ((refine hK _ _ ?_); clear hK K) | ((first | (go_at_call 13; (with_reducible refine (near_any (.slice aa la.length ca) la hZ (hO.tapeIn (by (repeat (first | exact List.mem_cons_self | refine List.mem_cons_of_mem _ ?_))) (by (intro s hs; repeat (first | exact hs | exact List.mem_append_left _ hs | apply List.mem_append_right | apply List.mem_cons_of_mem))) hT.le) (hO.isB hfa (by intro q hq; repeat (first | exact hq | exact List.mem_append_left _ hq | apply List.mem_append_right | apply List.mem_cons_of_mem))) hnna ka (by omega)).mono ?_); rintro e wv ⟨v, i1, rfl, hv9, hk, hT1⟩; replace hO := hO.after (by (repeat (first | exact Upd.here | apply Upd.there))) hk hT1.blk; replace hT := hT1; clear hT1 hk; obtain ⟨h1, rfl, kh1⟩ := hv9) | (go_at_call 13; (with_reducible refine (near_any (.slice ab lb.length cb) lb hZ (hO.tapeIn (by (repeat (first | exact List.mem_cons_self | refine List.mem_cons_of_mem _ ?_))) (by (intro s hs; repeat (first | exact hs | exact List.mem_append_left _ hs | apply List.mem_append_right | apply List.mem_cons_of_mem))) hT.le) (hO.isB hfb (by intro q hq; repeat (first | exact hq | exact List.mem_append_left _ hq | apply List.mem_append_right | apply List.mem_cons_of_mem))) hnnb kb (by omega)).mono ?_); rintro e wv ⟨v, i1, rfl, hv9, hk, hT1⟩; replace hO := hO.after (by (repeat (first | exact Upd.here | apply Upd.there))) hk hT1.blk; replace hT := hT1; clear hT1 hk; obtain ⟨h2, rfl, kh2⟩ := hv9)); (try simp only []); (refine hK _ _ ?_); clear hK K)))); (try simp only [Act.put]); (try simp only [List.setIfInBounds_toArray, List.set_cons_zero, List.set_cons_succ])
      refine wpList_done (qk_intro ?_)
    refine wpAny_all (rs := [6]) (by kernel_rfl) (by simp) (ord_cons ?_ ord_nil)
    rotate_left 1
    refine wpAny_all (rs := [6]) (by kernel_rfl) (by simp) (ord_cons ?_ ord_nil)
    rotate_left 1
    refine wpAny_all (rs := [0]) (by kernel_rfl) (by simp) (ord_cons ?_ ord_nil)
    rotate_left 1
    all_goals
      refine wpOp_of_listL rfl ?_
      (first | ((with_reducible refine is_load ?_); (first | (refine own_ld (h := ?_)))) | ((with_reducible refine is_store ?_); (first | (refine own_stR (hO := hO) (h := ?_); clear hO; intro wv hO) | (refine own_st1 (hO := hO) (h := ?_); clear hO; intro wv hO))) | ((with_reducible refine is_build ?_); (refine' own_buildN (o := ⟨some 33, _, _, _, _, _⟩) [hv h, hv h1, hv h2] hO (by rfl) rfl slice_Hds rfl rfl (by rfl) (by decide) (by decide) ?_); clear hO; intro n33 wv hO) | ((refine wpList_step (fun K hK => ?_)); go_simp; (first | ((refine hK _ _ ?_); clear hK K) | ((first | (go_at_call 13; (with_reducible refine (near_any (.slice aa la.length ca) la hZ (hO.tapeIn (by (repeat (first | exact List.mem_cons_self | refine List.mem_cons_of_mem _ ?_))) (by (intro s hs; repeat (first | exact hs | exact List.mem_append_left _ hs | apply List.mem_append_right | apply List.mem_cons_of_mem))) hT.le) (hO.isB hfa (by intro q hq; repeat (first | exact hq | exact List.mem_append_left _ hq | apply List.mem_append_right | apply List.mem_cons_of_mem))) hnna ka (by omega)).mono ?_); rintro e wv ⟨v, i1, rfl, hv9, hk, hT1⟩; replace hO := hO.after (by (repeat (first | exact Upd.here | apply Upd.there))) hk hT1.blk; replace hT := hT1; clear hT1 hk; obtain ⟨h1, rfl, kh1⟩ := hv9) | (go_at_call 13; (with_reducible refine (near_any (.slice ab lb.length cb) lb hZ (hO.tapeIn (by (repeat (first | exact List.mem_cons_self | refine List.mem_cons_of_mem _ ?_))) (by (intro s hs; repeat (first | exact hs | exact List.mem_append_left _ hs | apply List.mem_append_right | apply List.mem_cons_of_mem))) hT.le) (hO.isB hfb (by intro q hq; repeat (first | exact hq | exact List.mem_append_left _ hq | apply List.mem_append_right | apply List.mem_cons_of_mem))) hnnb kb (by omega)).mono ?_); rintro e wv ⟨v, i1, rfl, hv9, hk, hT1⟩; replace hO := hO.after (by (repeat (first | exact Upd.here | apply Upd.there))) hk hT1.blk; replace hT := hT1; clear hT1 hk; obtain ⟨h2, rfl, kh2⟩ := hv9)); (try simp only []); (refine hK _ _ ?_); clear hK K)))); (try simp only [Act.put]); (try simp only [List.setIfInBounds_toArray, List.set_cons_zero, List.set_cons_succ])
      refine wpList_done (qk_intro ?_)
    refine wpAny_all (rs := [7]) (by kernel_rfl) (by simp) (ord_cons ?_ ord_nil)
    rotate_left 1
    refine wpAny_all (rs := [7]) (by kernel_rfl) (by simp) (ord_cons ?_ ord_nil)
    rotate_left 1
    refine wpAny_all (rs := [7]) (by kernel_rfl) (by simp) (ord_cons ?_ ord_nil)
    rotate_left 1
    all_goals
      refine wpOp_of_listL rfl ?_
      (first | ((with_reducible refine is_load ?_); (first | (refine own_ld (h := ?_)))) | ((with_reducible refine is_store ?_); (first | (refine own_stR (hO := hO) (h := ?_); clear hO; intro wv hO) | (refine own_st1 (hO := hO) (h := ?_); clear hO; intro wv hO))) | ((with_reducible refine is_build ?_); (refine' own_buildN (o := ⟨some 33, _, _, _, _, _⟩) [hv h, hv h1, hv h2] hO (by rfl) rfl slice_Hds rfl rfl (by rfl) (by decide) (by decide) ?_); clear hO; intro n33 wv hO) | ((refine wpList_step (fun K hK => ?_)); go_simp; (first | ((refine hK _ _ ?_); clear hK K) | ((first | (go_at_call 13; (with_reducible refine (near_any (.slice aa la.length ca) la hZ (hO.tapeIn (by (repeat (first | exact List.mem_cons_self | refine List.mem_cons_of_mem _ ?_))) (by (intro s hs; repeat (first | exact hs | exact List.mem_append_left _ hs | apply List.mem_append_right | apply List.mem_cons_of_mem))) hT.le) (hO.isB hfa (by intro q hq; repeat (first | exact hq | exact List.mem_append_left _ hq | apply List.mem_append_right | apply List.mem_cons_of_mem))) hnna ka (by omega)).mono ?_); rintro e wv ⟨v, i1, rfl, hv9, hk, hT1⟩; replace hO := hO.after (by (repeat (first | exact Upd.here | apply Upd.there))) hk hT1.blk; replace hT := hT1; clear hT1 hk; obtain ⟨h1, rfl, kh1⟩ := hv9) | (go_at_call 13; (with_reducible refine (near_any (.slice ab lb.length cb) lb hZ (hO.tapeIn (by (repeat (first | exact List.mem_cons_self | refine List.mem_cons_of_mem _ ?_))) (by (intro s hs; repeat (first | exact hs | exact List.mem_append_left _ hs | apply List.mem_append_right | apply List.mem_cons_of_mem))) hT.le) (hO.isB hfb (by intro q hq; repeat (first | exact hq | exact List.mem_append_left _ hq | apply List.mem_append_right | apply List.mem_cons_of_mem))) hnnb kb (by omega)).mono ?_); rintro e wv ⟨v, i1, rfl, hv9, hk, hT1⟩; replace hO := hO.after (by (repeat (first | exact Upd.here | apply Upd.there))) hk hT1.blk; replace hT := hT1; clear hT1 hk; obtain ⟨h2, rfl, kh2⟩ := hv9)); (try simp only []); (refine hK _ _ ?_); clear hK K)))); (try simp only [Act.put]); (try simp only [List.setIfInBounds_toArray, List.set_cons_zero, List.set_cons_succ])
      refine wpList_done (qk_intro ?_)
    refine wpAny_all (rs := [8]) (by kernel_rfl) (by simp) (ord_cons ?_ ord_nil)
    rotate_left 1
    refine wpAny_all (rs := [8]) (by kernel_rfl) (by simp) (ord_cons ?_ ord_nil)
    rotate_left 1
    refine wpAny_all (rs := [8]) (by kernel_rfl) (by simp) (ord_cons ?_ ord_nil)
    rotate_left 1
    all_goals
      refine wpOp_of_listL rfl ?_
      (first | ((with_reducible refine is_load ?_); (first | (refine own_ld (h := ?_)))) | ((with_reducible refine is_store ?_); (first | (refine own_stR (hO := hO) (h := ?_); clear hO; intro wv hO) | (refine own_st1 (hO := hO) (h := ?_); clear hO; intro wv hO))) | ((with_reducible refine is_build ?_); (refine' own_buildN (o := ⟨some 33, _, _, _, _, _⟩) [hv h, hv h1, hv h2] hO (by rfl) rfl slice_Hds rfl rfl (by rfl) (by decide) (by decide) ?_); clear hO; intro n33 wv hO) | ((refine wpList_step (fun K hK => ?_)); go_simp; (first | ((refine hK _ _ ?_); clear hK K) | ((first | (go_at_call 13; (with_reducible refine (near_any (.slice aa la.length ca) la hZ (hO.tapeIn (by (repeat (first | exact List.mem_cons_self | refine List.mem_cons_of_mem _ ?_))) (by (intro s hs; repeat (first | exact hs | exact List.mem_append_left _ hs | apply List.mem_append_right | apply List.mem_cons_of_mem))) hT.le) (hO.isB hfa (by intro q hq; repeat (first | exact hq | exact List.mem_append_left _ hq | apply List.mem_append_right | apply List.mem_cons_of_mem))) hnna ka (by omega)).mono ?_); rintro e wv ⟨v, i1, rfl, hv9, hk, hT1⟩; replace hO := hO.after (by (repeat (first | exact Upd.here | apply Upd.there))) hk hT1.blk; replace hT := hT1; clear hT1 hk; obtain ⟨h1, rfl, kh1⟩ := hv9) | (go_at_call 13; (with_reducible refine (near_any (.slice ab lb.length cb) lb hZ (hO.tapeIn (by (repeat (first | exact List.mem_cons_self | refine List.mem_cons_of_mem _ ?_))) (by (intro s hs; repeat (first | exact hs | exact List.mem_append_left _ hs | apply List.mem_append_right | apply List.mem_cons_of_mem))) hT.le) (hO.isB hfb (by intro q hq; repeat (first | exact hq | exact List.mem_append_left _ hq | apply List.mem_append_right | apply List.mem_cons_of_mem))) hnnb kb (by omega)).mono ?_); rintro e wv ⟨v, i1, rfl, hv9, hk, hT1⟩; replace hO := hO.after (by (repeat (first | exact Upd.here | apply Upd.there))) hk hT1.blk; replace hT := hT1; clear hT1 hk; obtain ⟨h2, rfl, kh2⟩ := hv9)); (try simp only []); (refine hK _ _ ?_); clear hK K)))); (try simp only [Act.put]); (try simp only [List.setIfInBounds_toArray, List.set_cons_zero, List.set_cons_succ])
      refine wpList_done (qk_intro ?_)
    refine wpAny_done (by kernel_rfl) ?_ _
    rotate_left
    refine wpAny_done (by kernel_rfl) ?_ _
    rotate_left
    refine wpAny_done (by kernel_rfl) ?_ _
    rotate_left
    all_goals
      go_wp2_with fail
      go_meet
      exact ⟨_, h1, h2, rfl, kh1, kh2, hO.sub (.cons_cons _ (.cons _ (.cons _ (.refl _)))) (.refl _) (fun q hq => (List.mem_append.1 hq).elim (fun h => List.mem_append_left _ h) (fun h => List.mem_append_right _ (List.mem_append_left _ h)))⟩
  case rest =>
    clear hO hT
    obtain ⟨n8, h1, h2, rfl, kh1, kh2, hO⟩ := hcut
    have hU := fun w ht h1 h2 => psUnion_any (va := .slice aa la.length ca) (vb := .slice ab lb.length cb) (la := la) (lb := lb) w ht h1 h2 ka kb na' nb'
    have hW := fun w ht h1 h2 => psIntersect_any (va := .slice aa la.length ca) (vb := .slice ab lb.length cb) (la := la) (lb := lb) w ht h1 h2 ka kb na' nb'
    have hD := fun w ht h1 h2 => psSubtract_any (va := .slice aa la.length ca) (vb := .slice ab lb.length cb) (la := la) (lb := lb) w ht h1 h2 ka kb na' nb'
    have hC := fun w ht h1 => psComplement_any (vl := .slice aa la.length ca) (l := la) w ht h1 ka na'
    have MU := fun z x hx hz => (of_members (op := orB) (z := z) (h := x) ka kb hx hz)
    have MI := fun z x hx hz => (of_members (op := andB) (z := z) (h := x) ka kb hx hz)
    have MD := fun z x hx hz => (of_members (op := exB) (z := z) (h := x) ka kb hx hz)
    have MC := fun z x hx hz => comp_has (l := la) (z := z) (h := x) ka hx hz
    have LC := fun z hz => (of_members (op := exB) (z := z) (h := h) okL_full ka ho hz).2.1
    generalize ofF orB la lb = RU at *
    generalize ofF andB la lb = RI at *
    generalize ofF exB la lb = RD at *
    generalize ofF exB [fullBx] la = RC at *
    have k3 : ecd none = 3 := rfl
    have k0 : ∀ u, ecd (some u) = 0 := fun _ => rfl
    have H3 := Lib.hid (fun (i : Nat) (hi : i < 3) => h3_at ho kh1 kh2 hi)
    have HMU := Lib.hid MU
    have HMI := Lib.hid MI
    have HMD := Lib.hid MD
    have HMC := Lib.hid MC
    have HLC := Lib.hid LC
    clear MU MI MD MC LC
    cases RU with
    | none =>
      go_wp2_with (first | ((with_reducible refine is_load ?_); (first | (refine own_ld (h := ?_)))) | ((with_reducible refine is_store ?_); (first | (refine own_stR (hO := hO) (h := ?_); clear hO; intro wv hO) | (refine own_st1 (hO := hO) (h := ?_); clear hO; intro wv hO))) | ((with_reducible refine is_box ?_); (first | (refine own_bx (o := ⟨some 3, _, _, _, _, _⟩) (hO := hO) (h := ?_); clear hO; intro n3 wv hO))) | (go_at_call 21; (with_reducible refine (hU _ (hO.tops ht (by simp)) (hO.isB hfa (by intro q hq; repeat (first | exact hq | exact List.mem_append_left _ hq | apply List.mem_append_right | apply List.mem_cons_of_mem))) (hO.isB hfb (by intro q hq; repeat (first | exact hq | exact List.mem_append_left _ hq | apply List.mem_append_right | apply List.mem_cons_of_mem)))).mono ?_); rintro e wv hpo; obtain ⟨vu, rfl, hv9, hn9, hb9⟩ := hpo.uni; have hfu := hv9.form; replace hO := hO.gainB hb9 hv9 hn9; clear hb9 hv9 hn9 hpo; obtain ⟨au, cu, rfl, -⟩ := hfu.view) | (go_at_call 22; (with_reducible refine (hW _ (hO.tops ht (by simp)) (hO.isB hfa (by intro q hq; repeat (first | exact hq | exact List.mem_append_left _ hq | apply List.mem_append_right | apply List.mem_cons_of_mem))) (hO.isB hfb (by intro q hq; repeat (first | exact hq | exact List.mem_append_left _ hq | apply List.mem_append_right | apply List.mem_cons_of_mem)))).mono ?_); rintro e wv hpo; obtain ⟨vi, rfl, hv9, hn9, hb9⟩ := hpo.uni; have hfi := hv9.form; replace hO := hO.gainB hb9 hv9 hn9; clear hb9 hv9 hn9 hpo; obtain ⟨ai, ci, rfl, -⟩ := hfi.view) | (go_at_call 23; (with_reducible refine (hD _ (hO.tops ht (by simp)) (hO.isB hfa (by intro q hq; repeat (first | exact hq | exact List.mem_append_left _ hq | apply List.mem_append_right | apply List.mem_cons_of_mem))) (hO.isB hfb (by intro q hq; repeat (first | exact hq | exact List.mem_append_left _ hq | apply List.mem_append_right | apply List.mem_cons_of_mem)))).mono ?_); rintro e wv hpo; obtain ⟨vd, rfl, hv9, hn9, hb9⟩ := hpo.uni; have hfd := hv9.form; replace hO := hO.gainB hb9 hv9 hn9; clear hb9 hv9 hn9 hpo; obtain ⟨ad, cd, rfl, -⟩ := hfd.view) | (go_at_call 24; (with_reducible refine (hC _ (hO.tops ht (by simp)) (hO.isB hfa (by intro q hq; repeat (first | exact hq | exact List.mem_append_left _ hq | apply List.mem_append_right | apply List.mem_cons_of_mem))) ).mono ?_); rintro e wv hpo; obtain ⟨vc, rfl, hv9, hn9, hb9⟩ := hpo.uni; have hfc := hv9.form; replace hO := hO.gainB hb9 hv9 hn9; clear hb9 hv9 hn9 hpo; obtain ⟨ac, cc, rfl, -⟩ := hfc.view) | (go_at_call 19; refine (sane4_any _ (hO.tops ht (by simp))).mono ?_; rintro e wv ⟨rfl, hb⟩; replace hO := hO.call hb; clear hb))
      go_ret
      exact ⟨rfl, hO.keep.below⟩
    | some lu =>
      cases RI with
      | none =>
        go_wp2_with (first | ((with_reducible refine is_load ?_); (first | (refine own_ld (h := ?_)))) | ((with_reducible refine is_store ?_); (first | (refine own_stR (hO := hO) (h := ?_); clear hO; intro wv hO) | (refine own_st1 (hO := hO) (h := ?_); clear hO; intro wv hO))) | ((with_reducible refine is_box ?_); (first | (refine own_bx (o := ⟨some 3, _, _, _, _, _⟩) (hO := hO) (h := ?_); clear hO; intro n3 wv hO))) | (go_at_call 21; (with_reducible refine (hU _ (hO.tops ht (by simp)) (hO.isB hfa (by intro q hq; repeat (first | exact hq | exact List.mem_append_left _ hq | apply List.mem_append_right | apply List.mem_cons_of_mem))) (hO.isB hfb (by intro q hq; repeat (first | exact hq | exact List.mem_append_left _ hq | apply List.mem_append_right | apply List.mem_cons_of_mem)))).mono ?_); rintro e wv hpo; obtain ⟨vu, rfl, hv9, hn9, hb9⟩ := hpo.uni; have hfu := hv9.form; replace hO := hO.gainB hb9 hv9 hn9; clear hb9 hv9 hn9 hpo; obtain ⟨au, cu, rfl, -⟩ := hfu.view) | (go_at_call 22; (with_reducible refine (hW _ (hO.tops ht (by simp)) (hO.isB hfa (by intro q hq; repeat (first | exact hq | exact List.mem_append_left _ hq | apply List.mem_append_right | apply List.mem_cons_of_mem))) (hO.isB hfb (by intro q hq; repeat (first | exact hq | exact List.mem_append_left _ hq | apply List.mem_append_right | apply List.mem_cons_of_mem)))).mono ?_); rintro e wv hpo; obtain ⟨vi, rfl, hv9, hn9, hb9⟩ := hpo.uni; have hfi := hv9.form; replace hO := hO.gainB hb9 hv9 hn9; clear hb9 hv9 hn9 hpo; obtain ⟨ai, ci, rfl, -⟩ := hfi.view) | (go_at_call 23; (with_reducible refine (hD _ (hO.tops ht (by simp)) (hO.isB hfa (by intro q hq; repeat (first | exact hq | exact List.mem_append_left _ hq | apply List.mem_append_right | apply List.mem_cons_of_mem))) (hO.isB hfb (by intro q hq; repeat (first | exact hq | exact List.mem_append_left _ hq | apply List.mem_append_right | apply List.mem_cons_of_mem)))).mono ?_); rintro e wv hpo; obtain ⟨vd, rfl, hv9, hn9, hb9⟩ := hpo.uni; have hfd := hv9.form; replace hO := hO.gainB hb9 hv9 hn9; clear hb9 hv9 hn9 hpo; obtain ⟨ad, cd, rfl, -⟩ := hfd.view) | (go_at_call 24; (with_reducible refine (hC _ (hO.tops ht (by simp)) (hO.isB hfa (by intro q hq; repeat (first | exact hq | exact List.mem_append_left _ hq | apply List.mem_append_right | apply List.mem_cons_of_mem))) ).mono ?_); rintro e wv hpo; obtain ⟨vc, rfl, hv9, hn9, hb9⟩ := hpo.uni; have hfc := hv9.form; replace hO := hO.gainB hb9 hv9 hn9; clear hb9 hv9 hn9 hpo; obtain ⟨ac, cc, rfl, -⟩ := hfc.view) | (go_at_call 19; refine (sane4_any _ (hO.tops ht (by simp))).mono ?_; rintro e wv ⟨rfl, hb⟩; replace hO := hO.call hb; clear hb))
        go_ret
        exact ⟨rfl, hO.keep.below⟩
      | some li =>
        cases RD with
        | none =>
          go_wp2_with (first | ((with_reducible refine is_load ?_); (first | (refine own_ld (h := ?_)))) | ((with_reducible refine is_store ?_); (first | (refine own_stR (hO := hO) (h := ?_); clear hO; intro wv hO) | (refine own_st1 (hO := hO) (h := ?_); clear hO; intro wv hO))) | ((with_reducible refine is_box ?_); (first | (refine own_bx (o := ⟨some 3, _, _, _, _, _⟩) (hO := hO) (h := ?_); clear hO; intro n3 wv hO))) | (go_at_call 21; (with_reducible refine (hU _ (hO.tops ht (by simp)) (hO.isB hfa (by intro q hq; repeat (first | exact hq | exact List.mem_append_left _ hq | apply List.mem_append_right | apply List.mem_cons_of_mem))) (hO.isB hfb (by intro q hq; repeat (first | exact hq | exact List.mem_append_left _ hq | apply List.mem_append_right | apply List.mem_cons_of_mem)))).mono ?_); rintro e wv hpo; obtain ⟨vu, rfl, hv9, hn9, hb9⟩ := hpo.uni; have hfu := hv9.form; replace hO := hO.gainB hb9 hv9 hn9; clear hb9 hv9 hn9 hpo; obtain ⟨au, cu, rfl, -⟩ := hfu.view) | (go_at_call 22; (with_reducible refine (hW _ (hO.tops ht (by simp)) (hO.isB hfa (by intro q hq; repeat (first | exact hq | exact List.mem_append_left _ hq | apply List.mem_append_right | apply List.mem_cons_of_mem))) (hO.isB hfb (by intro q hq; repeat (first | exact hq | exact List.mem_append_left _ hq | apply List.mem_append_right | apply List.mem_cons_of_mem)))).mono ?_); rintro e wv hpo; obtain ⟨vi, rfl, hv9, hn9, hb9⟩ := hpo.uni; have hfi := hv9.form; replace hO := hO.gainB hb9 hv9 hn9; clear hb9 hv9 hn9 hpo; obtain ⟨ai, ci, rfl, -⟩ := hfi.view) | (go_at_call 23; (with_reducible refine (hD _ (hO.tops ht (by simp)) (hO.isB hfa (by intro q hq; repeat (first | exact hq | exact List.mem_append_left _ hq | apply List.mem_append_right | apply List.mem_cons_of_mem))) (hO.isB hfb (by intro q hq; repeat (first | exact hq | exact List.mem_append_left _ hq | apply List.mem_append_right | apply List.mem_cons_of_mem)))).mono ?_); rintro e wv hpo; obtain ⟨vd, rfl, hv9, hn9, hb9⟩ := hpo.uni; have hfd := hv9.form; replace hO := hO.gainB hb9 hv9 hn9; clear hb9 hv9 hn9 hpo; obtain ⟨ad, cd, rfl, -⟩ := hfd.view) | (go_at_call 24; (with_reducible refine (hC _ (hO.tops ht (by simp)) (hO.isB hfa (by intro q hq; repeat (first | exact hq | exact List.mem_append_left _ hq | apply List.mem_append_right | apply List.mem_cons_of_mem))) ).mono ?_); rintro e wv hpo; obtain ⟨vc, rfl, hv9, hn9, hb9⟩ := hpo.uni; have hfc := hv9.form; replace hO := hO.gainB hb9 hv9 hn9; clear hb9 hv9 hn9 hpo; obtain ⟨ac, cc, rfl, -⟩ := hfc.view) | (go_at_call 19; refine (sane4_any _ (hO.tops ht (by simp))).mono ?_; rintro e wv ⟨rfl, hb⟩; replace hO := hO.call hb; clear hb))
          go_ret
          exact ⟨rfl, hO.keep.below⟩
        | some ld =>
          cases RC with
          | none =>
            go_wp2_with (first | ((with_reducible refine is_load ?_); (first | (refine own_ld (h := ?_)))) | ((with_reducible refine is_store ?_); (first | (refine own_stR (hO := hO) (h := ?_); clear hO; intro wv hO) | (refine own_st1 (hO := hO) (h := ?_); clear hO; intro wv hO))) | ((with_reducible refine is_box ?_); (first | (refine own_bx (o := ⟨some 3, _, _, _, _, _⟩) (hO := hO) (h := ?_); clear hO; intro n3 wv hO))) | (go_at_call 21; (with_reducible refine (hU _ (hO.tops ht (by simp)) (hO.isB hfa (by intro q hq; repeat (first | exact hq | exact List.mem_append_left _ hq | apply List.mem_append_right | apply List.mem_cons_of_mem))) (hO.isB hfb (by intro q hq; repeat (first | exact hq | exact List.mem_append_left _ hq | apply List.mem_append_right | apply List.mem_cons_of_mem)))).mono ?_); rintro e wv hpo; obtain ⟨vu, rfl, hv9, hn9, hb9⟩ := hpo.uni; have hfu := hv9.form; replace hO := hO.gainB hb9 hv9 hn9; clear hb9 hv9 hn9 hpo; obtain ⟨au, cu, rfl, -⟩ := hfu.view) | (go_at_call 22; (with_reducible refine (hW _ (hO.tops ht (by simp)) (hO.isB hfa (by intro q hq; repeat (first | exact hq | exact List.mem_append_left _ hq | apply List.mem_append_right | apply List.mem_cons_of_mem))) (hO.isB hfb (by intro q hq; repeat (first | exact hq | exact List.mem_append_left _ hq | apply List.mem_append_right | apply List.mem_cons_of_mem)))).mono ?_); rintro e wv hpo; obtain ⟨vi, rfl, hv9, hn9, hb9⟩ := hpo.uni; have hfi := hv9.form; replace hO := hO.gainB hb9 hv9 hn9; clear hb9 hv9 hn9 hpo; obtain ⟨ai, ci, rfl, -⟩ := hfi.view) | (go_at_call 23; (with_reducible refine (hD _ (hO.tops ht (by simp)) (hO.isB hfa (by intro q hq; repeat (first | exact hq | exact List.mem_append_left _ hq | apply List.mem_append_right | apply List.mem_cons_of_mem))) (hO.isB hfb (by intro q hq; repeat (first | exact hq | exact List.mem_append_left _ hq | apply List.mem_append_right | apply List.mem_cons_of_mem)))).mono ?_); rintro e wv hpo; obtain ⟨vd, rfl, hv9, hn9, hb9⟩ := hpo.uni; have hfd := hv9.form; replace hO := hO.gainB hb9 hv9 hn9; clear hb9 hv9 hn9 hpo; obtain ⟨ad, cd, rfl, -⟩ := hfd.view) | (go_at_call 24; (with_reducible refine (hC _ (hO.tops ht (by simp)) (hO.isB hfa (by intro q hq; repeat (first | exact hq | exact List.mem_append_left _ hq | apply List.mem_append_right | apply List.mem_cons_of_mem))) ).mono ?_); rintro e wv hpo; obtain ⟨vc, rfl, hv9, hn9, hb9⟩ := hpo.uni; have hfc := hv9.form; replace hO := hO.gainB hb9 hv9 hn9; clear hb9 hv9 hn9 hpo; obtain ⟨ac, cc, rfl, -⟩ := hfc.view) | (go_at_call 19; refine (sane4_any _ (hO.tops ht (by simp))).mono ?_; rintro e wv ⟨rfl, hb⟩; replace hO := hO.call hb; clear hb))
            go_ret
            exact ⟨rfl, hO.keep.below⟩
          | some lc =>
            go_wp2_with (first | ((with_reducible refine is_load ?_); (first | (refine own_ld (h := ?_)))) | ((with_reducible refine is_store ?_); (first | (refine own_stR (hO := hO) (h := ?_); clear hO; intro wv hO) | (refine own_st1 (hO := hO) (h := ?_); clear hO; intro wv hO))) | ((with_reducible refine is_box ?_); (first | (refine own_bx (o := ⟨some 3, _, _, _, _, _⟩) (hO := hO) (h := ?_); clear hO; intro n3 wv hO))) | (go_at_call 21; (with_reducible refine (hU _ (hO.tops ht (by simp)) (hO.isB hfa (by intro q hq; repeat (first | exact hq | exact List.mem_append_left _ hq | apply List.mem_append_right | apply List.mem_cons_of_mem))) (hO.isB hfb (by intro q hq; repeat (first | exact hq | exact List.mem_append_left _ hq | apply List.mem_append_right | apply List.mem_cons_of_mem)))).mono ?_); rintro e wv hpo; obtain ⟨vu, rfl, hv9, hn9, hb9⟩ := hpo.uni; have hfu := hv9.form; replace hO := hO.gainB hb9 hv9 hn9; clear hb9 hv9 hn9 hpo; obtain ⟨au, cu, rfl, -⟩ := hfu.view) | (go_at_call 22; (with_reducible refine (hW _ (hO.tops ht (by simp)) (hO.isB hfa (by intro q hq; repeat (first | exact hq | exact List.mem_append_left _ hq | apply List.mem_append_right | apply List.mem_cons_of_mem))) (hO.isB hfb (by intro q hq; repeat (first | exact hq | exact List.mem_append_left _ hq | apply List.mem_append_right | apply List.mem_cons_of_mem)))).mono ?_); rintro e wv hpo; obtain ⟨vi, rfl, hv9, hn9, hb9⟩ := hpo.uni; have hfi := hv9.form; replace hO := hO.gainB hb9 hv9 hn9; clear hb9 hv9 hn9 hpo; obtain ⟨ai, ci, rfl, -⟩ := hfi.view) | (go_at_call 23; (with_reducible refine (hD _ (hO.tops ht (by simp)) (hO.isB hfa (by intro q hq; repeat (first | exact hq | exact List.mem_append_left _ hq | apply List.mem_append_right | apply List.mem_cons_of_mem))) (hO.isB hfb (by intro q hq; repeat (first | exact hq | exact List.mem_append_left _ hq | apply List.mem_append_right | apply List.mem_cons_of_mem)))).mono ?_); rintro e wv hpo; obtain ⟨vd, rfl, hv9, hn9, hb9⟩ := hpo.uni; have hfd := hv9.form; replace hO := hO.gainB hb9 hv9 hn9; clear hb9 hv9 hn9 hpo; obtain ⟨ad, cd, rfl, -⟩ := hfd.view) | (go_at_call 24; (with_reducible refine (hC _ (hO.tops ht (by simp)) (hO.isB hfa (by intro q hq; repeat (first | exact hq | exact List.mem_append_left _ hq | apply List.mem_append_right | apply List.mem_cons_of_mem))) ).mono ?_); rintro e wv hpo; obtain ⟨vc, rfl, hv9, hn9, hb9⟩ := hpo.uni; have hfc := hv9.form; replace hO := hO.gainB hb9 hv9 hn9; clear hb9 hv9 hn9 hpo; obtain ⟨ac, cc, rfl, -⟩ := hfc.view))
            dsimp only [Option.getD_some] at hfu hfi hfd hfc hO
            clear hU hW hD hC
            have hu4 := (HMU.out lu h ho rfl).2.1
            have hi4 := (HMI.out li h ho rfl).2.1
            have hd4 := (HMD.out ld h ho rfl).2.1
            have hc4 := HLC.out lc rfl
            go_loopg [17] 4 (fun gk q wr => ∃ i : Nat, i ≤ 3 ∧ 4 - i ≤ gk ∧ q = .int .i64 i ∧ Own [] w [⟨n8, h3cs h h1 h2, 26⟩] [] (roS (.slice ac lc.length cc) (cellsB lc) ++ (roS (.slice ad ld.length cd) (cellsB ld) ++ (roS (.slice ai li.length ci) (cellsB li) ++ (roS (.slice au lu.length cu) (cellsB lu) ++ (roS (.slice ab lb.length cb) (cellsB lb) ++ roS (.slice aa la.length ca) (cellsB la)))))) wr)
            case atStart => exact ⟨0, by omega, by omega, rfl, hO⟩
            case round =>
              clear hO
              obtain ⟨i, hi, hgk, rfl, hO⟩ := hrel
              have s1 : IntKind.i64.wrap ((i : Int) + 1) = (i : Int) + 1 := IntWalk.i64_in _ (by omega)
              by_cases hlt : i < 3
              · have g1 : decide ((i : Int) < 3) = true := decide_eq_true (by omega)
                have y1 : (0 : Int) ≤ (i : Int) := by omega
                have y2 : (i : Int) < 3 := by omega
                obtain ⟨x, hx, t1⟩ := H3.out i hlt
                obtain ⟨A, hA⟩ : ∃ A, la.any (hasH x) = A := ⟨_, rfl⟩
                obtain ⟨B, hB⟩ : ∃ B, lb.any (hasH x) = B := ⟨_, rfl⟩
                have eU : lu.any (hasH x) = (A || B) := by rw [(HMU.out lu x hx rfl).2.2, hA, hB]; rfl
                have eI : li.any (hasH x) = (A && B) := by rw [(HMI.out li x hx rfl).2.2, hA, hB]; rfl
                have eD : ld.any (hasH x) = (A && !B) := by rw [(HMD.out ld x hx rfl).2.2, hA, hB]; rfl
                have eC : lc.any (hasH x) = !A := by rw [HMC.out lc x hx rfl, hA]
                have cA := fun w ht hv => psContains_any (vl := .slice aa la.length ca) (l := la) x w ht hx hv na'
                have cB := fun w ht hv => psContains_any (vl := .slice ab lb.length cb) (l := lb) x w ht hx hv nb'
                have cU := fun w ht hv => psContains_any (vl := .slice au lu.length cu) (l := lu) x w ht hx hv (by omega)
                have cI := fun w ht hv => psContains_any (vl := .slice ai li.length ci) (l := li) x w ht hx hv (by omega)
                have cD := fun w ht hv => psContains_any (vl := .slice ad ld.length cd) (l := ld) x w ht hx hv (by omega)
                have cC := fun w ht hv => psContains_any (vl := .slice ac lc.length cc) (l := lc) x w ht hx hv (by omega)
                rw [hA] at cA
                rw [hB] at cB
                rw [eU] at cU
                rw [eI] at cI
                rw [eD] at cD
                rw [eC] at cC
                clear hA hB eU eI eD eC
                go_upto_region 13 with (first | ((with_reducible refine is_load ?_); (first | (refine own_ld (h := ?_)))) | ((with_reducible refine is_store ?_); (first | (refine own_stR (hO := hO) (h := ?_); clear hO; intro wv hO) | (refine own_st1 (hO := hO) (h := ?_); clear hO; intro wv hO))) | ((with_reducible refine is_box ?_); (first | (refine own_bx (o := ⟨some 3, _, _, _, _, _⟩) (hO := hO) (h := ?_); clear hO; intro n3 wv hO))))
                go_cut [18, 19] (fun q18 q19 wx => q18 = .bool A ∧ q19 = .bool B ∧ Own [] w [⟨n8, h3cs h h1 h2, 26⟩] [] (roS (.slice ac lc.length cc) (cellsB lc) ++ (roS (.slice ad ld.length cd) (cellsB ld) ++ (roS (.slice ai li.length ci) (cellsB li) ++ (roS (.slice au lu.length cu) (cellsB lu) ++ (roS (.slice ab lb.length cb) (cellsB lb) ++ roS (.slice aa la.length ca) (cellsB la)))))) wx)
                case first =>
                  (try simp only [Act.put]); (try simp only [List.setIfInBounds_toArray, List.set_cons_zero, List.set_cons_succ])
                  refine wp_region_any (by kernel_rfl) ?_
                  replace hO := hO.drew
                  refine wpAny_takePL 0 rfl (by kernel_rfl) (by kernel_rfl) (by kernel_rfl) (by intro c d v a w h; cases d <;> exact h) (by rfl) ?_
                  (first | go_big_quiet_skip | (go_big_quiet_want; (go_big_quiet_op; (first | go_big_quiet_on | ((refine ⟨_, fun _ _ => rfl, ?_⟩); go_big_quiet_on))))); (refine wpQuiet_nil ?_); (try simp only [Act.put]); (try simp only [List.setIfInBounds_toArray, List.set_cons_zero, List.set_cons_succ])
                  refine wpAny_takePL 1 rfl (by kernel_rfl) (by kernel_rfl) (by kernel_rfl) (by intro c d v a w h; cases d <;> exact h) (by rfl) ?_
                  (first | go_big_quiet_skip | (go_big_quiet_want; (go_big_quiet_op; (first | go_big_quiet_on | ((refine ⟨_, fun _ _ => rfl, ?_⟩); go_big_quiet_on))))); (refine wpQuiet_nil ?_); (try simp only [Act.put]); (try simp only [List.setIfInBounds_toArray, List.set_cons_zero, List.set_cons_succ])
                  refine wpAny_takePL 2 rfl (by kernel_rfl) (by kernel_rfl) (by kernel_rfl) (by intro c d v a w h; cases d <;> exact h) (by rfl) ?_
                  (first | go_big_quiet_skip | (go_big_quiet_want; (go_big_quiet_op; (first | go_big_quiet_on | ((refine ⟨_, fun _ _ => rfl, ?_⟩); go_big_quiet_on))))); (refine wpQuiet_nil ?_); (try simp only [Act.put]); (try simp only [List.setIfInBounds_toArray, List.set_cons_zero, List.set_cons_succ])
                  refine wpAny_takePL 3 rfl (by kernel_rfl) (by kernel_rfl) (by kernel_rfl) (by intro c d v a w h; cases d <;> exact h) (by rfl) ?_
                  (first | go_big_quiet_skip | (go_big_quiet_want; (go_big_quiet_op; (first | go_big_quiet_on | ((refine ⟨_, fun _ _ => rfl, ?_⟩); go_big_quiet_on))))); (refine wpQuiet_nil ?_); (try simp only [Act.put]); (try simp only [List.setIfInBounds_toArray, List.set_cons_zero, List.set_cons_succ])
                  refine wpAny_takePL 6 rfl (by kernel_rfl) (by kernel_rfl) (by kernel_rfl) (by intro c d v a w h; cases d <;> exact h) (by rfl) ?_
                  (first | go_big_quiet_skip | (go_big_quiet_want; (go_big_quiet_op; (first | go_big_quiet_on | ((refine ⟨_, fun _ _ => rfl, ?_⟩); go_big_quiet_on))))); (refine wpQuiet_nil ?_); (try simp only [Act.put]); (try simp only [List.setIfInBounds_toArray, List.set_cons_zero, List.set_cons_succ])
                  refine wpAny_takePL 7 rfl (by kernel_rfl) (by kernel_rfl) (by kernel_rfl) (by intro c d v a w h; cases d <;> exact h) (by rfl) ?_
                  (first | go_big_quiet_skip | (go_big_quiet_want; (go_big_quiet_op; (first | go_big_quiet_on | ((refine ⟨_, fun _ _ => rfl, ?_⟩); go_big_quiet_on))))); (refine wpQuiet_nil ?_); (try simp only [Act.put]); (try simp only [List.setIfInBounds_toArray, List.set_cons_zero, List.set_cons_succ])
                  refine wpAny_takePL 8 rfl (by kernel_rfl) (by kernel_rfl) (by kernel_rfl) (by intro c d v a w h; cases d <;> exact h) (by rfl) ?_
                  (first | go_big_quiet_skip | (go_big_quiet_want; (go_big_quiet_op; (first | go_big_quiet_on | ((refine ⟨_, fun _ _ => rfl, ?_⟩); go_big_quiet_on))))); (refine wpQuiet_nil ?_); (try simp only [Act.put]); (try simp only [List.setIfInBounds_toArray, List.set_cons_zero, List.set_cons_succ])
                  refine wpAny_takePL 9 rfl (by kernel_rfl) (by kernel_rfl) (by kernel_rfl) (by intro c d v a w h; cases d <;> exact h) (by rfl) ?_
                  (first | go_big_quiet_skip | (go_big_quiet_want; (go_big_quiet_op; (first | go_big_quiet_on | ((refine ⟨_, fun _ _ => rfl, ?_⟩); go_big_quiet_on))))); (refine wpQuiet_nil ?_); (try simp only [Act.put]); (try simp only [List.setIfInBounds_toArray, List.set_cons_zero, List.set_cons_succ])
                  refine wpAny_all (rs := [4, 10]) (by kernel_rfl) (by simp) (ord_cons ?_ (ord_cons ?_ ord_nil))
                  rotate_left 2
                  all_goals
                    refine wpOp_of_listL rfl ?_
                    (first | ((with_reducible refine is_load ?_); (first | (refine own_ld (h := ?_)))) | ((with_reducible refine is_store ?_); (first | (refine own_stR (hO := hO) (h := ?_); clear hO; intro wv hO) | (refine own_st1 (hO := hO) (h := ?_); clear hO; intro wv hO))) | ((refine wpList_step (fun K hK => ?_)); go_simp; (first | ((refine hK _ _ ?_); clear hK K) | ((first | (go_at_call 15; (with_reducible refine (cA _ (hO.tops ht (by simp)) (hO.isB hfa (by intro q hq; repeat (first | exact hq | exact List.mem_append_left _ hq | apply List.mem_append_right | apply List.mem_cons_of_mem)))).mono ?_); rintro e wv ⟨rfl, hb9⟩; replace hO := hO.call hb9; clear hb9) | (go_at_call 15; (with_reducible refine (cB _ (hO.tops ht (by simp)) (hO.isB hfb (by intro q hq; repeat (first | exact hq | exact List.mem_append_left _ hq | apply List.mem_append_right | apply List.mem_cons_of_mem)))).mono ?_); rintro e wv ⟨rfl, hb9⟩; replace hO := hO.call hb9; clear hb9)); (try simp only []); (refine hK _ _ ?_); clear hK K)))); (try simp only [Act.put]); (try simp only [List.setIfInBounds_toArray, List.set_cons_zero, List.set_cons_succ])
                    refine wpList_done (qk_intro ?_)
                  refine wpAny_all (rs := [5, 10]) (by kernel_rfl) (by simp) (ord_cons ?_ (ord_cons ?_ ord_nil))
                  rotate_left 2
                  refine wpAny_all (rs := [4]) (by kernel_rfl) (by simp) (ord_cons ?_ ord_nil)
                  rotate_left 1
                  all_goals
                    refine wpOp_of_listL rfl ?_
                    (first | ((with_reducible refine is_load ?_); (first | (refine own_ld (h := ?_)))) | ((with_reducible refine is_store ?_); (first | (refine own_stR (hO := hO) (h := ?_); clear hO; intro wv hO) | (refine own_st1 (hO := hO) (h := ?_); clear hO; intro wv hO))) | ((refine wpList_step (fun K hK => ?_)); go_simp; (first | ((refine hK _ _ ?_); clear hK K) | ((first | (go_at_call 15; (with_reducible refine (cA _ (hO.tops ht (by simp)) (hO.isB hfa (by intro q hq; repeat (first | exact hq | exact List.mem_append_left _ hq | apply List.mem_append_right | apply List.mem_cons_of_mem)))).mono ?_); rintro e wv ⟨rfl, hb9⟩; replace hO := hO.call hb9; clear hb9) | (go_at_call 15; (with_reducible refine (cB _ (hO.tops ht (by simp)) (hO.isB hfb (by intro q hq; repeat (first | exact hq | exact List.mem_append_left _ hq | apply List.mem_append_right | apply List.mem_cons_of_mem)))).mono ?_); rintro e wv ⟨rfl, hb9⟩; replace hO := hO.call hb9; clear hb9)); (try simp only []); (refine hK _ _ ?_); clear hK K)))); (try simp only [Act.put]); (try simp only [List.setIfInBounds_toArray, List.set_cons_zero, List.set_cons_succ])
                    refine wpList_done (qk_intro ?_)
                  refine wpAny_all (rs := [10]) (by kernel_rfl) (by simp) (ord_cons ?_ ord_nil)
                  rotate_left 1
                  refine wpAny_all (rs := [5]) (by kernel_rfl) (by simp) (ord_cons ?_ ord_nil)
                  rotate_left 1
                  refine wpAny_all (rs := [5]) (by kernel_rfl) (by simp) (ord_cons ?_ ord_nil)
                  rotate_left 1
                  all_goals
                    refine wpOp_of_listL rfl ?_
                    (first | ((with_reducible refine is_load ?_); (first | (refine own_ld (h := ?_)))) | ((with_reducible refine is_store ?_); (first | (refine own_stR (hO := hO) (h := ?_); clear hO; intro wv hO) | (refine own_st1 (hO := hO) (h := ?_); clear hO; intro wv hO))) | ((refine wpList_step (fun K hK => ?_)); go_simp; (first | ((refine hK _ _ ?_); clear hK K) | ((first | (go_at_call 15; (with_reducible refine (cA _ (hO.tops ht (by simp)) (hO.isB hfa (by intro q hq; repeat (first | exact hq | exact List.mem_append_left _ hq | apply List.mem_append_right | apply List.mem_cons_of_mem)))).mono ?_); rintro e wv ⟨rfl, hb9⟩; replace hO := hO.call hb9; clear hb9) | (go_at_call 15; (with_reducible refine (cB _ (hO.tops ht (by simp)) (hO.isB hfb (by intro q hq; repeat (first | exact hq | exact List.mem_append_left _ hq | apply List.mem_append_right | apply List.mem_cons_of_mem)))).mono ?_); rintro e wv ⟨rfl, hb9⟩; replace hO := hO.call hb9; clear hb9)); (try simp only []); (refine hK _ _ ?_); clear hK K)))); (try simp only [Act.put]); (try simp only [List.setIfInBounds_toArray, List.set_cons_zero, List.set_cons_succ])
                    refine wpList_done (qk_intro ?_)
                  refine wpAny_all (rs := [11]) (by kernel_rfl) (by simp) (ord_cons ?_ ord_nil)
                  rotate_left 1
                  refine wpAny_all (rs := [11]) (by kernel_rfl) (by simp) (ord_cons ?_ ord_nil)
                  rotate_left 1
                  refine wpAny_all (rs := [11]) (by kernel_rfl) (by simp) (ord_cons ?_ ord_nil)
                  rotate_left 1
                  all_goals
                    refine wpOp_of_listL rfl ?_
                    (first | ((with_reducible refine is_load ?_); (first | (refine own_ld (h := ?_)))) | ((with_reducible refine is_store ?_); (first | (refine own_stR (hO := hO) (h := ?_); clear hO; intro wv hO) | (refine own_st1 (hO := hO) (h := ?_); clear hO; intro wv hO))) | ((refine wpList_step (fun K hK => ?_)); go_simp; (first | ((refine hK _ _ ?_); clear hK K) | ((first | (go_at_call 15; (with_reducible refine (cA _ (hO.tops ht (by simp)) (hO.isB hfa (by intro q hq; repeat (first | exact hq | exact List.mem_append_left _ hq | apply List.mem_append_right | apply List.mem_cons_of_mem)))).mono ?_); rintro e wv ⟨rfl, hb9⟩; replace hO := hO.call hb9; clear hb9) | (go_at_call 15; (with_reducible refine (cB _ (hO.tops ht (by simp)) (hO.isB hfb (by intro q hq; repeat (first | exact hq | exact List.mem_append_left _ hq | apply List.mem_append_right | apply List.mem_cons_of_mem)))).mono ?_); rintro e wv ⟨rfl, hb9⟩; replace hO := hO.call hb9; clear hb9)); (try simp only []); (refine hK _ _ ?_); clear hK K)))); (try simp only [Act.put]); (try simp only [List.setIfInBounds_toArray, List.set_cons_zero, List.set_cons_succ])
                    refine wpList_done (qk_intro ?_)
                  refine wpAny_all (rs := [12]) (by kernel_rfl) (by simp) (ord_cons ?_ ord_nil)
                  rotate_left 1
                  refine wpAny_all (rs := [12]) (by kernel_rfl) (by simp) (ord_cons ?_ ord_nil)
                  rotate_left 1
                  refine wpAny_all (rs := [12]) (by kernel_rfl) (by simp) (ord_cons ?_ ord_nil)
                  rotate_left 1
                  all_goals
                    refine wpOp_of_listL rfl ?_
                    (first | ((with_reducible refine is_load ?_); (first | (refine own_ld (h := ?_)))) | ((with_reducible refine is_store ?_); (first | (refine own_stR (hO := hO) (h := ?_); clear hO; intro wv hO) | (refine own_st1 (hO := hO) (h := ?_); clear hO; intro wv hO))) | ((refine wpList_step (fun K hK => ?_)); go_simp; (first | ((refine hK _ _ ?_); clear hK K) | ((first | (go_at_call 15; (with_reducible refine (cA _ (hO.tops ht (by simp)) (hO.isB hfa (by intro q hq; repeat (first | exact hq | exact List.mem_append_left _ hq | apply List.mem_append_right | apply List.mem_cons_of_mem)))).mono ?_); rintro e wv ⟨rfl, hb9⟩; replace hO := hO.call hb9; clear hb9) | (go_at_call 15; (with_reducible refine (cB _ (hO.tops ht (by simp)) (hO.isB hfb (by intro q hq; repeat (first | exact hq | exact List.mem_append_left _ hq | apply List.mem_append_right | apply List.mem_cons_of_mem)))).mono ?_); rintro e wv ⟨rfl, hb9⟩; replace hO := hO.call hb9; clear hb9)); (try simp only []); (refine hK _ _ ?_); clear hK K)))); (try simp only [Act.put]); (try simp only [List.setIfInBounds_toArray, List.set_cons_zero, List.set_cons_succ])
                    refine wpList_done (qk_intro ?_)
                  refine wpAny_all (rs := [13]) (by kernel_rfl) (by simp) (ord_cons ?_ ord_nil)
                  rotate_left 1
                  refine wpAny_all (rs := [13]) (by kernel_rfl) (by simp) (ord_cons ?_ ord_nil)
                  rotate_left 1
                  refine wpAny_all (rs := [13]) (by kernel_rfl) (by simp) (ord_cons ?_ ord_nil)
                  rotate_left 1
                  all_goals
                    refine wpOp_of_listL rfl ?_
                    (first | ((with_reducible refine is_load ?_); (first | (refine own_ld (h := ?_)))) | ((with_reducible refine is_store ?_); (first | (refine own_stR (hO := hO) (h := ?_); clear hO; intro wv hO) | (refine own_st1 (hO := hO) (h := ?_); clear hO; intro wv hO))) | ((refine wpList_step (fun K hK => ?_)); go_simp; (first | ((refine hK _ _ ?_); clear hK K) | ((first | (go_at_call 15; (with_reducible refine (cA _ (hO.tops ht (by simp)) (hO.isB hfa (by intro q hq; repeat (first | exact hq | exact List.mem_append_left _ hq | apply List.mem_append_right | apply List.mem_cons_of_mem)))).mono ?_); rintro e wv ⟨rfl, hb9⟩; replace hO := hO.call hb9; clear hb9) | (go_at_call 15; (with_reducible refine (cB _ (hO.tops ht (by simp)) (hO.isB hfb (by intro q hq; repeat (first | exact hq | exact List.mem_append_left _ hq | apply List.mem_append_right | apply List.mem_cons_of_mem)))).mono ?_); rintro e wv ⟨rfl, hb9⟩; replace hO := hO.call hb9; clear hb9)); (try simp only []); (refine hK _ _ ?_); clear hK K)))); (try simp only [Act.put]); (try simp only [List.setIfInBounds_toArray, List.set_cons_zero, List.set_cons_succ])
                    refine wpList_done (qk_intro ?_)
                  refine wpAny_done (by kernel_rfl) ?_ _
                  rotate_left
                  refine wpAny_done (by kernel_rfl) ?_ _
                  rotate_left
                  refine wpAny_done (by kernel_rfl) ?_ _
                  rotate_left
                  all_goals
                    go_wp2_with fail
                    go_meet
                    exact ⟨rfl, rfl, hO⟩
                case rest =>
                  clear hO cA cB
                  obtain ⟨rfl, rfl, hO⟩ := hcut
                  cases A <;> cases B <;>
                    (simp only [Bool.or_false, Bool.or_true, Bool.and_true, Bool.and_false, Bool.not_true, Bool.not_false] at cU cI cD cC
                     go_wp2_with (first | ((with_reducible refine is_load ?_); (first | (refine own_ld (h := ?_)))) | ((with_reducible refine is_store ?_); (first | (refine own_stR (hO := hO) (h := ?_); clear hO; intro wv hO) | (refine own_st1 (hO := hO) (h := ?_); clear hO; intro wv hO))) | ((with_reducible refine is_box ?_); (first | (refine own_bx (o := ⟨some 3, _, _, _, _, _⟩) (hO := hO) (h := ?_); clear hO; intro n3 wv hO))) | (go_at_call 15; (with_reducible refine (cU _ (hO.tops ht (by simp)) (hO.isB hfu (by intro q hq; repeat (first | exact hq | exact List.mem_append_left _ hq | apply List.mem_append_right | apply List.mem_cons_of_mem)))).mono ?_); rintro e wv ⟨rfl, hb9⟩; replace hO := hO.call hb9; clear hb9) | (go_at_call 15; (with_reducible refine (cI _ (hO.tops ht (by simp)) (hO.isB hfi (by intro q hq; repeat (first | exact hq | exact List.mem_append_left _ hq | apply List.mem_append_right | apply List.mem_cons_of_mem)))).mono ?_); rintro e wv ⟨rfl, hb9⟩; replace hO := hO.call hb9; clear hb9) | (go_at_call 15; (with_reducible refine (cD _ (hO.tops ht (by simp)) (hO.isB hfd (by intro q hq; repeat (first | exact hq | exact List.mem_append_left _ hq | apply List.mem_append_right | apply List.mem_cons_of_mem)))).mono ?_); rintro e wv ⟨rfl, hb9⟩; replace hO := hO.call hb9; clear hb9) | (go_at_call 15; (with_reducible refine (cC _ (hO.tops ht (by simp)) (hO.isB hfc (by intro q hq; repeat (first | exact hq | exact List.mem_append_left _ hq | apply List.mem_append_right | apply List.mem_cons_of_mem)))).mono ?_); rintro e wv ⟨rfl, hb9⟩; replace hO := hO.call hb9; clear hb9))
                     go_roundg (3 - i)
                     case measure => omega
                     case rel => exact ⟨i + 1, by omega, by omega, by go_num, hO⟩)
              · have g1 : decide ((i : Int) < 3) = false := decide_eq_false (by omega)
                go_wp2_with (first | ((with_reducible refine is_load ?_); (first | (refine own_ld (h := ?_)))) | ((with_reducible refine is_store ?_); (first | (refine own_stR (hO := hO) (h := ?_); clear hO; intro wv hO) | (refine own_st1 (hO := hO) (h := ?_); clear hO; intro wv hO))) | ((with_reducible refine is_box ?_); (first | (refine own_bx (o := ⟨some 3, _, _, _, _, _⟩) (hO := hO) (h := ?_); clear hO; intro n3 wv hO))) | (go_at_call 19; refine (sane4_any _ (hO.tops ht (by simp))).mono ?_; rintro e wv ⟨rfl, hb⟩; replace hO := hO.call hb; clear hb))
                go_ret
                exact ⟨rfl, hO.keep.below⟩
end Go.Proofs.YtdfihajngmgigaaDoor
