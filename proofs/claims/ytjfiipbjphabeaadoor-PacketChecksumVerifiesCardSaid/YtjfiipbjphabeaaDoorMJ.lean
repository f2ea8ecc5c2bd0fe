/- PacketChecksumVerifies: the walk. -/
import Derived.Test.YtjfiipbjphabeaaDoorMH
namespace Go.Proofs.YtjfiipbjphabeaaDoor
open Go.RowKit
set_option maxRecDepth 100000

/-! ### the plain laws -/
theorem ck_turn {l : List Int} {n K : Nat} (hn : n ≤ l.length) (e : n % 2 = 0) (hK : K ≤ n) (eK : K % 2 = 0) : ck ((l.drop K).take (n - K) ++ l.take K) = ck (l.take n) := by
  have e1 : ((l.drop K).take (n - K)).length = n - K := by simp; omega
  have e2 : ((l.drop K).take (n - K) ++ l.take K).length = (n - K) + K := by simp; omega
  have e3 : (l.take n).length = n := by simp; omega
  have h1 := ws_app (l := (l.drop K).take (n - K)) (m := l.take K) (by rw [e1]; omega) K
  rw [e1] at h1
  have h2 := ws_drop (l := l) (n := K) eK (n - K)
  rw [show K + (n - K) = n by omega] at h2
  unfold ck
  rw [e2, e3, h1, ws_take (Nat.le_refl _), ws_take (Nat.le_refl _), ws_take (Nat.le_refl _), h2]
  rw [show ws l n - ws l K + ws l K = ws l n by omega]
theorem ck_app {l : List Int} (hb : BOk l) (e : l.length % 2 = 0) : ck (l ++ [ck l / 256, ck l % 256]) = 0 := by
  have hc := ck_bd l
  have h0 := (ws_bd hb l.length).1
  have h1 := ws_app (l := l) (m := [ck l / 256, ck l % 256]) e 2
  have h2 : ws [ck l / 256, ck l % 256] 2 = ck l := by simp [ws]; omega
  have h3 : (l ++ [ck l / 256, ck l % 256]).length = l.length + 2 := by simp
  rw [h2] at h1
  have h4 : ck l = 65535 - foldC (ws l l.length) := rfl
  have h5 : ck (l ++ [ck l / 256, ck l % 256]) = 65535 - foldC (ws (l ++ [ck l / 256, ck l % 256]) (l ++ [ck l / 256, ck l % 256]).length) := rfl
  rw [h5, h3, h1, fold_ok (by omega), h4]
  exact fold_fix h0
theorem IsB.cellsJ {w : World} {g o c n : Nat} {l : List Int} (h : IsB w (.slice (some ⟨g, o, none⟩) n c) l) {i j c' : Nat} (_ : j ≤ l.length) (hc : j - i ≤ c') : IsCells w (.slice (some ⟨g, o + i, none⟩) (j - i) c') (j - i) (bc ((l.drop i).take (j - i))) := by
  have h' : IsCells w (.slice (some ⟨g, o, none⟩) l.length c) l.length (bc l) := by
    rcases h with ⟨h, _⟩ | ⟨g', o', c1, h1, h2, h3⟩
    · cases h
    · cases h1; exact .inr ⟨g, o, c, rfl, h2, h3⟩
  refine IsCells.sub h' ?_ hc
  unfold bc
  rw [List.map_take, List.map_drop]
  simp
theorem IsB.cells0 {w : World} {g o c n k c' : Nat} {l : List Int} (h : IsB w (.slice (some ⟨g, o, none⟩) n c) l) (hk : k ≤ l.length) (hc : k ≤ c') : IsCells w (.slice (some ⟨g, o, none⟩) k c') k (bc (l.take k)) := by
  have := IsB.front h hk hc
  unfold IsB at this
  rwa [show (l.take k).length = k by simp; omega] at this
set_option maxHeartbeats 8000000 in
theorem verifies_law (v : Value) (l : List Int) (at_ : Int) (w : World) (ht : Tops w) (hv0 : IsB w v l) (hb : BOk l) (hlen : l.length ≤ 9223372036854775807) (_ : -9223372036854775808 ≤ at_) (_ : at_ ≤ 9223372036854775807) :
    Calls Tryd.prog 4 #[v, .int .i64 at_] w fun e w' => e = .returned (.bool true) ∧ Below w.heap.size w w' := by
  have hO := own_roC hv0
  obtain ⟨a, c, rfl, hc, -, h0, h1⟩ := IsCells.view hv0
  obtain ⟨m, hm⟩ : ∃ m, l.length / 2 = m := ⟨_, rfl⟩
  have q1 : (l.length : Int) / 2 = (m : Int) := by omega
  obtain ⟨N, hN⟩ : ∃ N, m * 2 = N := ⟨_, rfl⟩
  have q2 : (m : Int) * 2 = (N : Int) := by omega
  have q3 : (N : Int) / 2 = (m : Int) := by omega
  have hmb : m ≤ 4611686018427387903 := by omega
  have hNb : N ≤ 9223372036854775806 := by omega
  by_cases hz : N = 0
  · subst hz
    clear hv0
    go_enter Tryd.func4, Tryd.ntmps4
    go_wp2_with (first | ((with_reducible refine is_load ?_); (first | (refine own_ldP hO (h := ?_)) | (refine own_ld (h := ?_)))) | ((with_reducible refine is_store ?_); (first | (refine own_stRp (hO := hO) (h := ?_); clear hO; intro wv hO) | (refine own_st1p (hO := hO) (h := ?_); clear hO; intro wv hO) | (refine own_stR (hO := hO) (h := ?_); clear hO; intro wv hO) | (refine own_st1 (hO := hO) (h := ?_); clear hO; intro wv hO))) | ((with_reducible refine is_append ?_); (first | (refine own_ap (o := ⟨some 34, _, _, _, _, _⟩) (hO := hO) (h := ?_); clear hO; intro g34 c34 wv hO) | (refine own_ap (o := ⟨some 38, _, _, _, _, _⟩) (hO := hO) (h := ?_); clear hO; intro g38 c38 wv hO) | (refine own_ap (o := ⟨some 43, _, _, _, _, _⟩) (hO := hO) (h := ?_); clear hO; intro g43 c43 wv hO) | (refine own_ap (o := ⟨some 50, _, _, _, _, _⟩) (hO := hO) (h := ?_); clear hO; intro g50 c50 wv hO))) | (go_at_call 18; refine (psane_any _ (hO.tops ht (by simp))).mono ?_; rintro e wv ⟨rfl, hb⟩; replace hO := hO.call hb; clear hb) | ((with_reducible refine is_load ?_); (refine own_ldW (hO := hO) (h := ?_))) | ((with_reducible refine is_store ?_); (refine own_stW (hO := hO) (h := ?_); clear hO; intro wv hO)))
    go_ret
    exact ⟨rfl, hO.keep.below⟩
  have d0 : ((N : Int) == 0) = false := by simpa using hz
  by_cases hbig : 5000 < N
  · have d1 : decide (5000 < (N : Int)) = true := by simp; omega
    clear hv0
    go_enter Tryd.func4, Tryd.ntmps4
    go_wp2_with (first | ((with_reducible refine is_load ?_); (first | (refine own_ldP hO (h := ?_)) | (refine own_ld (h := ?_)))) | ((with_reducible refine is_store ?_); (first | (refine own_stRp (hO := hO) (h := ?_); clear hO; intro wv hO) | (refine own_st1p (hO := hO) (h := ?_); clear hO; intro wv hO) | (refine own_stR (hO := hO) (h := ?_); clear hO; intro wv hO) | (refine own_st1 (hO := hO) (h := ?_); clear hO; intro wv hO))) | ((with_reducible refine is_append ?_); (first | (refine own_ap (o := ⟨some 34, _, _, _, _, _⟩) (hO := hO) (h := ?_); clear hO; intro g34 c34 wv hO) | (refine own_ap (o := ⟨some 38, _, _, _, _, _⟩) (hO := hO) (h := ?_); clear hO; intro g38 c38 wv hO) | (refine own_ap (o := ⟨some 43, _, _, _, _, _⟩) (hO := hO) (h := ?_); clear hO; intro g43 c43 wv hO) | (refine own_ap (o := ⟨some 50, _, _, _, _, _⟩) (hO := hO) (h := ?_); clear hO; intro g50 c50 wv hO))) | (go_at_call 18; refine (psane_any _ (hO.tops ht (by simp))).mono ?_; rintro e wv ⟨rfl, hb⟩; replace hO := hO.call hb; clear hb) | ((with_reducible refine is_load ?_); (refine own_ldW (hO := hO) (h := ?_))) | ((with_reducible refine is_store ?_); (refine own_stW (hO := hO) (h := ?_); clear hO; intro wv hO)))
    go_ret
    exact ⟨rfl, hO.keep.below⟩
  have d1 : decide (5000 < (N : Int)) = false := by simp; omega
  obtain ⟨g, o, rfl⟩ := h1 (by intro e; have := (h0 e).1; omega)
  clear h0 h1
  replace hO : Own [] w [] [] [⟨g, o, bc l⟩] w := hO
  have hNl : N ≤ l.length := by omega
  have he : N % 2 = 0 := by omega
  have hmod := fun w => mod_is at_ m w (by omega) (by omega)
  obtain ⟨r0, r1⟩ := modI_bd at_ (show (0 : Int) < m by omega)
  generalize modI at_ m = r at *
  obtain ⟨R, rfl⟩ := Int.eq_ofNat_of_zero_le r0
  obtain ⟨K, hK⟩ : ∃ K, R * 2 = K := ⟨_, rfl⟩
  have q4 : (R : Int) * 2 = (K : Int) := by omega
  have hKN : K < N := by omega
  have heK : K % 2 = 0 := by omega
  have hbt := hb.take N
  have hln : (l.take N).length = N := by simp; omega
  have T1 := ck_turn hNl he (Nat.le_of_lt hKN) heK
  have T2 := ck_app hbt (by rw [hln]; exact he)
  have hc1 := fun w hv => cksum_any (v := .slice (some ⟨g, o, none⟩) N c) (l := l.take N) w hv hbt (by rw [hln]; omega)
  obtain ⟨s0, s1⟩ := ck_bd (l.take N)
  have hb2 : BOk (l.take N ++ [ck (l.take N) / 256, ck (l.take N) % 256]) := hbt.append fun x hx => by
    simp only [List.mem_cons, List.not_mem_nil, or_false] at hx; omega
  have hb3 : BOk ((l.drop K).take (N - K) ++ l.take K) := (hb.part K _).append (hb.take K)
  have hl2 : (l.take N ++ [ck (l.take N) / 256, ck (l.take N) % 256]).length = N + 2 := by simp; omega
  have hl3 : ((l.drop K).take (N - K) ++ l.take K).length = N := by simp; omega
  have hc2 := fun v w hv => cksum_any (v := v) (l := l.take N ++ [ck (l.take N) / 256, ck (l.take N) % 256]) w hv hb2 (by rw [hl2]; omega)
  have hc3 := fun v w hv => cksum_any (v := v) (l := (l.drop K).take (N - K) ++ l.take K) w hv hb3 (by rw [hl3]; omega)
  rw [T2] at hc2
  rw [T1] at hc3
  have HT := Lib.hid (show bc (l.take N ++ [ck (l.take N) / 256, ck (l.take N) % 256]) = bc (l.take N) ++ [.int .u8 (ck (l.take N) / 256), .int .u8 (ck (l.take N) % 256)] by simp [bc])
  have HU := Lib.hid (show bc ((l.drop K).take (N - K) ++ l.take K) = bc ((l.drop K).take (N - K)) ++ bc (l.take K) from bc_append _ _)
  generalize l.take N ++ [ck (l.take N) / 256, ck (l.take N) % 256] = V at *
  generalize (l.drop K).take (N - K) ++ l.take K = U at *
  generalize ck (l.take N) = s at *
  have HV := Lib.hid hl2
  have HW := Lib.hid hl3
  clear T1 T2 hb hbt hb2 hb3 hl2 hl3 hm hK hln
  go_enter Tryd.func4, Tryd.ntmps4
  go_wp2_with (first | ((with_reducible refine is_load ?_); (first | (refine own_ldP hO (h := ?_)) | (refine own_ld (h := ?_)))) | ((with_reducible refine is_store ?_); (first | (refine own_stRp (hO := hO) (h := ?_); clear hO; intro wv hO) | (refine own_st1p (hO := hO) (h := ?_); clear hO; intro wv hO) | (refine own_stR (hO := hO) (h := ?_); clear hO; intro wv hO) | (refine own_st1 (hO := hO) (h := ?_); clear hO; intro wv hO))) | ((with_reducible refine is_append ?_); (first | (refine own_ap (o := ⟨some 34, _, _, _, _, _⟩) (hO := hO) (h := ?_); clear hO; intro g34 c34 wv hO) | (refine own_ap (o := ⟨some 38, _, _, _, _, _⟩) (hO := hO) (h := ?_); clear hO; intro g38 c38 wv hO) | (refine own_ap (o := ⟨some 43, _, _, _, _, _⟩) (hO := hO) (h := ?_); clear hO; intro g43 c43 wv hO) | (refine own_ap (o := ⟨some 50, _, _, _, _, _⟩) (hO := hO) (h := ?_); clear hO; intro g50 c50 wv hO))) | (go_at_call 14; (with_reducible refine (hc1 _ ?_).mono ?_); (focus exact IsB.front (IsCells.below hv0 hO.keep.below) (by omega) (by omega)); rintro e wv ⟨rfl, hb9⟩; replace hO := hO.call hb9; clear hb9 hc1) | (go_at_call 19; refine (hmod _).mono ?_; rintro e _ ⟨rfl, rfl⟩) | ((with_reducible refine is_load ?_); (refine own_ldW (hO := hO) (h := ?_))) | ((with_reducible refine is_store ?_); (refine own_stW (hO := hO) (h := ?_); clear hO; intro wv hO)))
  have hNK : N - K + K = N := by omega
  refine wp_region_any (by kernel_rfl) ?_
  replace hO := hO.drew
  refine wpAny_takePL 1 rfl (by kernel_rfl) (by kernel_rfl) (by kernel_rfl) (by intro c d v a w h; cases d <;> exact h) (by rfl) ?_
  (first | go_big_quiet_skip | (go_big_quiet_want; (go_big_quiet_op; (first | go_big_quiet_on | ((refine ⟨_, fun _ _ => rfl, ?_⟩); go_big_quiet_on))))); (refine wpQuiet_nil ?_); (try simp only [Act.put]); (try simp only [List.setIfInBounds_toArray, List.set_cons_zero, List.set_cons_succ])
  refine wpAny_takePL 2 rfl (by kernel_rfl) (by kernel_rfl) (by kernel_rfl) (by intro c d v a w h; cases d <;> exact h) (by rfl) ?_
  (first | go_big_quiet_skip | (go_big_quiet_want; (go_big_quiet_op; (first | go_big_quiet_on | ((refine ⟨_, fun _ _ => rfl, ?_⟩); go_big_quiet_on))))); (refine wpQuiet_nil ?_); (try simp only [Act.put]); (try simp only [List.setIfInBounds_toArray, List.set_cons_zero, List.set_cons_succ])
  refine wpAny_takePL 3 rfl (by kernel_rfl) (by kernel_rfl) (by kernel_rfl) (by intro c d v a w h; cases d <;> exact h) (by rfl) ?_
  (first | go_big_quiet_skip | (go_big_quiet_want; (go_big_quiet_op; (first | go_big_quiet_on | ((refine ⟨_, fun _ _ => rfl, ?_⟩); go_big_quiet_on))))); (refine wpQuiet_nil ?_); (try simp only [Act.put]); (try simp only [List.setIfInBounds_toArray, List.set_cons_zero, List.set_cons_succ])
  refine wpAny_takePL 4 rfl (by kernel_rfl) (by kernel_rfl) (by kernel_rfl) (by intro c d v a w h; cases d <;> exact h) (by rfl) ?_
  (first | go_big_quiet_skip | (go_big_quiet_want; (go_big_quiet_op; (first | go_big_quiet_on | ((refine ⟨_, fun _ _ => rfl, ?_⟩); go_big_quiet_on))))); (refine wpQuiet_nil ?_); (try simp only [Act.put]); (try simp only [List.setIfInBounds_toArray, List.set_cons_zero, List.set_cons_succ])
  refine wpAny_takePL 6 rfl (by kernel_rfl) (by kernel_rfl) (by kernel_rfl) (by intro c d v a w h; cases d <;> exact h) (by rfl) ?_
  (first | go_big_quiet_skip | (go_big_quiet_want; (go_big_quiet_op; (first | go_big_quiet_on | ((refine ⟨_, fun _ _ => rfl, ?_⟩); go_big_quiet_on))))); (refine wpQuiet_nil ?_); (try simp only [Act.put]); (try simp only [List.setIfInBounds_toArray, List.set_cons_zero, List.set_cons_succ])
  refine wpAny_takePL 7 rfl (by kernel_rfl) (by kernel_rfl) (by kernel_rfl) (by intro c d v a w h; cases d <;> exact h) (by rfl) ?_
  (first | go_big_quiet_skip | (go_big_quiet_want; (go_big_quiet_op; (first | go_big_quiet_on | ((refine ⟨_, fun _ _ => rfl, ?_⟩); go_big_quiet_on))))); (refine wpQuiet_nil ?_); (try simp only [Act.put]); (try simp only [List.setIfInBounds_toArray, List.set_cons_zero, List.set_cons_succ])
  refine wpAny_takePL 8 rfl (by kernel_rfl) (by kernel_rfl) (by kernel_rfl) (by intro c d v a w h; cases d <;> exact h) (by rfl) ?_
  (first | go_big_quiet_skip | (go_big_quiet_want; (go_big_quiet_op; (first | go_big_quiet_on | ((refine ⟨_, fun _ _ => rfl, ?_⟩); go_big_quiet_on))))); (refine wpQuiet_nil ?_); (try simp only [Act.put]); (try simp only [List.setIfInBounds_toArray, List.set_cons_zero, List.set_cons_succ])
  refine wpAny_all (rs := [0]) (by kernel_rfl) (by simp) (ord_cons ?_ ord_nil)
  rotate_left 1
  all_goals
    refine wpOp_of_listL rfl ?_
    (first | ((with_reducible refine is_load ?_); (first | (refine own_ld (h := ?_)))) | ((with_reducible refine is_store ?_); (first | (refine own_stR (hO := hO) (h := ?_); clear hO; intro wv hO) | (refine own_st1 (hO := hO) (h := ?_); clear hO; intro wv hO))) | ((with_reducible refine is_append ?_); (first | (refine own_ap (o := ⟨some 34, _, _, _, _, _⟩) (hO := hO) (h := ?_); clear hO; intro g34 c34 wv hO) | (refine own_ap (o := ⟨some 38, _, _, _, _, _⟩) (hO := hO) (h := ?_); clear hO; intro g38 c38 wv hO))) | ((with_reducible refine is_build ?_); (refine own_build0 (o := ⟨some 29, _, _, _, _, _⟩) hO (by rfl) rfl slice_u8 ?_); clear hO; intro n29 wv hO) | ((with_reducible refine is_append ?_); (refine own_appendP (o := ⟨some 34, _, _, _, _, _⟩) hO rfl rfl slice_u8 rfl rfl (src_of_cells (IsB.cellsJ (IsCells.below hv0 hO.keep.below) (i := K) (j := N) (c' := c - K) hNl (by omega)) (by simp [bc_length]; try omega)) (bc_one _) (fun _ => by repeat (first | exact UpdR.here | apply UpdR.there)) (by first | omega | (simp; omega)) (by unfold maxLen; first | omega | (simp; omega)) (by first | omega | (simp; done) | (simp; omega)) ?_); clear hO; intro g34 c34 wv hO) | ((with_reducible refine is_append ?_); (refine own_appendP (o := ⟨some 38, _, _, _, _, _⟩) hO rfl rfl slice_u8 rfl rfl (src_of_cells (IsB.cells0 (IsCells.below hv0 hO.keep.below) (k := K) (c' := c) (by omega) (by omega)) (by simp [bc_length]; try omega)) (bc_one _) (fun _ => by repeat (first | exact UpdR.here | apply UpdR.there)) (by first | omega | (simp; omega)) (by unfold maxLen; first | omega | (simp; omega)) (by first | omega | (simp; done) | (simp; omega)) ?_); clear hO; intro g38 c38 wv hO) | ((with_reducible refine is_load ?_); (refine own_ldW (hO := hO) (h := ?_))) | ((with_reducible refine is_store ?_); (refine own_stW (hO := hO) (h := ?_); clear hO; intro wv hO)) | ((refine wpList_step (fun K hK => ?_)); go_simp; (first | ((refine hK _ _ ?_); clear hK K)))); (try simp only [Act.put]); (try simp only [List.setIfInBounds_toArray, List.set_cons_zero, List.set_cons_succ])
    refine wpList_done (qk_intro ?_)
  refine wpAny_all (rs := [5]) (by kernel_rfl) (by simp) (ord_cons ?_ ord_nil)
  rotate_left 1
  all_goals
    refine wpOp_of_listL rfl ?_
    (first | ((with_reducible refine is_load ?_); (first | (refine own_ld (h := ?_)))) | ((with_reducible refine is_store ?_); (first | (refine own_stR (hO := hO) (h := ?_); clear hO; intro wv hO) | (refine own_st1 (hO := hO) (h := ?_); clear hO; intro wv hO))) | ((with_reducible refine is_append ?_); (first | (refine own_ap (o := ⟨some 34, _, _, _, _, _⟩) (hO := hO) (h := ?_); clear hO; intro g34 c34 wv hO) | (refine own_ap (o := ⟨some 38, _, _, _, _, _⟩) (hO := hO) (h := ?_); clear hO; intro g38 c38 wv hO))) | ((with_reducible refine is_build ?_); (refine own_build0 (o := ⟨some 29, _, _, _, _, _⟩) hO (by rfl) rfl slice_u8 ?_); clear hO; intro n29 wv hO) | ((with_reducible refine is_append ?_); (refine own_appendP (o := ⟨some 34, _, _, _, _, _⟩) hO rfl rfl slice_u8 rfl rfl (src_of_cells (IsB.cellsJ (IsCells.below hv0 hO.keep.below) (i := K) (j := N) (c' := c - K) hNl (by omega)) (by simp [bc_length]; try omega)) (bc_one _) (fun _ => by repeat (first | exact UpdR.here | apply UpdR.there)) (by first | omega | (simp; omega)) (by unfold maxLen; first | omega | (simp; omega)) (by first | omega | (simp; done) | (simp; omega)) ?_); clear hO; intro g34 c34 wv hO) | ((with_reducible refine is_append ?_); (refine own_appendP (o := ⟨some 38, _, _, _, _, _⟩) hO rfl rfl slice_u8 rfl rfl (src_of_cells (IsB.cells0 (IsCells.below hv0 hO.keep.below) (k := K) (c' := c) (by omega) (by omega)) (by simp [bc_length]; try omega)) (bc_one _) (fun _ => by repeat (first | exact UpdR.here | apply UpdR.there)) (by first | omega | (simp; omega)) (by unfold maxLen; first | omega | (simp; omega)) (by first | omega | (simp; done) | (simp; omega)) ?_); clear hO; intro g38 c38 wv hO) | ((with_reducible refine is_load ?_); (refine own_ldW (hO := hO) (h := ?_))) | ((with_reducible refine is_store ?_); (refine own_stW (hO := hO) (h := ?_); clear hO; intro wv hO)) | ((refine wpList_step (fun K hK => ?_)); go_simp; (first | ((refine hK _ _ ?_); clear hK K)))); (try simp only [Act.put]); (try simp only [List.setIfInBounds_toArray, List.set_cons_zero, List.set_cons_succ])
    refine wpList_done (qk_intro ?_)
  refine wpAny_all (rs := [9]) (by kernel_rfl) (by simp) (ord_cons ?_ ord_nil)
  rotate_left 1
  all_goals
    refine wpOp_of_listL rfl ?_
    (first | ((with_reducible refine is_load ?_); (first | (refine own_ld (h := ?_)))) | ((with_reducible refine is_store ?_); (first | (refine own_stR (hO := hO) (h := ?_); clear hO; intro wv hO) | (refine own_st1 (hO := hO) (h := ?_); clear hO; intro wv hO))) | ((with_reducible refine is_append ?_); (first | (refine own_ap (o := ⟨some 34, _, _, _, _, _⟩) (hO := hO) (h := ?_); clear hO; intro g34 c34 wv hO) | (refine own_ap (o := ⟨some 38, _, _, _, _, _⟩) (hO := hO) (h := ?_); clear hO; intro g38 c38 wv hO))) | ((with_reducible refine is_build ?_); (refine own_build0 (o := ⟨some 29, _, _, _, _, _⟩) hO (by rfl) rfl slice_u8 ?_); clear hO; intro n29 wv hO) | ((with_reducible refine is_append ?_); (refine own_appendP (o := ⟨some 34, _, _, _, _, _⟩) hO rfl rfl slice_u8 rfl rfl (src_of_cells (IsB.cellsJ (IsCells.below hv0 hO.keep.below) (i := K) (j := N) (c' := c - K) hNl (by omega)) (by simp [bc_length]; try omega)) (bc_one _) (fun _ => by repeat (first | exact UpdR.here | apply UpdR.there)) (by first | omega | (simp; omega)) (by unfold maxLen; first | omega | (simp; omega)) (by first | omega | (simp; done) | (simp; omega)) ?_); clear hO; intro g34 c34 wv hO) | ((with_reducible refine is_append ?_); (refine own_appendP (o := ⟨some 38, _, _, _, _, _⟩) hO rfl rfl slice_u8 rfl rfl (src_of_cells (IsB.cells0 (IsCells.below hv0 hO.keep.below) (k := K) (c' := c) (by omega) (by omega)) (by simp [bc_length]; try omega)) (bc_one _) (fun _ => by repeat (first | exact UpdR.here | apply UpdR.there)) (by first | omega | (simp; omega)) (by unfold maxLen; first | omega | (simp; omega)) (by first | omega | (simp; done) | (simp; omega)) ?_); clear hO; intro g38 c38 wv hO) | ((with_reducible refine is_load ?_); (refine own_ldW (hO := hO) (h := ?_))) | ((with_reducible refine is_store ?_); (refine own_stW (hO := hO) (h := ?_); clear hO; intro wv hO)) | ((refine wpList_step (fun K hK => ?_)); go_simp; (first | ((refine hK _ _ ?_); clear hK K)))); (try simp only [Act.put]); (try simp only [List.setIfInBounds_toArray, List.set_cons_zero, List.set_cons_succ])
    refine wpList_done (qk_intro ?_)
  refine wpAny_all (rs := [10]) (by kernel_rfl) (by simp) (ord_cons ?_ ord_nil)
  rotate_left 1
  all_goals
    refine wpOp_of_listL rfl ?_
    (first | ((with_reducible refine is_load ?_); (first | (refine own_ld (h := ?_)))) | ((with_reducible refine is_store ?_); (first | (refine own_stR (hO := hO) (h := ?_); clear hO; intro wv hO) | (refine own_st1 (hO := hO) (h := ?_); clear hO; intro wv hO))) | ((with_reducible refine is_append ?_); (first | (refine own_ap (o := ⟨some 34, _, _, _, _, _⟩) (hO := hO) (h := ?_); clear hO; intro g34 c34 wv hO) | (refine own_ap (o := ⟨some 38, _, _, _, _, _⟩) (hO := hO) (h := ?_); clear hO; intro g38 c38 wv hO))) | ((with_reducible refine is_build ?_); (refine own_build0 (o := ⟨some 29, _, _, _, _, _⟩) hO (by rfl) rfl slice_u8 ?_); clear hO; intro n29 wv hO) | ((with_reducible refine is_append ?_); (refine own_appendP (o := ⟨some 34, _, _, _, _, _⟩) hO rfl rfl slice_u8 rfl rfl (src_of_cells (IsB.cellsJ (IsCells.below hv0 hO.keep.below) (i := K) (j := N) (c' := c - K) hNl (by omega)) (by simp [bc_length]; try omega)) (bc_one _) (fun _ => by repeat (first | exact UpdR.here | apply UpdR.there)) (by first | omega | (simp; omega)) (by unfold maxLen; first | omega | (simp; omega)) (by first | omega | (simp; done) | (simp; omega)) ?_); clear hO; intro g34 c34 wv hO) | ((with_reducible refine is_append ?_); (refine own_appendP (o := ⟨some 38, _, _, _, _, _⟩) hO rfl rfl slice_u8 rfl rfl (src_of_cells (IsB.cells0 (IsCells.below hv0 hO.keep.below) (k := K) (c' := c) (by omega) (by omega)) (by simp [bc_length]; try omega)) (bc_one _) (fun _ => by repeat (first | exact UpdR.here | apply UpdR.there)) (by first | omega | (simp; omega)) (by unfold maxLen; first | omega | (simp; omega)) (by first | omega | (simp; done) | (simp; omega)) ?_); clear hO; intro g38 c38 wv hO) | ((with_reducible refine is_load ?_); (refine own_ldW (hO := hO) (h := ?_))) | ((with_reducible refine is_store ?_); (refine own_stW (hO := hO) (h := ?_); clear hO; intro wv hO)) | ((refine wpList_step (fun K hK => ?_)); go_simp; (first | ((refine hK _ _ ?_); clear hK K)))); (try simp only [Act.put]); (try simp only [List.setIfInBounds_toArray, List.set_cons_zero, List.set_cons_succ])
    refine wpList_done (qk_intro ?_)
  refine wpAny_done (by kernel_rfl) ?_ _
  rotate_left
  (try simp only [Nat.zero_add, List.nil_append, hNK] at hO)
  go_wp2_with (first | ((with_reducible refine is_load ?_); (first | (refine own_ldP hO (h := ?_)) | (refine own_ld (h := ?_)))) | ((with_reducible refine is_store ?_); (first | (refine own_stRp (hO := hO) (h := ?_); clear hO; intro wv hO) | (refine own_st1p (hO := hO) (h := ?_); clear hO; intro wv hO) | (refine own_stR (hO := hO) (h := ?_); clear hO; intro wv hO) | (refine own_st1 (hO := hO) (h := ?_); clear hO; intro wv hO))) | ((with_reducible refine is_append ?_); (first | (refine own_ap (o := ⟨some 34, _, _, _, _, _⟩) (hO := hO) (h := ?_); clear hO; intro g34 c34 wv hO) | (refine own_ap (o := ⟨some 38, _, _, _, _, _⟩) (hO := hO) (h := ?_); clear hO; intro g38 c38 wv hO) | (refine own_ap (o := ⟨some 43, _, _, _, _, _⟩) (hO := hO) (h := ?_); clear hO; intro g43 c43 wv hO) | (refine own_ap (o := ⟨some 50, _, _, _, _, _⟩) (hO := hO) (h := ?_); clear hO; intro g50 c50 wv hO))) | ((with_reducible refine is_build ?_); (refine own_build0 (o := ⟨some 39, _, _, _, _, _⟩) hO (by rfl) rfl slice_u8 ?_); clear hO; intro n39 wv hO) | ((with_reducible refine is_append ?_); (refine own_appendP (o := ⟨some 43, _, _, _, _, _⟩) hO rfl rfl slice_u8 rfl rfl (src_of_cells (IsB.cells0 (IsCells.below hv0 hO.keep.below) (k := N) (c' := c) (by omega) (by omega)) (by simp [bc_length]; try omega)) (bc_one _) (fun _ => by repeat (first | exact UpdR.here | apply UpdR.there)) (by first | omega | (simp; omega)) (by unfold maxLen; first | omega | (simp; omega)) (by first | omega | (simp; done) | (simp; omega)) ?_); clear hO; intro g43 c43 wv hO; (try simp only [Nat.zero_add, List.nil_append] at hO)) | ((with_reducible refine is_build ?_); (refine' own_buildP (o := ⟨some 49, _, _, _, _, _⟩) [.int .u8 (s / 256), .int .u8 (s % 256)] hO (by rfl) rfl slice_u8 rfl rfl (by rfl) (by decide) (by decide) ?_); clear hO; intro n49 wv hO) | (go_at_call 14; (try simp only [Nat.zero_add, List.nil_append, hNK] at hO); refine (hc2 _ _ (by unfold IsB; rw [HV.out, HT.out]; exact hO.rowIs List.mem_cons_self)).mono ?_; rintro e wv ⟨rfl, hb9⟩; replace hO := hO.call hb9; clear hb9 hc2) | (go_at_call 14; (try simp only [Nat.zero_add, List.nil_append, hNK] at hO); refine (hc3 _ _ (by unfold IsB; rw [HW.out, HU.out]; exact hO.rowIs (List.mem_cons_of_mem _ List.mem_cons_self))).mono ?_; rintro e wv ⟨rfl, hb9⟩; replace hO := hO.call hb9; clear hb9 hc3) | (go_at_call 18; refine (psane_any _ (hO.tops ht (by simp))).mono ?_; rintro e wv ⟨rfl, hb⟩; replace hO := hO.call hb; clear hb) | ((with_reducible refine is_load ?_); (refine own_ldW (hO := hO) (h := ?_))) | ((with_reducible refine is_store ?_); (refine own_stW (hO := hO) (h := ?_); clear hO; intro wv hO)))
  go_ret
  exact ⟨rfl, hO.keep.below⟩
end Go.Proofs.YtjfiipbjphabeaaDoor
