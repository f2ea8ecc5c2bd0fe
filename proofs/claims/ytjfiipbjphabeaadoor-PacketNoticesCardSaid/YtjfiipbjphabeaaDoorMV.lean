/- PacketNotices: the walk. -/
import Derived.Test.YtjfiipbjphabeaaDoorMT
import Derived.Test.YtjfiipbjphabeaaDoorMK
namespace Go.Proofs.YtjfiipbjphabeaaDoor
open Go.RowKit
set_option maxRecDepth 100000

theorem nt_mod (at_ : Int) {n : Nat} {m : Int} (hm : m = n) (h0 : 0 < n) (h1 : n ≤ 576) : ∃ K : Nat, K < n ∧ ∀ w, Calls Tryd.prog 19 #[.int .i64 at_, .int .i64 m] w fun e w' => e = .returned (.int .i64 (K : Int)) ∧ w = w' := by
  subst hm
  obtain ⟨r0, r1⟩ := modI_bd at_ (show (0 : Int) < n by omega)
  exact ⟨(modI at_ n).toNat, by omega, fun w => by rw [Int.toNat_of_nonneg r0]; exact mod_is at_ n w (by omega) (by omega)⟩
theorem nt_at (at_ : Int) {l : List Int} {p : Int} (hp : p = 6 ∨ p = 1) (h : (gt l 9 == p) = true) (h20 : 20 ≤ l.length) (h576 : l.length ≤ 576) : ∃ K : Nat, (K < 20 ∨ (K < l.length ∧ (gt l 9 = 6 ∨ gt l 9 = 1))) ∧ ∀ w, Calls Tryd.prog 19 #[.int .i64 at_, .int .i64 (l.length : Int)] w fun e w' => e = .returned (.int .i64 (K : Int)) ∧ w = w' := by
  obtain ⟨K, h1, h2⟩ := nt_mod at_ (n := l.length) rfl (by omega) h576
  exact ⟨K, .inr ⟨h1, by have : gt l 9 = p := by simpa using h
                         omega⟩, h2⟩
theorem nt_at0 (at_ : Int) (l : List Int) : ∃ K : Nat, (K < 20 ∨ (K < l.length ∧ (gt l 9 = 6 ∨ gt l 9 = 1))) ∧ ∀ w, Calls Tryd.prog 19 #[.int .i64 at_, .int .i64 20] w fun e w' => e = .returned (.int .i64 (K : Int)) ∧ w = w' := by
  obtain ⟨K, h1, h2⟩ := nt_mod at_ (n := 20) (m := 20) rfl (by omega) (by omega)
  exact ⟨K, .inl h1, h2⟩
set_option maxHeartbeats 8000000 in
theorem notices_law (sl : Value) (zs : List Int) (at_ bit : Int) (w : World) (ht : Tops w) (hZ : ZsOk sl zs) (hr : ∀ s ∈ roS sl (ints zs), w.rangeAt s.g s.o s.xs) (_ : -9223372036854775808 ≤ at_) (_ : at_ ≤ 9223372036854775807) (_ : -9223372036854775808 ≤ bit) (_ : bit ≤ 9223372036854775807) :
    Calls Tryd.prog 8 #[sl, .int .i64 at_, .int .i64 bit] w fun e w' => e = .returned (.bool true) ∧ Below w.heap.size w w' := by
  have hO := own_law hr
  obtain ⟨sa, sc, rfl, -⟩ := hZ.view
  go_enter Tryd.func8, Tryd.ntmps8
  (repeat' (first | go_skip | ((first | ((with_reducible apply wp_move_bool); (focus rfl)) | ((with_reducible apply wp_move_boolG); (focus rfl); (focus rfl))); intro cb hcb; (cases cb <;> (first | (with_reducible exact no_tf hcb) | (with_reducible exact no_ft hcb) | skip)); all_goals ((try simp only [Act.put]); (try simp only [List.setIfInBounds_toArray, List.set_cons_zero, List.set_cons_succ]))) | (go_big_may; (first | ((with_reducible refine is_load ?_); (first | (refine own_ldP hO (h := ?_)) | (refine own_ld (h := ?_)))) | ((with_reducible refine is_store ?_); (first | (refine own_stRp (hO := hO) (h := ?_); clear hO; intro wv hO) | (refine own_st1p (hO := hO) (h := ?_); clear hO; intro wv hO) | (refine own_stR (hO := hO) (h := ?_); clear hO; intro wv hO) | (refine own_st1 (hO := hO) (h := ?_); clear hO; intro wv hO))) | ((with_reducible refine is_alloc ?_); (first | (refine own_al (o := ⟨some 9, _, _, _, _, _⟩) (hO := hO) (h := ?_); clear hO; intro n9 wv hO))) | ((with_reducible refine is_append ?_); (first | (refine own_ap (o := ⟨some 15, _, _, _, _, _⟩) (hO := hO) (h := ?_); clear hO; intro g15 c15 wv hO))) | ((with_reducible refine is_build ?_); (refine own_build0 (o := ⟨some 11, _, _, _, _, _⟩) hO (by rfl) rfl slice_u8 ?_); clear hO; intro n11 wv hO) | (go_at_call 20; (with_reducible refine (new_any _ _ _).mono ?_); rintro e wv ⟨n, rfl, hB, hn, hb⟩; replace hO := hO.gain hb hB hn; have hT := hO.tapeIn List.mem_cons_self (by (intro s hs; repeat (first | exact hs | exact List.mem_append_left _ hs | apply List.mem_append_right | apply List.mem_cons_of_mem))) (Nat.zero_le _); clear hb hB hn) | (go_at_call 23; (with_reducible refine (pvalid2_any hZ (hO.tapeIn (by (repeat (first | exact List.mem_cons_self | refine List.mem_cons_of_mem _ ?_))) (by (intro s hs; repeat (first | exact hs | exact List.mem_append_left _ hs | apply List.mem_append_right | apply List.mem_cons_of_mem))) hT.le)).mono ?_); rintro e wv ⟨v, i1, rfl, ⟨l1, G1, O1, C1, rfl, hc1, hv1, hn1, ho1, hE1, hb1, g1, g2⟩, hk9, hT1⟩; have hx9 := hO.lt; replace hO := (hO.after (by (repeat (first | exact Upd.here | apply Upd.there))) hk9 hT1.blk).addB hv1 (fun hm => by have := hx9 _ hm; omega); have c9 := bc_at (l := l1) (k := 9) (by omega); clear hx9 hk9 hT1 hv1) | ((with_reducible refine is_append ?_); (refine own_appendP (o := ⟨some 15, _, _, _, _, _⟩) hO rfl rfl slice_u8 rfl rfl (src_of_cells (hO.roB (by (repeat (first | exact List.mem_cons_self | refine List.mem_cons_of_mem _ ?_))) hc1) (by simp [bc_length]; try omega)) (bc_one _) (fun _ => by repeat (first | exact UpdR.here | apply UpdR.there)) (by first | omega | (simp; omega)) (by unfold maxLen; first | omega | (simp; omega)) (by first | omega | (simp; done) | (simp; omega)) ?_); clear hO; intro g15 c15 wv hO; (try simp only [Nat.zero_add, List.nil_append] at hO)) | ((with_reducible refine is_load ?_); (refine own_ldW (hO := hO) (h := ?_))) | ((with_reducible refine is_store ?_); (refine own_stW (hO := hO) (h := ?_); clear hO; intro wv hO)))) | go_values | go_skip | go_guarded | go_step | go_upon | go_back | (simp only at *; go_simp) | (go_values <;> (try go_simp)) | (go_ite <;> go_prune <;> (try go_simp)) | (split <;> (first | (rename_i hx; exact (hx _ rfl).elim) | go_prune))))
  all_goals
    first
    | (have hz := nt_at at_ (.inr rfl) ‹(gt l1 9 == 1) = true› g1 g2; obtain ⟨K, hKk, hm1⟩ := hz)
    | (have hz := nt_at at_ (.inl rfl) ‹(gt l1 9 == 6) = true› g1 g2; obtain ⟨K, hKk, hm1⟩ := hz)
    | (obtain ⟨K, hKk, hm1⟩ := nt_at0 at_ l1)
    have hm2 := fun w => mod_is bit 8 w (by omega) (by omega)
    obtain ⟨u0, u1⟩ := modI_bd bit (show (0 : Int) < 8 by omega)
    generalize modI bit 8 = u at *
    obtain ⟨B, rfl⟩ := Int.eq_ofNat_of_zero_le u0
    have cK := bc_at (l := l1) (k := K) (by omega)
    have hpw : (2 : Int) ^ B % 256 = ((2 ^ B : Nat) : Int) := by
      have : B = 0 ∨ B = 1 ∨ B = 2 ∨ B = 3 ∨ B = 4 ∨ B = 5 ∨ B = 6 ∨ B = 7 := by omega
      rcases this with rfl | rfl | rfl | rfl | rfl | rfl | rfl | rfl <;> rfl
    obtain ⟨x0, x1⟩ := gt_bd hb1 K
    obtain ⟨y0, y1, yn⟩ := flip_bit x0 x1 (show B < 8 by omega)
    rw [← hpw] at y0 y1 yn
    obtain ⟨Z, hZ1⟩ : ∃ Z, l1.set K (bits BinOp.xor IntKind.u8 (gt l1 K) ((2 : Int) ^ B % 256)) = Z := ⟨_, rfl⟩
    have hEZ : errF Z ≠ 0 := by rw [← hZ1]; exact noticed hb1 hE1 hKk y0 y1 yn
    have hbZ : BOk Z := by rw [← hZ1]; exact hb1.set K y0 y1
    have hLZ : Z.length = l1.length := by rw [← hZ1]; simp
    have HZ := Lib.hid hZ1
    have qZ : (errF Z != 0) = true := by simpa using hEZ
    have hdZ := fun w hv => Calls.mono (decode_any (v := .slice (some ⟨g15, 0, none⟩) l1.length c15) (l := Z) w hv hbZ (by omega)) (fun e w' h => dec_at h (decF_err hEZ) rfl)
    generalize errF Z = EZ at *
    clear y0 y1 yn hpw hZ1 x0 x1 hEZ
    (try simp only [Act.put]); (try simp only [List.setIfInBounds_toArray, List.set_cons_zero, List.set_cons_succ])
    refine wp_region_any (by kernel_rfl) ?_
    replace hO := hO.drew
    refine wpAny_takePL 0 rfl (by kernel_rfl) (by kernel_rfl) (by kernel_rfl) (by intro c d v a w h; cases d <;> exact h) (by rfl) ?_
    (first | go_big_quiet_skip | (go_big_quiet_want; (go_big_quiet_op; (first | go_big_quiet_on | ((refine ⟨_, fun _ _ => rfl, ?_⟩); go_big_quiet_on))))); (refine wpQuiet_nil ?_); (try simp only [Act.put]); (try simp only [List.setIfInBounds_toArray, List.set_cons_zero, List.set_cons_succ])
    refine wpAny_takePL 1 rfl (by kernel_rfl) (by kernel_rfl) (by kernel_rfl) (by intro c d v a w h; cases d <;> exact h) (by rfl) ?_
    (first | go_big_quiet_skip | (go_big_quiet_want; (go_big_quiet_op; (first | go_big_quiet_on | ((refine ⟨_, fun _ _ => rfl, ?_⟩); go_big_quiet_on))))); (refine wpQuiet_nil ?_); (try simp only [Act.put]); (try simp only [List.setIfInBounds_toArray, List.set_cons_zero, List.set_cons_succ])
    refine wpAny_takePL 2 rfl (by kernel_rfl) (by kernel_rfl) (by kernel_rfl) (by intro c d v a w h; cases d <;> exact h) (by rfl) ?_
    (first | go_big_quiet_skip | (go_big_quiet_want; (go_big_quiet_op; (first | go_big_quiet_on | ((refine ⟨_, fun _ _ => rfl, ?_⟩); go_big_quiet_on))))); (refine wpQuiet_nil ?_); (try simp only [Act.put]); (try simp only [List.setIfInBounds_toArray, List.set_cons_zero, List.set_cons_succ])
    refine wpAny_takePL 6 rfl (by kernel_rfl) (by kernel_rfl) (by kernel_rfl) (by intro c d v a w h; cases d <;> exact h) (by rfl) ?_
    (first | go_big_quiet_skip | (go_big_quiet_want; (go_big_quiet_op; (first | go_big_quiet_on | ((refine ⟨_, fun _ _ => rfl, ?_⟩); go_big_quiet_on))))); (refine wpQuiet_nil ?_); (try simp only [Act.put]); (try simp only [List.setIfInBounds_toArray, List.set_cons_zero, List.set_cons_succ])
    refine wpAny_all (rs := [3]) (by kernel_rfl) (by simp) (ord_cons ?_ ord_nil)
    rotate_left 1
    all_goals
      refine wpOp_of_listL rfl ?_
      (first | ((with_reducible refine is_load ?_); (first | (refine own_ld (h := ?_)))) | ((with_reducible refine is_store ?_); (first | (refine own_stR (hO := hO) (h := ?_); clear hO; intro wv hO) | (refine own_st1 (hO := hO) (h := ?_); clear hO; intro wv hO))) | ((with_reducible refine is_load ?_); (refine own_ldW (hO := hO) (h := ?_))) | ((with_reducible refine is_store ?_); (refine own_stW (hO := hO) (h := ?_); clear hO; intro wv hO)) | ((refine wpList_step (fun K hK => ?_)); go_simp; (first | ((refine hK _ _ ?_); clear hK K) | ((first | (go_at_call 19; (with_reducible refine (hm1 _).mono ?_); rintro e _ ⟨rfl, rfl⟩) | (go_at_call 19; (with_reducible refine (hm2 _).mono ?_); rintro e _ ⟨rfl, rfl⟩)); (try simp only []); (refine hK _ _ ?_); clear hK K)))); (try simp only [Act.put]); (try simp only [List.setIfInBounds_toArray, List.set_cons_zero, List.set_cons_succ])
      refine wpList_done (qk_intro ?_)
    refine wpAny_takePL 4 rfl (by kernel_rfl) (by kernel_rfl) (by kernel_rfl) (by intro c d v a w h; cases d <;> exact h) (by rfl) ?_
    (first | go_big_quiet_skip | (go_big_quiet_want; (go_big_quiet_op; (first | go_big_quiet_on | ((refine ⟨_, fun _ _ => rfl, ?_⟩); go_big_quiet_on))))); (refine wpQuiet_nil ?_); (try simp only [Act.put]); (try simp only [List.setIfInBounds_toArray, List.set_cons_zero, List.set_cons_succ])
    refine wpAny_all (rs := [5, 7]) (by kernel_rfl) (by simp) (ord_cons ?_ (ord_cons ?_ ord_nil))
    rotate_left 2
    all_goals
      refine wpOp_of_listL rfl ?_
      (first | ((with_reducible refine is_load ?_); (first | (refine own_ld (h := ?_)))) | ((with_reducible refine is_store ?_); (first | (refine own_stR (hO := hO) (h := ?_); clear hO; intro wv hO) | (refine own_st1 (hO := hO) (h := ?_); clear hO; intro wv hO))) | ((with_reducible refine is_load ?_); (refine own_ldW (hO := hO) (h := ?_))) | ((with_reducible refine is_store ?_); (refine own_stW (hO := hO) (h := ?_); clear hO; intro wv hO)) | ((refine wpList_step (fun K hK => ?_)); go_simp; (first | ((refine hK _ _ ?_); clear hK K) | ((first | (go_at_call 19; (with_reducible refine (hm1 _).mono ?_); rintro e _ ⟨rfl, rfl⟩) | (go_at_call 19; (with_reducible refine (hm2 _).mono ?_); rintro e _ ⟨rfl, rfl⟩)); (try simp only []); (refine hK _ _ ?_); clear hK K)))); (try simp only [Act.put]); (try simp only [List.setIfInBounds_toArray, List.set_cons_zero, List.set_cons_succ])
      refine wpList_done (qk_intro ?_)
    refine wpAny_all (rs := [7]) (by kernel_rfl) (by simp) (ord_cons ?_ ord_nil)
    rotate_left 1
    refine wpAny_takePL 8 rfl (by kernel_rfl) (by kernel_rfl) (by kernel_rfl) (by intro c d v a w h; cases d <;> exact h) (by rfl) ?_
    (first | go_big_quiet_skip | (go_big_quiet_want; (go_big_quiet_op; (first | go_big_quiet_on | ((refine ⟨_, fun _ _ => rfl, ?_⟩); go_big_quiet_on))))); (refine wpQuiet_nil ?_); (try simp only [Act.put]); (try simp only [List.setIfInBounds_toArray, List.set_cons_zero, List.set_cons_succ])
    refine wpAny_takePL 9 rfl (by kernel_rfl) (by kernel_rfl) (by kernel_rfl) (by intro c d v a w h; cases d <;> exact h) (by rfl) ?_
    (first | go_big_quiet_skip | (go_big_quiet_want; (go_big_quiet_op; (first | go_big_quiet_on | ((refine ⟨_, fun _ _ => rfl, ?_⟩); go_big_quiet_on))))); (refine wpQuiet_nil ?_); (try simp only [Act.put]); (try simp only [List.setIfInBounds_toArray, List.set_cons_zero, List.set_cons_succ])
    refine wpAny_all (rs := [5]) (by kernel_rfl) (by simp) (ord_cons ?_ ord_nil)
    rotate_left 1
    all_goals
      refine wpOp_of_listL rfl ?_
      (first | ((with_reducible refine is_load ?_); (first | (refine own_ld (h := ?_)))) | ((with_reducible refine is_store ?_); (first | (refine own_stR (hO := hO) (h := ?_); clear hO; intro wv hO) | (refine own_st1 (hO := hO) (h := ?_); clear hO; intro wv hO))) | ((with_reducible refine is_load ?_); (refine own_ldW (hO := hO) (h := ?_))) | ((with_reducible refine is_store ?_); (refine own_stW (hO := hO) (h := ?_); clear hO; intro wv hO)) | ((refine wpList_step (fun K hK => ?_)); go_simp; (first | ((refine hK _ _ ?_); clear hK K) | ((first | (go_at_call 19; (with_reducible refine (hm1 _).mono ?_); rintro e _ ⟨rfl, rfl⟩) | (go_at_call 19; (with_reducible refine (hm2 _).mono ?_); rintro e _ ⟨rfl, rfl⟩)); (try simp only []); (refine hK _ _ ?_); clear hK K)))); (try simp only [Act.put]); (try simp only [List.setIfInBounds_toArray, List.set_cons_zero, List.set_cons_succ])
      refine wpList_done (qk_intro ?_)
    refine wpAny_takePL 8 rfl (by kernel_rfl) (by kernel_rfl) (by kernel_rfl) (by intro c d v a w h; cases d <;> exact h) (by rfl) ?_
    (first | go_big_quiet_skip | (go_big_quiet_want; (go_big_quiet_op; (first | go_big_quiet_on | ((refine ⟨_, fun _ _ => rfl, ?_⟩); go_big_quiet_on))))); (refine wpQuiet_nil ?_); (try simp only [Act.put]); (try simp only [List.setIfInBounds_toArray, List.set_cons_zero, List.set_cons_succ])
    refine wpAny_takePL 9 rfl (by kernel_rfl) (by kernel_rfl) (by kernel_rfl) (by intro c d v a w h; cases d <;> exact h) (by rfl) ?_
    (first | go_big_quiet_skip | (go_big_quiet_want; (go_big_quiet_op; (first | go_big_quiet_on | ((refine ⟨_, fun _ _ => rfl, ?_⟩); go_big_quiet_on))))); (refine wpQuiet_nil ?_); (try simp only [Act.put]); (try simp only [List.setIfInBounds_toArray, List.set_cons_zero, List.set_cons_succ])
    refine wpAny_takePL 10 rfl (by kernel_rfl) (by kernel_rfl) (by kernel_rfl) (by intro c d v a w h; cases d <;> exact h) (by rfl) ?_
    (first | go_big_quiet_skip | (go_big_quiet_want; (go_big_quiet_op; (first | go_big_quiet_on | ((refine ⟨_, fun _ _ => rfl, ?_⟩); go_big_quiet_on))))); (refine wpQuiet_nil ?_); (try simp only [Act.put]); (try simp only [List.setIfInBounds_toArray, List.set_cons_zero, List.set_cons_succ])
    refine wpAny_takePL 11 rfl (by kernel_rfl) (by kernel_rfl) (by kernel_rfl) (by intro c d v a w h; cases d <;> exact h) (by rfl) ?_
    (first | go_big_quiet_skip | (go_big_quiet_want; (go_big_quiet_op; (first | go_big_quiet_on | ((refine ⟨_, fun _ _ => rfl, ?_⟩); go_big_quiet_on))))); (refine wpQuiet_nil ?_); (try simp only [Act.put]); (try simp only [List.setIfInBounds_toArray, List.set_cons_zero, List.set_cons_succ])
    refine wpAny_all (rs := [12]) (by kernel_rfl) (by simp) (ord_cons ?_ ord_nil)
    rotate_left 1
    refine wpAny_takePL 10 rfl (by kernel_rfl) (by kernel_rfl) (by kernel_rfl) (by intro c d v a w h; cases d <;> exact h) (by rfl) ?_
    (first | go_big_quiet_skip | (go_big_quiet_want; (go_big_quiet_op; (first | go_big_quiet_on | ((refine ⟨_, fun _ _ => rfl, ?_⟩); go_big_quiet_on))))); (refine wpQuiet_nil ?_); (try simp only [Act.put]); (try simp only [List.setIfInBounds_toArray, List.set_cons_zero, List.set_cons_succ])
    refine wpAny_takePL 11 rfl (by kernel_rfl) (by kernel_rfl) (by kernel_rfl) (by intro c d v a w h; cases d <;> exact h) (by rfl) ?_
    (first | go_big_quiet_skip | (go_big_quiet_want; (go_big_quiet_op; (first | go_big_quiet_on | ((refine ⟨_, fun _ _ => rfl, ?_⟩); go_big_quiet_on))))); (refine wpQuiet_nil ?_); (try simp only [Act.put]); (try simp only [List.setIfInBounds_toArray, List.set_cons_zero, List.set_cons_succ])
    refine wpAny_all (rs := [12]) (by kernel_rfl) (by simp) (ord_cons ?_ ord_nil)
    rotate_left 1
    all_goals
      refine wpOp_of_listL rfl ?_
      (first | ((with_reducible refine is_load ?_); (first | (refine own_ld (h := ?_)))) | ((with_reducible refine is_store ?_); (first | (refine own_stR (hO := hO) (h := ?_); clear hO; intro wv hO) | (refine own_st1 (hO := hO) (h := ?_); clear hO; intro wv hO))) | ((with_reducible refine is_load ?_); (refine own_ldW (hO := hO) (h := ?_))) | ((with_reducible refine is_store ?_); (refine own_stW (hO := hO) (h := ?_); clear hO; intro wv hO)) | ((refine wpList_step (fun K hK => ?_)); go_simp; (first | ((refine hK _ _ ?_); clear hK K) | ((first | (go_at_call 19; (with_reducible refine (hm1 _).mono ?_); rintro e _ ⟨rfl, rfl⟩) | (go_at_call 19; (with_reducible refine (hm2 _).mono ?_); rintro e _ ⟨rfl, rfl⟩)); (try simp only []); (refine hK _ _ ?_); clear hK K)))); (try simp only [Act.put]); (try simp only [List.setIfInBounds_toArray, List.set_cons_zero, List.set_cons_succ])
      refine wpList_done (qk_intro ?_)
    refine wpAny_done (by kernel_rfl) ?_ _
    rotate_left
    refine wpAny_done (by kernel_rfl) ?_ _
    rotate_left
    all_goals
      rw [HZ.out] at hO
      go_wp2_with (first | ((with_reducible refine is_load ?_); (first | (refine own_ldP hO (h := ?_)) | (refine own_ld (h := ?_)))) | ((with_reducible refine is_store ?_); (first | (refine own_stRp (hO := hO) (h := ?_); clear hO; intro wv hO) | (refine own_st1p (hO := hO) (h := ?_); clear hO; intro wv hO) | (refine own_stR (hO := hO) (h := ?_); clear hO; intro wv hO) | (refine own_st1 (hO := hO) (h := ?_); clear hO; intro wv hO))) | ((with_reducible refine is_alloc ?_); (first | (refine own_al (o := ⟨some 9, _, _, _, _, _⟩) (hO := hO) (h := ?_); clear hO; intro n9 wv hO))) | ((with_reducible refine is_append ?_); (first | (refine own_ap (o := ⟨some 15, _, _, _, _, _⟩) (hO := hO) (h := ?_); clear hO; intro g15 c15 wv hO))) | (go_at_call 28; (with_reducible refine (hdZ _ ?_).mono ?_); (focus (show IsB _ _ Z; unfold IsB; rw [hLZ]; exact hO.rowIs (by (repeat (first | exact List.mem_cons_self | refine List.mem_cons_of_mem _ ?_))))); rintro e wv ⟨v6, rfl, hv6, hn9, hb9⟩; replace hO := hO.call hb9; clear hb9 hn9; obtain ⟨a6, c6, rfl, -⟩ := IsCells.view hv6) | (go_at_call 18; refine (psane_any _ (hO.tops ht (by simp))).mono ?_; rintro e wv ⟨rfl, hb⟩; replace hO := hO.call hb; clear hb) | ((with_reducible refine is_load ?_); (refine own_ldW (hO := hO) (h := ?_))) | ((with_reducible refine is_store ?_); (refine own_stW (hO := hO) (h := ?_); clear hO; intro wv hO)))
      go_ret
      exact ⟨rfl, hO.keep.below⟩
end Go.Proofs.YtjfiipbjphabeaaDoor
