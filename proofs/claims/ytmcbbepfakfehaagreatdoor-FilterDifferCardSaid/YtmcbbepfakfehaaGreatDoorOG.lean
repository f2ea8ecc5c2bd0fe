/- The reference's Contains; the law's examples (ssh, sane). -/
import Derived.Test.YtmcbbepfakfehaaGreatDoorOE
import Derived.Test.YtmcbbepfakfehaaGreatDoorOD
import Derived.Test.YtmcbbepfakfehaaGreatDoorOC
import Derived.Test.YtmcbbepfakfehaaGreatDoorMV
namespace Go.Proofs.YtmcbbepfakfehaaGreatDoor
open Go.RowKit
set_option maxRecDepth 100000
def sshB : Bx := fullBx.set 4 ⟨22, 22⟩
set_option maxHeartbeats 2000000 in
theorem ssh_any (w : World) : Calls Tryz.prog 23 #[] w fun e w' => e = .returned (bv sshB) ∧ Below w.heap.size w w' := by
 have hO := own_start [] w
 have hfull := rfull_any
 have hp : putAt (bcs fullBx) 8 [.int .u32 22, .int .u32 22] = bcs sshB := rfl
 generalize sshB = bS at *
 go_enter Tryz.func23, Tryz.ntmps23
 go_wp2_with (first | ((with_reducible refine is_load ?_); refine own_ldT (h := ?_)) | ((with_reducible refine is_store ?_); (first | refine own_stRT (hO := hO) (h := ?_) | refine own_st1T (hO := hO) (h := ?_)); clear hO; intro wv hO) | ((with_reducible refine is_alloc ?_); (first | (refine own_alT (o := ⟨some 0, _, _, _, _, _⟩) (hO := hO) (h := ?_); clear hO; intro n0 wv hO) | (refine own_alT (o := ⟨some 1, _, _, _, _, _⟩) (hO := hO) (h := ?_); clear hO; intro n1 wv hO))) | (go_at_call 24; refine (hfull _).mono ?_; rintro e wv ⟨rfl, hb⟩; replace hO := hO.call hb; clear hb))
 rw [hp] at hO
 exact bodyPost_ret (own_res_cell hO Tryz.results23 rfl (by (repeat (first | exact List.mem_cons_self | refine List.mem_cons_of_mem _ ?_))) (by (exact row_len (by (with_reducible (first | exact row_Box | exact row_Range | exact row_Header | exact row_Five | exact row_Tape | exact row_Prefix | exact row_Truths | exact row_Packet | exact row_Group | exact row_Rule))) (by rfl))) rfl) rfl ⟨rfl, hO.keep.below⟩
theorem perm_san : (permF [(sshB, false), (fullBx, true)]).map List.length = some 2 := by decide +kernel
theorem prune_san : pruneG [] [(fullBx, true), (sshB, false)] = some [(fullBx, true)] := by decide +kernel
theorem dec_san : decP [(sshB, false), (fullBx, true)] ⟨0, 0, 0, 0, 23⟩ = true ∧ decI [(sshB, false), (fullBx, true)] ⟨0, 0, 0, 0, 23⟩ = 1 := by decide +kernel
theorem valid_sanT : validT [(sshB, false), (fullBx, true)] = true := by decide +kernel
theorem sshB_ok : sshB.ok := fun k hk => by rcases five hk with rfl | rfl | rfl | rfl | rfl <;> decide
theorem okT_san : okT [(sshB, false), (fullBx, true)] := fun r hr => by
 rcases List.mem_cons.1 hr with rfl | hr
 ·exact sshB_ok
 ·rw [List.mem_singleton.1 hr]; exact fullBx_ok
theorem okT_san2 : okT [(fullBx, true), (sshB, false)] := fun r hr => by
 rcases List.mem_cons.1 hr with rfl | hr
 ·exact fullBx_ok
 ·rw [List.mem_singleton.1 hr]; exact sshB_ok
theorem two_tableC {M : List Nat} {w0 w : World} {X : List Chunk} {R : List Row} {S : List Ro} (hO : Own M w0 X R S w) {n : Nat} {a b : Rul} {t : TypeId} (hm : (⟨n, flat [rlv a, rlv b], t⟩ : Chunk) ∈ X) : IsTable w (.slice (some ⟨n, 0, none⟩) 2 2) [a, b] :=
 own_tableC hO (l := [a, b]) hm (by simp [flat, cellsR, Value.cells]) (by simp)
set_option maxHeartbeats 1000000 in
theorem sane8_any (w : World) (ht : Tops w) : Calls Tryz.prog 11 #[] w fun e w' => e = .returned (.bool true) ∧ Below w.heap.size w w' := by
 have hO := own_tops ht
 have hfull : ∀ w, Calls Tryz.prog 24 #[] w fun e w' => e = .returned (.agg #[.int .u32 0, .int .u32 4294967295, .int .u32 0, .int .u32 4294967295, .int .u32 0, .int .u32 255, .int .u32 0, .int .u32 65535, .int .u32 0, .int .u32 65535]) ∧ Below w.heap.size w w' := rfull_any
 have hssh : ∀ w, Calls Tryz.prog 23 #[] w fun e w' => e = .returned (.agg #[.int .u32 0, .int .u32 4294967295, .int .u32 0, .int .u32 4294967295, .int .u32 0, .int .u32 255, .int .u32 0, .int .u32 65535, .int .u32 22, .int .u32 22]) ∧ Below w.heap.size w w' := ssh_any
 have h1 := fun v w ht hv => fPermitted_any (vt := v) (t := [(sshB, false), (fullBx, true)]) w ht hv okT_san (by simp)
 obtain ⟨z, hz, hz2⟩ : ∃ z, permF [(sshB, false), (fullBx, true)] = some z ∧ z.length = 2 := by
  have h := perm_san
  cases hp : permF [(sshB, false), (fullBx, true)] with
  | none => rw [hp] at h; cases h
  | some z => rw [hp] at h; exact ⟨z, rfl, Option.some.inj h⟩
 rw [hz] at h1
 clear hz
 have h2 := fun v w ht hv => fPrune_any (vt := v) (t := [(fullBx, true), (sshB, false)]) w ht hv okT_san2 (by simp)
 rw [prune_san] at h2
 have h3 : ∀ v w, Tops w → IsTable w v [(sshB, false), (fullBx, true)] → Calls Tryz.prog 12 #[v, .agg #[.int .u32 0, .int .u32 0, .int .u8 0, .int .u16 0, .int .u16 23]] w fun e w' => e = .returned (.tuple #[.bool true, .int .i64 1]) ∧ Below w.heap.size w w' := fun v w ht hvt => by
  have h := fDecide_any (vt := v) (t := [(sshB, false), (fullBx, true)]) ⟨0, 0, 0, 0, 23⟩ w ht (by unfold Hd.ok; decide) hvt (by simp)
  rw [dec_san.1, dec_san.2] at h
  exact h
 have h4 := fun v w ht hv => fValid_any (vt := v) (t := [(sshB, false), (fullBx, true)]) w ht hv (by simp)
 rw [valid_sanT] at h4
 have hl1 : [(fullBx, true)].length = 1 := rfl
 have t0 : List.take ([.int .u32 0, .int .u32 4294967295, .int .u32 0, .int .u32 4294967295, .int .u32 0, .int .u32 255, .int .u32 0, .int .u32 65535, .int .u32 22, .int .u32 22, .bool false] : List Value).length (List.drop 0 (flat [.agg #[.int .u32 0, .int .u32 4294967295, .int .u32 0, .int .u32 4294967295, .int .u32 0, .int .u32 255, .int .u32 0, .int .u32 65535, .int .u32 22, .int .u32 22, .bool false], .agg #[.int .u32 0, .int .u32 4294967295, .int .u32 0, .int .u32 4294967295, .int .u32 0, .int .u32 255, .int .u32 0, .int .u32 65535, .int .u32 0, .int .u32 65535, .bool true]])) = [.int .u32 0, .int .u32 4294967295, .int .u32 0, .int .u32 4294967295, .int .u32 0, .int .u32 255, .int .u32 0, .int .u32 65535, .int .u32 22, .int .u32 22, .bool false] := rfl
 have t1 : List.take ([.int .u32 0, .int .u32 4294967295, .int .u32 0, .int .u32 4294967295, .int .u32 0, .int .u32 255, .int .u32 0, .int .u32 65535, .int .u32 0, .int .u32 65535, .bool true] : List Value).length (List.drop 11 (flat [.agg #[.int .u32 0, .int .u32 4294967295, .int .u32 0, .int .u32 4294967295, .int .u32 0, .int .u32 255, .int .u32 0, .int .u32 65535, .int .u32 22, .int .u32 22, .bool false], .agg #[.int .u32 0, .int .u32 4294967295, .int .u32 0, .int .u32 4294967295, .int .u32 0, .int .u32 255, .int .u32 0, .int .u32 65535, .int .u32 0, .int .u32 65535, .bool true]])) = [.int .u32 0, .int .u32 4294967295, .int .u32 0, .int .u32 4294967295, .int .u32 0, .int .u32 255, .int .u32 0, .int .u32 65535, .int .u32 0, .int .u32 65535, .bool true] := rfl
 have hTA : ∀ (wq : World) (n : Nat) (X' : List Chunk) (R' : List Row) (S' : List Ro), Own [] w (⟨n, flat [.agg #[.int .u32 0, .int .u32 4294967295, .int .u32 0, .int .u32 4294967295, .int .u32 0, .int .u32 255, .int .u32 0, .int .u32 65535, .int .u32 22, .int .u32 22, .bool false], .agg #[.int .u32 0, .int .u32 4294967295, .int .u32 0, .int .u32 4294967295, .int .u32 0, .int .u32 255, .int .u32 0, .int .u32 65535, .int .u32 0, .int .u32 65535, .bool true]], 53⟩ :: X') R' S' wq → IsTable wq (.slice (some ⟨n, 0, none⟩) 2 2) [(sshB, false), (fullBx, true)] := fun wq n X' R' S' h => two_tableC h List.mem_cons_self
 have hTB : ∀ (wq : World) (n : Nat) (X' : List Chunk) (R' : List Row) (S' : List Ro), Own [] w (⟨n, flat [.agg #[.int .u32 0, .int .u32 4294967295, .int .u32 0, .int .u32 4294967295, .int .u32 0, .int .u32 255, .int .u32 0, .int .u32 65535, .int .u32 0, .int .u32 65535, .bool true], .agg #[.int .u32 0, .int .u32 4294967295, .int .u32 0, .int .u32 4294967295, .int .u32 0, .int .u32 255, .int .u32 0, .int .u32 65535, .int .u32 22, .int .u32 22, .bool false]], 53⟩ :: X') R' S' wq → IsTable wq (.slice (some ⟨n, 0, none⟩) 2 2) [(fullBx, true), (sshB, false)] := fun wq n X' R' S' h => two_tableC h List.mem_cons_self
 have hTC : ∀ (wq : World) (c : Chunk) (n : Nat) (X' : List Chunk) (R' : List Row) (S' : List Ro), Own [] w (c :: ⟨n, flat [.agg #[.int .u32 0, .int .u32 4294967295, .int .u32 0, .int .u32 4294967295, .int .u32 0, .int .u32 255, .int .u32 0, .int .u32 65535, .int .u32 22, .int .u32 22, .bool false], .agg #[.int .u32 0, .int .u32 4294967295, .int .u32 0, .int .u32 4294967295, .int .u32 0, .int .u32 255, .int .u32 0, .int .u32 65535, .int .u32 0, .int .u32 65535, .bool true]], 53⟩ :: X') R' S' wq → IsTable wq (.slice (some ⟨n, 0, none⟩) 2 2) [(sshB, false), (fullBx, true)] := fun wq c n X' R' S' h => two_tableC h (List.mem_cons_of_mem _ List.mem_cons_self)
 generalize hta : [(sshB, false), (fullBx, true)] = TA at *
 generalize htb : [(fullBx, true), (sshB, false)] = TB at *
 generalize [(fullBx, true)] = TC at *
 go_enter Tryz.func11, Tryz.ntmps11
 go_wp2_with (first | ((with_reducible refine is_load ?_); refine own_ldT (h := ?_)) | ((with_reducible refine is_store ?_); (first | refine own_stRT (hO := hO) (h := ?_) | refine own_st1T (hO := hO) (h := ?_)); clear hO; intro wv hO) | (go_at_call 23; refine (hssh _).mono ?_; rintro e wv ⟨rfl, hb⟩; replace hO := hO.call hb; clear hb) | (go_at_call 24; refine (hfull _).mono ?_; rintro e wv ⟨rfl, hb⟩; replace hO := hO.call hb; clear hb) | ((with_reducible refine is_build ?_); (refine' own_buildN (o := ⟨some 12, _, _, _, _, _⟩) [.agg #[.int .u32 0, .int .u32 4294967295, .int .u32 0, .int .u32 4294967295, .int .u32 0, .int .u32 255, .int .u32 0, .int .u32 65535, .int .u32 22, .int .u32 22, .bool false], .agg #[.int .u32 0, .int .u32 4294967295, .int .u32 0, .int .u32 4294967295, .int .u32 0, .int .u32 255, .int .u32 0, .int .u32 65535, .int .u32 0, .int .u32 65535, .bool true]] hO (by rfl) rfl slice_Table rfl rfl (by rfl) (by decide) (by decide) ?_); clear hO; intro n12 wv hO) | (go_at_call 19; (with_reducible refine (h1 _ _ (hO.tops ht (by simp)) (hTA _ _ _ _ _ hO)).mono ?_); rintro e wv hpo; obtain ⟨v3, rfl, hv9, -, hb9⟩ := hpo.yes; obtain ⟨a9, c9, rfl, -⟩ := hv9.form.view; rw [hz2]; replace hO := hO.call hb9; clear hb9 hpo hv9 h1))
 (try simp only [Act.put]); (try simp only [List.setIfInBounds_toArray, List.set_cons_zero, List.set_cons_succ])
 refine wp_region_any (by kernel_rfl) ?_
 replace hO := hO.drew
 have ix9 := Ix.mk [0, 1, 3, 4]
 iterate 4 (refine wpAny_tk ix9 ?_; replace ix9 := ix9.tail; (first | go_big_quiet_skip | (go_big_quiet_want; (go_big_quiet_op; (first | go_big_quiet_on | ((refine ⟨_, fun _ _ => rfl, ?_⟩); go_big_quiet_on))))); (refine wpQuiet_nil ?_); (try simp only [Act.put]); (try simp only [List.setIfInBounds_toArray, List.set_cons_zero, List.set_cons_succ]))
 clear ix9
 refine wpAny_all (rs := [2, 5]) (by kernel_rfl) (by simp) (ord_cons ?_ (ord_cons ?_ ord_nil))
 rotate_left 2
 all_goals
  refine wpOp_of_listL rfl ?_
  (first | ((with_reducible refine is_load ?_); refine own_ldT (h := ?_)) | ((with_reducible refine is_store ?_); (first | refine own_stRT (hO := hO) (h := ?_) | refine own_st1T (hO := hO) (h := ?_)); clear hO; intro wv hO) | ((with_reducible refine is_build ?_); (refine' own_buildN (o := ⟨some 25, _, _, _, _, _⟩) [.agg #[.int .u32 0, .int .u32 4294967295, .int .u32 0, .int .u32 4294967295, .int .u32 0, .int .u32 255, .int .u32 0, .int .u32 65535, .int .u32 0, .int .u32 65535, .bool true], .agg #[.int .u32 0, .int .u32 4294967295, .int .u32 0, .int .u32 4294967295, .int .u32 0, .int .u32 255, .int .u32 0, .int .u32 65535, .int .u32 22, .int .u32 22, .bool false]] hO (by rfl) rfl slice_Table rfl rfl (by rfl) (by decide) (by decide) ?_); clear hO; intro n25 wv hO) | ((refine wpList_step (fun K hK => ?_)); go_simp; (first | ((refine hK _ _ ?_); clear hK K) | ((first | (go_at_call 25; (with_reducible refine (h2 _ _ (hO.tops ht (by simp)) (hTB _ _ _ _ _ hO)).mono ?_); rintro e wv hpo; obtain ⟨v4, rfl, hv9, -, hb9⟩ := hpo.yes; obtain ⟨a8, c8, rfl, -⟩ := hv9.form.view; rw [hl1]; replace hO := hO.call hb9; clear hb9 hpo hv9 h2)); (try simp only []); (refine hK _ _ ?_); clear hK K)))); (try simp only [Act.put]); (try simp only [List.setIfInBounds_toArray, List.set_cons_zero, List.set_cons_succ])
  refine wpList_done (qk_intro ?_)
 refine wpAny_all (rs := [5]) (by kernel_rfl) (by simp) (ord_cons ?_ ord_nil)
 rotate_left 1
 refine wpAny_all (rs := [2]) (by kernel_rfl) (by simp) (ord_cons ?_ ord_nil)
 rotate_left 1
 all_goals
  refine wpOp_of_listL rfl ?_
  (first | ((with_reducible refine is_load ?_); refine own_ldT (h := ?_)) | ((with_reducible refine is_store ?_); (first | refine own_stRT (hO := hO) (h := ?_) | refine own_st1T (hO := hO) (h := ?_)); clear hO; intro wv hO) | ((with_reducible refine is_build ?_); (refine' own_buildN (o := ⟨some 25, _, _, _, _, _⟩) [.agg #[.int .u32 0, .int .u32 4294967295, .int .u32 0, .int .u32 4294967295, .int .u32 0, .int .u32 255, .int .u32 0, .int .u32 65535, .int .u32 0, .int .u32 65535, .bool true], .agg #[.int .u32 0, .int .u32 4294967295, .int .u32 0, .int .u32 4294967295, .int .u32 0, .int .u32 255, .int .u32 0, .int .u32 65535, .int .u32 22, .int .u32 22, .bool false]] hO (by rfl) rfl slice_Table rfl rfl (by rfl) (by decide) (by decide) ?_); clear hO; intro n25 wv hO) | ((refine wpList_step (fun K hK => ?_)); go_simp; (first | ((refine hK _ _ ?_); clear hK K) | ((first | (go_at_call 25; (with_reducible refine (h2 _ _ (hO.tops ht (by simp)) (hTB _ _ _ _ _ hO)).mono ?_); rintro e wv hpo; obtain ⟨v4, rfl, hv9, -, hb9⟩ := hpo.yes; obtain ⟨a8, c8, rfl, -⟩ := hv9.form.view; rw [hl1]; replace hO := hO.call hb9; clear hb9 hpo hv9 h2)); (try simp only []); (refine hK _ _ ?_); clear hK K)))); (try simp only [Act.put]); (try simp only [List.setIfInBounds_toArray, List.set_cons_zero, List.set_cons_succ])
  refine wpList_done (qk_intro ?_)
 refine wpAny_all (rs := [6]) (by kernel_rfl) (by simp) (ord_cons ?_ ord_nil)
 rotate_left 1
 refine wpAny_all (rs := [6]) (by kernel_rfl) (by simp) (ord_cons ?_ ord_nil)
 rotate_left 1
 all_goals
  refine wpOp_of_listL rfl ?_
  (first | ((with_reducible refine is_load ?_); refine own_ldT (h := ?_)) | ((with_reducible refine is_store ?_); (first | refine own_stRT (hO := hO) (h := ?_) | refine own_st1T (hO := hO) (h := ?_)); clear hO; intro wv hO) | ((with_reducible refine is_build ?_); (refine' own_buildN (o := ⟨some 25, _, _, _, _, _⟩) [.agg #[.int .u32 0, .int .u32 4294967295, .int .u32 0, .int .u32 4294967295, .int .u32 0, .int .u32 255, .int .u32 0, .int .u32 65535, .int .u32 0, .int .u32 65535, .bool true], .agg #[.int .u32 0, .int .u32 4294967295, .int .u32 0, .int .u32 4294967295, .int .u32 0, .int .u32 255, .int .u32 0, .int .u32 65535, .int .u32 22, .int .u32 22, .bool false]] hO (by rfl) rfl slice_Table rfl rfl (by rfl) (by decide) (by decide) ?_); clear hO; intro n25 wv hO) | ((refine wpList_step (fun K hK => ?_)); go_simp; (first | ((refine hK _ _ ?_); clear hK K) | ((first | (go_at_call 25; (with_reducible refine (h2 _ _ (hO.tops ht (by simp)) (hTB _ _ _ _ _ hO)).mono ?_); rintro e wv hpo; obtain ⟨v4, rfl, hv9, -, hb9⟩ := hpo.yes; obtain ⟨a8, c8, rfl, -⟩ := hv9.form.view; rw [hl1]; replace hO := hO.call hb9; clear hb9 hpo hv9 h2)); (try simp only []); (refine hK _ _ ?_); clear hK K)))); (try simp only [Act.put]); (try simp only [List.setIfInBounds_toArray, List.set_cons_zero, List.set_cons_succ])
  refine wpList_done (qk_intro ?_)
 refine wpAny_all (rs := [7]) (by kernel_rfl) (by simp) (ord_cons ?_ ord_nil)
 rotate_left 1
 refine wpAny_all (rs := [7]) (by kernel_rfl) (by simp) (ord_cons ?_ ord_nil)
 rotate_left 1
 all_goals
  refine wpOp_of_listL rfl ?_
  (first | ((with_reducible refine is_load ?_); refine own_ldT (h := ?_)) | ((with_reducible refine is_store ?_); (first | refine own_stRT (hO := hO) (h := ?_) | refine own_st1T (hO := hO) (h := ?_)); clear hO; intro wv hO) | ((with_reducible refine is_build ?_); (refine' own_buildN (o := ⟨some 25, _, _, _, _, _⟩) [.agg #[.int .u32 0, .int .u32 4294967295, .int .u32 0, .int .u32 4294967295, .int .u32 0, .int .u32 255, .int .u32 0, .int .u32 65535, .int .u32 0, .int .u32 65535, .bool true], .agg #[.int .u32 0, .int .u32 4294967295, .int .u32 0, .int .u32 4294967295, .int .u32 0, .int .u32 255, .int .u32 0, .int .u32 65535, .int .u32 22, .int .u32 22, .bool false]] hO (by rfl) rfl slice_Table rfl rfl (by rfl) (by decide) (by decide) ?_); clear hO; intro n25 wv hO) | ((refine wpList_step (fun K hK => ?_)); go_simp; (first | ((refine hK _ _ ?_); clear hK K) | ((first | (go_at_call 25; (with_reducible refine (h2 _ _ (hO.tops ht (by simp)) (hTB _ _ _ _ _ hO)).mono ?_); rintro e wv hpo; obtain ⟨v4, rfl, hv9, -, hb9⟩ := hpo.yes; obtain ⟨a8, c8, rfl, -⟩ := hv9.form.view; rw [hl1]; replace hO := hO.call hb9; clear hb9 hpo hv9 h2)); (try simp only []); (refine hK _ _ ?_); clear hK K)))); (try simp only [Act.put]); (try simp only [List.setIfInBounds_toArray, List.set_cons_zero, List.set_cons_succ])
  refine wpList_done (qk_intro ?_)
 have ix9 := Ix.mk [8, 9, 10]
 iterate 3 (refine wpAny_tk ix9 ?_; replace ix9 := ix9.tail; (first | go_big_quiet_skip | (go_big_quiet_want; (go_big_quiet_op; (first | go_big_quiet_on | ((refine ⟨_, fun _ _ => rfl, ?_⟩); go_big_quiet_on))))); (refine wpQuiet_nil ?_); (try simp only [Act.put]); (try simp only [List.setIfInBounds_toArray, List.set_cons_zero, List.set_cons_succ]))
 clear ix9
 refine wpAny_all (rs := [11]) (by kernel_rfl) (by simp) (ord_cons ?_ ord_nil)
 rotate_left 1
 have ix9 := Ix.mk [8, 9, 10]
 iterate 3 (refine wpAny_tk ix9 ?_; replace ix9 := ix9.tail; (first | go_big_quiet_skip | (go_big_quiet_want; (go_big_quiet_op; (first | go_big_quiet_on | ((refine ⟨_, fun _ _ => rfl, ?_⟩); go_big_quiet_on))))); (refine wpQuiet_nil ?_); (try simp only [Act.put]); (try simp only [List.setIfInBounds_toArray, List.set_cons_zero, List.set_cons_succ]))
 clear ix9
 refine wpAny_all (rs := [11]) (by kernel_rfl) (by simp) (ord_cons ?_ ord_nil)
 rotate_left 1
 all_goals
  refine wpOp_of_listL rfl ?_
  (first | ((with_reducible refine is_load ?_); refine own_ldT (h := ?_)) | ((with_reducible refine is_store ?_); (first | refine own_stRT (hO := hO) (h := ?_) | refine own_st1T (hO := hO) (h := ?_)); clear hO; intro wv hO) | ((with_reducible refine is_build ?_); (refine' own_buildN (o := ⟨some 25, _, _, _, _, _⟩) [.agg #[.int .u32 0, .int .u32 4294967295, .int .u32 0, .int .u32 4294967295, .int .u32 0, .int .u32 255, .int .u32 0, .int .u32 65535, .int .u32 0, .int .u32 65535, .bool true], .agg #[.int .u32 0, .int .u32 4294967295, .int .u32 0, .int .u32 4294967295, .int .u32 0, .int .u32 255, .int .u32 0, .int .u32 65535, .int .u32 22, .int .u32 22, .bool false]] hO (by rfl) rfl slice_Table rfl rfl (by rfl) (by decide) (by decide) ?_); clear hO; intro n25 wv hO) | ((refine wpList_step (fun K hK => ?_)); go_simp; (first | ((refine hK _ _ ?_); clear hK K) | ((first | (go_at_call 25; (with_reducible refine (h2 _ _ (hO.tops ht (by simp)) (hTB _ _ _ _ _ hO)).mono ?_); rintro e wv hpo; obtain ⟨v4, rfl, hv9, -, hb9⟩ := hpo.yes; obtain ⟨a8, c8, rfl, -⟩ := hv9.form.view; rw [hl1]; replace hO := hO.call hb9; clear hb9 hpo hv9 h2)); (try simp only []); (refine hK _ _ ?_); clear hK K)))); (try simp only [Act.put]); (try simp only [List.setIfInBounds_toArray, List.set_cons_zero, List.set_cons_succ])
  refine wpList_done (qk_intro ?_)
 refine wpAny_all (rs := [12]) (by kernel_rfl) (by simp) (ord_cons ?_ ord_nil)
 rotate_left 1
 refine wpAny_all (rs := [12]) (by kernel_rfl) (by simp) (ord_cons ?_ ord_nil)
 rotate_left 1
 all_goals
  refine wpOp_of_listL rfl ?_
  (first | ((with_reducible refine is_load ?_); refine own_ldT (h := ?_)) | ((with_reducible refine is_store ?_); (first | refine own_stRT (hO := hO) (h := ?_) | refine own_st1T (hO := hO) (h := ?_)); clear hO; intro wv hO) | ((with_reducible refine is_build ?_); (refine' own_buildN (o := ⟨some 25, _, _, _, _, _⟩) [.agg #[.int .u32 0, .int .u32 4294967295, .int .u32 0, .int .u32 4294967295, .int .u32 0, .int .u32 255, .int .u32 0, .int .u32 65535, .int .u32 0, .int .u32 65535, .bool true], .agg #[.int .u32 0, .int .u32 4294967295, .int .u32 0, .int .u32 4294967295, .int .u32 0, .int .u32 255, .int .u32 0, .int .u32 65535, .int .u32 22, .int .u32 22, .bool false]] hO (by rfl) rfl slice_Table rfl rfl (by rfl) (by decide) (by decide) ?_); clear hO; intro n25 wv hO) | ((refine wpList_step (fun K hK => ?_)); go_simp; (first | ((refine hK _ _ ?_); clear hK K) | ((first | (go_at_call 25; (with_reducible refine (h2 _ _ (hO.tops ht (by simp)) (hTB _ _ _ _ _ hO)).mono ?_); rintro e wv hpo; obtain ⟨v4, rfl, hv9, -, hb9⟩ := hpo.yes; obtain ⟨a8, c8, rfl, -⟩ := hv9.form.view; rw [hl1]; replace hO := hO.call hb9; clear hb9 hpo hv9 h2)); (try simp only []); (refine hK _ _ ?_); clear hK K)))); (try simp only [Act.put]); (try simp only [List.setIfInBounds_toArray, List.set_cons_zero, List.set_cons_succ])
  refine wpList_done (qk_intro ?_)
 refine wpAny_done (by kernel_rfl) ?_ _
 rotate_left
 refine wpAny_done (by kernel_rfl) ?_ _
 rotate_left
 all_goals
  go_wp2_with (first | ((with_reducible refine is_load ?_); refine own_ldT (h := ?_)) | ((with_reducible refine is_store ?_); (first | refine own_stRT (hO := hO) (h := ?_) | refine own_st1T (hO := hO) (h := ?_)); clear hO; intro wv hO) | (go_at_call 12; (with_reducible refine (h3 _ _ (hO.tops ht (by simp)) (hTC _ _ _ _ _ _ hO)).mono ?_); rintro e wv ⟨rfl, hb9⟩; replace hO := hO.call hb9; clear hb9) | (go_at_call 26; (with_reducible refine (h4 _ _ (hO.tops ht (by simp)) (hTC _ _ _ _ _ _ hO)).mono ?_); rintro e wv ⟨rfl, hb9⟩; replace hO := hO.call hb9; clear hb9))
  go_ret
  exact ⟨rfl, hO.keep.below⟩
end Go.Proofs.YtmcbbepfakfehaaGreatDoor

/- The helpers of the laws of filter tables: decides, sets. -/
namespace Go.Proofs.YtmcbbepfakfehaaGreatDoor
open Go.RowKit
set_option maxRecDepth 100000
end Go.Proofs.YtmcbbepfakfehaaGreatDoor
