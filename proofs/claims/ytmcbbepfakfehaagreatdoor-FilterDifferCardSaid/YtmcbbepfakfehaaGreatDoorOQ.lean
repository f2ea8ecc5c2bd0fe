/- The reference of filter tables: Differ. -/
import Derived.Test.YtmcbbepfakfehaaGreatDoorOE
namespace Go.Proofs.YtmcbbepfakfehaaGreatDoor
open Go.RowKit
set_option maxRecDepth 100000
set_option maxHeartbeats 4000000 in
theorem rdifferE_any {va vb : Value} {la lb : List Bx} (w : World) (hva : IsBoxes w va la) (hvb : IsBoxes w vb lb) (ka : okL la) (kb : okL lb) (na : la.length ≤ 1000000000) (nb : lb.length ≤ 1000000000) (hD : (canonF xorB 0 5 (valF la) (valF lb)).length ≤ 10000000000) :
  Calls Tryz.prog 22 #[va, vb] w fun e w' => e = .returned (.tuple #[hv (firstH (canonF xorB 0 5 (valF la) (valF lb))), .bool (!(canonF xorB 0 5 (valF la) (valF lb)).isEmpty)]) ∧ Below w.heap.size w w' := by
 have hO := own_start [] w
 have h0a := fun w hv => rvals_any (vl := va) (l := la) w hv (by omega)
 have h0b := fun w hv => rvals_any (vl := vb) (l := lb) w hv (by omega)
 have nA := valF_le la
 have nB := valF_le lb
 have hC := canonF_cn xorB 5 0 rfl (valF_vL ka) (valF_vL kb)
 have h1 : ∀ (v1 v2 : Value) (w : World), IsBoxes w v1 (valF la) → IsBoxes w v2 (valF lb) → Calls Tryz.prog 41 #[v1, v2, .int .i64 3, .int .i64 0] w (RetBoxes w (canonF xorB 0 5 (valF la) (valF lb))) := fun v1 v2 w h1 h2 => rrests_any opr_xor 5 0 rfl v1 v2 (valF la) (valF lb) w h1 h2 (valF_vL ka) (valF_vL kb) (by omega) (by omega) (by omega)
 have h2 := fun v w hv => rfirst_any (vl := v) w hv hC hD
 clear hC hD
 generalize canonF xorB 0 5 (valF la) (valF lb) = D at *
 generalize valF la = A at *
 generalize valF lb = B at *
 generalize firstH D = fH at *
 generalize (!D.isEmpty) = b at *
 go_enter Tryz.func22, Tryz.ntmps22
 go_wp2_with (first | ((with_reducible refine is_load ?_); refine own_ldT (h := ?_)) | ((with_reducible refine is_store ?_); (first | refine own_stRT (hO := hO) (h := ?_) | refine own_st1T (hO := hO) (h := ?_)); clear hO; intro wv hO) | ((with_reducible refine is_alloc ?_); refine own_alT (o := ⟨some 4, _, _, _, _, _⟩) (hO := hO) (h := ?_); clear hO; intro n4 wv hO) | (go_at_call 42; (with_reducible refine (h0a _ (hva.keep0 hO)).mono ?_); rintro e wv ⟨v1, rfl, ⟨hv9, hn9⟩, hb9⟩; have hf1 := hv9.form; replace hO := hO.gainB hb9 hv9 hn9; clear hb9 hv9 hn9 h0a) | (go_at_call 42; (with_reducible refine (h0b _ (hvb.keep0 hO)).mono ?_); rintro e wv ⟨v2, rfl, ⟨hv9, hn9⟩, hb9⟩; have hf2 := hv9.form; replace hO := hO.gainB hb9 hv9 hn9; clear hb9 hv9 hn9 h0b) | (go_at_call 41; (with_reducible refine (h1 _ _ _ (hO.isB hf1 (fun q hq => List.mem_append_right _ (List.mem_append_left _ hq))) (hO.isB hf2 (fun q hq => List.mem_append_left _ hq))).mono ?_); rintro e wv ⟨v3, rfl, ⟨hv9, hn9⟩, hb9⟩; have hf3 := hv9.form; replace hO := hO.gainB hb9 hv9 hn9; clear hb9 hv9 hn9) | (go_at_call 40; refine (h2 _ _ (hO.isB hf3 (fun q hq => List.mem_append_left _ hq))).mono ?_; rintro e wv ⟨rfl, hb⟩; replace hO := hO.call hb; clear hb))
 exact bodyPost_ret (own_res_cell_tmp hO Tryz.results22 rfl (by (repeat (first | exact List.mem_cons_self | refine List.mem_cons_of_mem _ ?_))) (by (exact row_len (by (with_reducible (first | exact row_Box | exact row_Range | exact row_Header | exact row_Five | exact row_Tape | exact row_Prefix | exact row_Truths | exact row_Packet | exact row_Group | exact row_Rule))) (by rfl))) rfl rfl) rfl ⟨rfl, hO.keep.below⟩
set_option maxHeartbeats 8000000 in
theorem rDiffer8_any {vt vu : Value} {t u : List Rul} (w : World) (hvt : IsTable w vt t) (hvu : IsTable w vu u) (kt : okT t) (ku : okT u) (nt : t.length ≤ 20) (nu : u.length ≤ 20) :
  Calls Tryz.prog 10 #[vt, vu] w fun e w' => e = .returned (.tuple #[hv (difF t u).1, .bool (difF t u).2.1, .int .i64 (difF t u).2.2]) ∧ Below w.heap.size w w' := by
 have hO := own_start [] w
 have h1 := fun w hv => rPermitted_any (vt := vt) (t := t) w hv kt nt
 have h2 := fun w hv => rPermitted_any (vt := vu) (t := u) w hv ku nu
 obtain ⟨et, het⟩ := tab_ends t
 obtain ⟨eu, heu⟩ := tab_ends u
 unfold difF
 cases hp : permF t with
 | none =>
  rw [hp] at h1
  clear hp h2 het heu
  go_enter Tryz.func10, Tryz.ntmps10
  go_wp2_with (first | ((with_reducible refine is_load ?_); refine own_ldT (h := ?_)) | ((with_reducible refine is_store ?_); (first | refine own_stRT (hO := hO) (h := ?_) | refine own_st1T (hO := hO) (h := ?_)); clear hO; intro wv hO) | ((with_reducible refine is_alloc ?_); (first | (refine own_alT (o := ⟨some 4, _, _, _, _, _⟩) (hO := hO) (h := ?_); clear hO; intro n4 wv hO) | (refine own_alT (o := ⟨some 10, _, _, _, _, _⟩) (hO := hO) (h := ?_); clear hO; intro n10 wv hO))) | (go_at_call 21; (with_reducible refine (h1 _ (hvt.keep0 hO)).mono ?_); rintro e wv hpo; obtain ⟨rfl, hb9⟩ := hpo.no; replace hO := hO.call hb9; clear hb9 hpo))
  exact bodyPost_ret (own_res_cell_tmp2 hO Tryz.results10 rfl (by (repeat (first | exact List.mem_cons_self | refine List.mem_cons_of_mem _ ?_))) (by (exact row_len (by (with_reducible (first | exact row_Box | exact row_Range | exact row_Header | exact row_Five | exact row_Tape | exact row_Prefix | exact row_Truths | exact row_Packet | exact row_Group | exact row_Rule))) (by rfl))) rfl rfl rfl) rfl ⟨rfl, hO.keep.below⟩
 | some a =>
  rw [hp] at h1
  have hsa := (permF_spec kt hp).1
  have ea := (het.of_perm hp).ends
  clear hp het
  dsimp only
  cases hq : permF u with
  | none =>
   rw [hq] at h2
   clear hq heu ea
   go_enter Tryz.func10, Tryz.ntmps10
   go_wp2_with (first | ((with_reducible refine is_load ?_); refine own_ldT (h := ?_)) | ((with_reducible refine is_store ?_); (first | refine own_stRT (hO := hO) (h := ?_) | refine own_st1T (hO := hO) (h := ?_)); clear hO; intro wv hO) | ((with_reducible refine is_alloc ?_); (first | (refine own_alT (o := ⟨some 4, _, _, _, _, _⟩) (hO := hO) (h := ?_); clear hO; intro n4 wv hO) | (refine own_alT (o := ⟨some 10, _, _, _, _, _⟩) (hO := hO) (h := ?_); clear hO; intro n10 wv hO))) | (go_at_call 21; (with_reducible refine (h1 _ (hvt.keep0 hO)).mono ?_); rintro e wv hpo; obtain ⟨v8, rfl, hv9, hn9, hb9⟩ := hpo.yes; have hf8 := hv9.form; replace hO := hO.gainB hb9 hv9 hn9; clear hb9 hv9 hpo hn9) | (go_at_call 21; (with_reducible refine (h2 _ (hvu.keep0 hO)).mono ?_); rintro e wv hpo; obtain ⟨rfl, hb9⟩ := hpo.no; replace hO := hO.call hb9; clear hb9 hpo))
   exact bodyPost_ret (own_res_cell_tmp2 hO Tryz.results10 rfl (by (repeat (first | exact List.mem_cons_self | refine List.mem_cons_of_mem _ ?_))) (by (exact row_len (by (with_reducible (first | exact row_Box | exact row_Range | exact row_Header | exact row_Five | exact row_Tape | exact row_Prefix | exact row_Truths | exact row_Packet | exact row_Group | exact row_Rule))) (by rfl))) rfl rfl rfl) rfl ⟨rfl, hO.keep.below⟩
  | some b =>
   rw [hq] at h2
   have hsb := (permF_spec ku hq).1
   have eb := (heu.of_perm hq).ends
   have hD := canon_small10 (op := xorB) ea eb (by omega)
   clear hq heu ea eb
   rw [← valF_id hsa.1, ← valF_id hsb.1] at hD
   dsimp only
   have h3 := fun v1 v2 w h1 h2 => rdifferE_any (va := v1) (vb := v2) (la := a) (lb := b) w h1 h2 hsa.ok hsb.ok (Nat.le_trans hsa.2.1 (by omega)) (Nat.le_trans hsb.2.1 (by omega)) hD
   generalize firstH (canonF xorB 0 5 (valF a) (valF b)) = fh at *
   generalize (!(canonF xorB 0 5 (valF a) (valF b)).isEmpty) = fb at *
   go_enter Tryz.func10, Tryz.ntmps10
   go_wp2_with (first | ((with_reducible refine is_load ?_); refine own_ldT (h := ?_)) | ((with_reducible refine is_store ?_); (first | refine own_stRT (hO := hO) (h := ?_) | refine own_st1T (hO := hO) (h := ?_)); clear hO; intro wv hO) | ((with_reducible refine is_alloc ?_); (first | (refine own_alT (o := ⟨some 4, _, _, _, _, _⟩) (hO := hO) (h := ?_); clear hO; intro n4 wv hO) | (refine own_alT (o := ⟨some 10, _, _, _, _, _⟩) (hO := hO) (h := ?_); clear hO; intro n10 wv hO))) | (go_at_call 21; (with_reducible refine (h1 _ (hvt.keep0 hO)).mono ?_); rintro e wv hpo; obtain ⟨v8, rfl, hv9, hn9, hb9⟩ := hpo.yes; have hf8 := hv9.form; replace hO := hO.gainB hb9 hv9 hn9; clear hb9 hv9 hpo hn9) | (go_at_call 21; (with_reducible refine (h2 _ (hvu.keep0 hO)).mono ?_); rintro e wv hpo; obtain ⟨v7, rfl, hv9, hn9, hb9⟩ := hpo.yes; have hf7 := hv9.form; replace hO := hO.gainB hb9 hv9 hn9; clear hb9 hv9 hpo hn9) | (go_at_call 22; (with_reducible refine (h3 _ _ _ (hO.isB hf8 (fun q hq => List.mem_append_right _ (List.mem_append_left _ hq))) (hO.isB hf7 (fun q hq => List.mem_append_left _ hq))).mono ?_); rintro e wv ⟨rfl, hb9⟩; replace hO := hO.call hb9; clear hb9))
   exact bodyPost_ret (own_res_cell_tmp2 hO Tryz.results10 rfl (by (repeat (first | exact List.mem_cons_self | refine List.mem_cons_of_mem _ ?_))) (by (exact row_len (by (with_reducible (first | exact row_Box | exact row_Range | exact row_Header | exact row_Five | exact row_Tape | exact row_Prefix | exact row_Truths | exact row_Packet | exact row_Group | exact row_Rule))) (by rfl))) rfl rfl rfl) rfl ⟨rfl, hO.keep.below⟩
end Go.Proofs.YtmcbbepfakfehaaGreatDoor
