/- The helper of the laws of filter tables: sets. -/
import Derived.Deep.CutRange
import Derived.Deep.DeepCutAuto
import Derived.Test.YtmcbbepfakfehaaDoorOG
import Derived.Test.YtmcbbepfakfehaaDoorOF
import Derived.Test.YtmcbbepfakfehaaDoorMB
namespace Go.Proofs.YtmcbbepfakfehaaDoor
open Go.RowKit
set_option maxRecDepth 100000
theorem permF_len {t : List Rul} (kt : okT t) : ((permF t).getD []).length ≤ 9223372036854775806 := by
 cases h : permF t with
 | none => simp
 | some s => exact Nat.le_trans (permF_spec kt h).1.2.1 (by omega)
theorem pruneG_len' (t : List Rul) (hl : t.length ≤ 1000000 := by omega) : ((pruneG [] t).getD []).length ≤ 9223372036854775806 := by
 cases h : pruneG [] t with
 | none => simp
 | some s => exact Nat.le_trans (pruneG_len h) (by omega)
theorem effF_len {t : List Rul} {i : Nat} (kt : okT t) (hi : i < t.length) : ((effF t i).getD []).length ≤ 9223372036854775806 := by
 cases h : effF t i with
 | none => simp
 | some s => exact Nat.le_trans (effF_spec kt hi h).1.2.1 (by omega)
set_option maxHeartbeats 4000000 in
theorem sets_in {vt : Value} {t : List Rul} {i : Nat} (w : World) (ht : Tops w) (hvt : IsTable w vt t) (kt : okT t) (hl : t.length ≤ 5) (hi : i < t.length) :
  Calls Tryd.prog 11 #[vt, .int .i64 i] w fun e w' => e = .returned (.bool true) ∧ Below w.heap.size w w' := by
 have hO := own_start [] w
 have h1 := fun w ht hvt => fPermitted_any (vt := vt) (t := t) w ht hvt kt (by omega)
 have h2 := fun w hvt => rPermitted_any (vt := vt) (t := t) w hvt kt (by omega)
 have h5 := fun w ht hvt => fPrune_any (vt := vt) (t := t) w ht hvt kt (by omega)
 have h6 := fun w hvt => rPrune_any (vt := vt) (t := t) w hvt kt (by omega)
 have n1 := permF_len kt
 have n5 := pruneG_len' t
 have h3 := fun w ht hvt => fEff_any (vt := vt) (t := t) (i := i) w ht hvt kt (by omega) hi
 have h4 := fun w hvt => rEff_any (vt := vt) (t := t) (i := i) w hvt kt (by omega) hi
 have n3 := effF_len kt hi
 generalize permF t = A at *
 generalize effF t i = E at *
 generalize pruneG [] t = Y at *
 have g2 := fun v u w hv hu => rsame4_any v u (E.getD []) w hv hu n3
 have e2 : (ecd E == ecd E) = true := beq_self_eq_true _
 have g1 := fun v u w hv hu => rsame4_any v u (A.getD []) w hv hu n1
 have e1 : (ecd A == ecd A) = true := beq_self_eq_true _
 have g3 := fun v u w hv hu => rSame8_any v u (Y.getD []) (Y.getD []) w hv hu n5 n5
 rw [decide_eq_true (rfl : Y.getD [] = Y.getD [])] at g3
 have e3 : (ecdT Y == ecdT Y) = true := beq_self_eq_true _
 go_enter Tryd.func11, Tryd.ntmps11
 go_wp2_with (first | ((with_reducible refine is_load ?_); (first | (refine own_ldT (h := ?_)))) | ((with_reducible refine is_store ?_); (first | (refine own_stRT (hO := hO) (h := ?_); clear hO; intro wv hO) | (refine own_st1T (hO := hO) (h := ?_); clear hO; intro wv hO))) | (go_at_call 15; (with_reducible refine (h1 _ (hO.tops ht (by simp)) (hvt.keep0 hO)).mono ?_); rintro e wv hpo; obtain ⟨v1, rfl, hv9, hn9, hb9⟩ := hpo.uni; have f1 := hv9.form; replace hO := hO.gainB hb9 hv9 hn9; clear hb9 hv9 hn9 hpo) | (go_at_call 31; (with_reducible refine (h2 _ (hvt.keep0 hO)).mono ?_); rintro e wv hpo; obtain ⟨v2, rfl, hv9, hn9, hb9⟩ := hpo.uni; have f2 := hv9.form; replace hO := hO.gainB hb9 hv9 hn9; clear hb9 hv9 hn9 hpo) | (go_at_call 20; (with_reducible refine (h3 _ (hO.tops ht (by simp)) (hvt.keep0 hO)).mono ?_); rintro e wv hpo; obtain ⟨v3, rfl, hv9, hn9, hb9⟩ := hpo.uni; have f3 := hv9.form; replace hO := hO.gainB hb9 hv9 hn9; clear hb9 hv9 hn9 hpo) | (go_at_call 32; (with_reducible refine (h4 _ (hvt.keep0 hO)).mono ?_); rintro e wv hpo; obtain ⟨v4, rfl, hv9, hn9, hb9⟩ := hpo.uni; have f4 := hv9.form; replace hO := hO.gainB hb9 hv9 hn9; clear hb9 hv9 hn9 hpo) | (go_at_call 26; (with_reducible refine (h5 _ (hO.tops ht (by simp)) (hvt.keep0 hO)).mono ?_); rintro e wv hpo; obtain ⟨v5, rfl, hv9, hn9, hb9⟩ := hpo.uni; have f5 := hv9.form; replace hO := hO.gainR hb9 hv9 hn9; clear hb9 hv9 hn9 hpo) | (go_at_call 33; (with_reducible refine (h6 _ (hvt.keep0 hO)).mono ?_); rintro e wv hpo; obtain ⟨v6, rfl, hv9, hn9, hb9⟩ := hpo.uni; have f6 := hv9.form; replace hO := hO.gainR hb9 hv9 hn9; clear hb9 hv9 hn9 hpo) | (go_at_call 24; (with_reducible refine (g1 _ _ _ (hO.isB f1 (fun q hq => List.mem_append_right _ (List.mem_append_right _ (List.mem_append_right _ (List.mem_append_right _ (List.mem_append_right _ (List.mem_append_left _ hq))))))) (hO.isB f2 (fun q hq => List.mem_append_right _ (List.mem_append_right _ (List.mem_append_right _ (List.mem_append_right _ (List.mem_append_left _ hq))))))).mono ?_); rintro e wv ⟨rfl, hb9⟩; replace hO := hO.call hb9; clear hb9) | (go_at_call 24; (with_reducible refine (g2 _ _ _ (hO.isB f3 (fun q hq => List.mem_append_right _ (List.mem_append_right _ (List.mem_append_right _ (List.mem_append_left _ hq))))) (hO.isB f4 (fun q hq => List.mem_append_right _ (List.mem_append_right _ (List.mem_append_left _ hq))))).mono ?_); rintro e wv ⟨rfl, hb9⟩; replace hO := hO.call hb9; clear hb9) | (go_at_call 28; (with_reducible refine (g3 _ _ _ (hO.isR f5 (fun q hq => List.mem_append_right _ (List.mem_append_left _ hq))) (hO.isR f6 (fun q hq => List.mem_append_left _ hq))).mono ?_); rintro e wv ⟨rfl, hb9⟩; replace hO := hO.call hb9; clear hb9))
 go_ret
 exact ⟨rfl, hO.keep.below⟩
set_option maxHeartbeats 4000000 in
theorem sets_out {vt : Value} {t : List Rul} {i : Int} (w : World) (ht : Tops w) (hvt : IsTable w vt t) (kt : okT t) (hl : t.length ≤ 5) (hi : i < 0 ∨ (t.length : Int) ≤ i) :
  Calls Tryd.prog 11 #[vt, .int .i64 i] w fun e w' => e = .returned (.bool true) ∧ Below w.heap.size w w' := by
 have hO := own_start [] w
 have h1 := fun w ht hvt => fPermitted_any (vt := vt) (t := t) w ht hvt kt (by omega)
 have h2 := fun w hvt => rPermitted_any (vt := vt) (t := t) w hvt kt (by omega)
 have h5 := fun w ht hvt => fPrune_any (vt := vt) (t := t) w ht hvt kt (by omega)
 have h6 := fun w hvt => rPrune_any (vt := vt) (t := t) w hvt kt (by omega)
 have n1 := permF_len kt
 have n5 := pruneG_len' t
 have h3 := fun w hvt => fEff_out (vt := vt) (t := t) (i := i) w hvt hi
 have h4 := fun w hvt => rEff_out (vt := vt) (t := t) (i := i) w hvt hi
 have g2 := fun w => rsame4_any (.slice none 0 0) (.slice none 0 0) [] w (.inl ⟨rfl, rfl⟩) (.inl ⟨rfl, rfl⟩) (by simp)
 generalize permF t = A at *
 generalize pruneG [] t = Y at *
 have g1 := fun v u w hv hu => rsame4_any v u (A.getD []) w hv hu n1
 have e1 : (ecd A == ecd A) = true := beq_self_eq_true _
 have g3 := fun v u w hv hu => rSame8_any v u (Y.getD []) (Y.getD []) w hv hu n5 n5
 rw [decide_eq_true (rfl : Y.getD [] = Y.getD [])] at g3
 have e3 : (ecdT Y == ecdT Y) = true := beq_self_eq_true _
 go_enter Tryd.func11, Tryd.ntmps11
 go_wp2_with (first | ((with_reducible refine is_load ?_); (first | (refine own_ldT (h := ?_)))) | ((with_reducible refine is_store ?_); (first | (refine own_stRT (hO := hO) (h := ?_); clear hO; intro wv hO) | (refine own_st1T (hO := hO) (h := ?_); clear hO; intro wv hO))) | (go_at_call 15; (with_reducible refine (h1 _ (hO.tops ht (by simp)) (hvt.keep0 hO)).mono ?_); rintro e wv hpo; obtain ⟨v1, rfl, hv9, hn9, hb9⟩ := hpo.uni; have f1 := hv9.form; replace hO := hO.gainB hb9 hv9 hn9; clear hb9 hv9 hn9 hpo) | (go_at_call 31; (with_reducible refine (h2 _ (hvt.keep0 hO)).mono ?_); rintro e wv hpo; obtain ⟨v2, rfl, hv9, hn9, hb9⟩ := hpo.uni; have f2 := hv9.form; replace hO := hO.gainB hb9 hv9 hn9; clear hb9 hv9 hn9 hpo) | (go_at_call 20; (with_reducible refine (h3 _ (hvt.keep0 hO)).mono ?_); rintro e wv ⟨rfl, hb9⟩; replace hO := hO.call hb9; clear hb9) | (go_at_call 32; (with_reducible refine (h4 _ (hvt.keep0 hO)).mono ?_); rintro e wv ⟨rfl, hb9⟩; replace hO := hO.call hb9; clear hb9) | (go_at_call 26; (with_reducible refine (h5 _ (hO.tops ht (by simp)) (hvt.keep0 hO)).mono ?_); rintro e wv hpo; obtain ⟨v5, rfl, hv9, hn9, hb9⟩ := hpo.uni; have f5 := hv9.form; replace hO := hO.gainR hb9 hv9 hn9; clear hb9 hv9 hn9 hpo) | (go_at_call 33; (with_reducible refine (h6 _ (hvt.keep0 hO)).mono ?_); rintro e wv hpo; obtain ⟨v6, rfl, hv9, hn9, hb9⟩ := hpo.uni; have f6 := hv9.form; replace hO := hO.gainR hb9 hv9 hn9; clear hb9 hv9 hn9 hpo) | (go_at_call 24; (with_reducible refine (g1 _ _ _ (hO.isB f1 (fun q hq => List.mem_append_right _ (List.mem_append_right _ (List.mem_append_right _ (List.mem_append_left _ hq))))) (hO.isB f2 (fun q hq => List.mem_append_right _ (List.mem_append_right _ (List.mem_append_left _ hq))))).mono ?_); rintro e wv ⟨rfl, hb9⟩; replace hO := hO.call hb9; clear hb9) | (go_at_call 24; (with_reducible refine (g2 _).mono ?_); rintro e wv ⟨rfl, hb9⟩; replace hO := hO.call hb9; clear hb9) | (go_at_call 28; (with_reducible refine (g3 _ _ _ (hO.isR f5 (fun q hq => List.mem_append_right _ (List.mem_append_left _ hq))) (hO.isR f6 (fun q hq => List.mem_append_left _ hq))).mono ?_); rintro e wv ⟨rfl, hb9⟩; replace hO := hO.call hb9; clear hb9))
 go_ret
 exact ⟨rfl, hO.keep.below⟩
theorem sets_any {vt : Value} {t : List Rul} (i : Int) (w : World) (ht : Tops w) (hvt : IsTable w vt t) (kt : okT t) (hl : t.length ≤ 5) :
  Calls Tryd.prog 11 #[vt, .int .i64 i] w fun e w' => e = .returned (.bool true) ∧ Below w.heap.size w w' := by
 by_cases h : 0 ≤ i ∧ i < t.length
 ·obtain ⟨k, rfl⟩ : ∃ k : Nat, i = k := ⟨i.toNat, by omega⟩
  exact sets_in w ht hvt kt hl (by omega)
 ·exact sets_out w ht hvt kt hl (by omega)
end Go.Proofs.YtmcbbepfakfehaaDoor

/- FilterSets: the walk. -/
namespace Go.Proofs.YtmcbbepfakfehaaDoor
open Go.RowKit
set_option maxRecDepth 100000
set_option maxHeartbeats 8000000 in
theorem fsets_law (sl : Value) (zs : List Int) (vx : Value) (x : List Rul) (f : Int) (w : World) (ht : Tops w) (hZ : ZsOk sl zs) (hr : ∀ s ∈ roS sl (ints zs), w.rangeAt s.g s.o s.xs) (hvx : IsTable w vx x) (kx : okT x) (_kf : -9223372036854775808 ≤ f ∧ f ≤ 9223372036854775807) :
  Calls Tryd.prog 3 #[sl, vx, .int .i64 f] w fun e w' => e = .returned (.bool true) ∧ Below w.heap.size w w' := by
 have hO := (own_law hr).addTable hvx
 clear hr
 obtain ⟨sa, sc, rfl, -⟩ := hZ.view
 have hfx := hvx.form
 obtain ⟨ax, cx, rfl, -⟩ := hvx.view
 clear hvx
 go_enter Tryd.func3, Tryd.ntmps3
 go_wp2_with (first | ((with_reducible refine is_load ?_); (first | (refine own_ldT (h := ?_)))) | ((with_reducible refine is_store ?_); (first | (refine own_stRT (hO := hO) (h := ?_); clear hO; intro wv hO) | (refine own_st1T (hO := hO) (h := ?_); clear hO; intro wv hO))) | (go_at_call 9; (with_reducible refine (new_any _ _ _).mono ?_); rintro e wv ⟨n, rfl, hB, hn, hb⟩; replace hO := hO.gain hb hB hn; have hT := hO.tapeIn List.mem_cons_self (by (intro s hs; repeat (first | exact hs | exact List.mem_append_left _ hs | apply List.mem_append_right | apply List.mem_cons_of_mem))) (Nat.zero_le _); clear hb hB hn))
 go_loopg [8] 4 (fun gk q wr => ∃ i i1 : Nat, i ≤ 3 ∧ 4 - i ≤ gk ∧ q = .int .i64 i ∧ i1 ≤ zs.length ∧ Own [] w [⟨n, tcs (.slice sa zs.length sc) i1, 70⟩] [] (roS (.slice ax x.length cx) (cellsR x) ++ roS (.slice sa zs.length sc) (ints zs)) wr)
 case atStart => exact ⟨0, _, by omega, by omega, rfl, hT.le, hO⟩
 case round =>
  clear hO hT
  obtain ⟨i, i1, hi, hgk, rfl, hi1, hO⟩ := hrel
  have hT := hO.tapeIn List.mem_cons_self (by intro s hs; repeat (first | exact hs | exact List.mem_append_left _ hs | apply List.mem_append_right | apply List.mem_cons_of_mem)) hi1
  have s1 : IntKind.i64.wrap ((i : Int) + 1) = (i : Int) + 1 := IntWalk.i64_in _ (by omega)
  by_cases hlt : i < 3
  ·have g1 : decide ((i : Int) < 3) = true := decide_eq_true (by omega)
   go_wp2_with (first | ((with_reducible refine is_load ?_); (first | (refine own_ldT (h := ?_)))) | ((with_reducible refine is_store ?_); (first | (refine own_stRT (hO := hO) (h := ?_); clear hO; intro wv hO) | (refine own_st1T (hO := hO) (h := ?_); clear hO; intro wv hO))) | (go_at_call 10; (with_reducible refine (ttable_any 4 true hZ (hO.tapeIn (by (repeat (first | exact List.mem_cons_self | refine List.mem_cons_of_mem _ ?_))) (by (intro s hs; repeat (first | exact hs | exact List.mem_append_left _ hs | apply List.mem_append_right | apply List.mem_cons_of_mem))) hT.le) (by omega) (by omega)).mono ?_); rintro e wv ⟨vy, i1, rfl, ⟨y, hv9, hn9, ky, ny⟩, hk9, hT1⟩; have hoff9 := off_of_new hO hn9; replace hO := hO.after (by (repeat (first | exact Upd.here | apply Upd.there))) hk9 hT1.blk; replace hT := hT1; clear hT1 hk9; have hfy := hv9.form; obtain ⟨ay, cy, rfl, hay, hO⟩ := own_offRS hO ⟨hv9, hoff9⟩; clear hv9 hn9 hoff9; have s2 : IntKind.i64.wrap ((y.length : Int) + 2) = (y.length : Int) + 2 := IntWalk.i64_in _ (by omega)) | (go_at_call 12; (with_reducible refine (next_pos ((y.length : Int) + 2) hZ (hO.tapeIn (by (repeat (first | exact List.mem_cons_self | refine List.mem_cons_of_mem _ ?_))) (by (intro s hs; repeat (first | exact hs | exact List.mem_append_left _ hs | apply List.mem_append_right | apply List.mem_cons_of_mem))) hT.le) (by omega) (by omega)).mono ?_); rintro e wv ⟨v, i1, rfl, ⟨r7, rfl, hr0, hr1⟩, hk9, hT1⟩; replace hO := hO.after (by (repeat (first | exact Upd.here | apply Upd.there))) hk9 hT1.blk; replace hT := hT1; clear hT1 hk9; have s9 : IntKind.i64.wrap (r7 - 1) = r7 - 1 := IntWalk.i64_in _ (by omega)) | (go_at_call 11; (with_reducible refine (sets_any (t := y) (r7 - 1) _ (hO.tops ht (by simp)) (hO.isR hfy (by intro q hq; repeat (first | exact hq | exact List.mem_append_left _ hq | apply List.mem_append_right | apply List.mem_cons_of_mem))) ky (by omega)).mono ?_); rintro e wv ⟨rfl, hb9⟩; replace hO := hO.call hb9; replace hT := (hO.tapeIn (by (repeat (first | exact List.mem_cons_self | refine List.mem_cons_of_mem _ ?_))) (by (intro s hs; repeat (first | exact hs | exact List.mem_append_left _ hs | apply List.mem_append_right | apply List.mem_cons_of_mem))) hT.le); clear hb9))
   go_roundg (3 - i)
   case measure => omega
   case rel => exact ⟨i + 1, _, by omega, by omega, by go_num, hT.le, hO.sub (.refl _) (.refl _) (fun q hq => List.mem_append_right _ hq)⟩
  ·have g1 : decide ((i : Int) < 3) = false := decide_eq_false (by omega)
   by_cases h5 : 5 < x.length
   ·have g2 : decide ((5 : Int) < (x.length : Int)) = true := decide_eq_true (by omega)
    go_wp2_with (first | ((with_reducible refine is_load ?_); (first | (refine own_ldT (h := ?_)))) | ((with_reducible refine is_store ?_); (first | (refine own_stRT (hO := hO) (h := ?_); clear hO; intro wv hO) | (refine own_st1T (hO := hO) (h := ?_); clear hO; intro wv hO))))
    go_ret
    exact ⟨rfl, hO.keep.below⟩
   ·have g2 : decide ((5 : Int) < (x.length : Int)) = false := decide_eq_false (by omega)
    go_wp2_with (first | ((with_reducible refine is_load ?_); (first | (refine own_ldT (h := ?_)))) | ((with_reducible refine is_store ?_); (first | (refine own_stRT (hO := hO) (h := ?_); clear hO; intro wv hO) | (refine own_st1T (hO := hO) (h := ?_); clear hO; intro wv hO))) | (go_at_call 11; (with_reducible refine (sets_any (t := x) _ _ (hO.tops ht (by simp)) (hO.isR hfx (by intro q hq; repeat (first | exact hq | exact List.mem_append_left _ hq | apply List.mem_append_right | apply List.mem_cons_of_mem))) kx (by omega)).mono ?_); rintro e wv ⟨rfl, hb9⟩; replace hO := hO.call hb9; replace hT := (hO.tapeIn (by (repeat (first | exact List.mem_cons_self | refine List.mem_cons_of_mem _ ?_))) (by (intro s hs; repeat (first | exact hs | exact List.mem_append_left _ hs | apply List.mem_append_right | apply List.mem_cons_of_mem))) hT.le); clear hb9) | (go_at_call 13; refine (mod_is f 6 _ (by omega) (by omega)).mono ?_; rintro e _ ⟨rfl, rfl⟩) | (go_at_call 14; (with_reducible refine (sane8_any _ (hO.tops ht (by simp))).mono ?_); rintro e wv ⟨rfl, hb9⟩; replace hO := hO.call hb9; clear hb9))
    go_ret
    exact ⟨rfl, hO.keep.below⟩
end Go.Proofs.YtmcbbepfakfehaaDoor
