/- FilterOf: the walk. -/
import Derived.Deep.CutRange
import Derived.Deep.DeepCutAuto
import Derived.Test.YtmcbbepfakfehaaDoorOG
import Derived.Test.YtmcbbepfakfehaaDoorOF
import Derived.Test.YtmcbbepfakfehaaDoorNC
import Derived.Test.YtmcbbepfakfehaaDoorMB
namespace Go.Proofs.YtmcbbepfakfehaaDoor
open Go.RowKit
set_option maxRecDepth 100000
theorem mk_isSet {l : List Bx} (kl : okL l) : IsSet ((makeF l).getD []) := by
 cases h : makeF l with
 | none => exact ⟨fun b hb => (by cases hb), by simp, cn_nil 0 5⟩
 | some r => exact (make_set kl h).1
theorem valid_of {s : List Bx} (hs : IsSet s) : validT (ofT s) = true := by
 unfold validT
 rw [Bool.and_eq_true, List.all_eq_true, decide_eq_true_iff]
 refine ⟨fun r hr => ?_, by unfold ofT; rw [List.length_map]; exact hs.2.1⟩
 obtain ⟨b, hb, rfl⟩ := List.mem_map.1 hr
 exact vld_of (hs.1 b hb)
set_option maxHeartbeats 8000000 in
theorem fof_law (sl : Value) (zs : List Int) (h : Hd) (w : World) (ht : Tops w) (hZ : ZsOk sl zs) (hr : ∀ s ∈ roS sl (ints zs), w.rangeAt s.g s.o s.xs) (ho : h.ok) :
  Calls Tryd.prog 6 #[sl, hv h] w fun e w' => e = .returned (.bool true) ∧ Below w.heap.size w w' := by
 have hO := own_law hr
 clear hr
 obtain ⟨sa, sc, rfl, -⟩ := hZ.view
 go_enter Tryd.func6, Tryd.ntmps6
 go_wp2_with (first | ((with_reducible refine is_load ?_); (first | (refine own_ldT (h := ?_)))) | ((with_reducible refine is_store ?_); (first | (refine own_stRT (hO := hO) (h := ?_); clear hO; intro wv hO) | (refine own_st1T (hO := hO) (h := ?_); clear hO; intro wv hO))) | ((with_reducible refine is_box ?_); refine own_bx (o := ⟨some 3, _, _, _, _, _⟩) (hO := hO) (h := ?_); clear hO; intro n3 wv hO) | (go_at_call 9; (with_reducible refine (new_any _ _ _).mono ?_); rintro e wv ⟨n, rfl, hB, hn, hb⟩; replace hO := hO.gain hb hB hn; have hT := hO.tapeIn List.mem_cons_self (by (intro s hs; repeat (first | exact hs | exact List.mem_append_left _ hs | apply List.mem_append_right | apply List.mem_cons_of_mem))) (Nat.zero_le _); clear hb hB hn) | (go_at_call 22; (with_reducible refine (tset_any 4 hZ (hO.tapeIn (by (repeat (first | exact List.mem_cons_self | refine List.mem_cons_of_mem _ ?_))) (by (intro s hs; repeat (first | exact hs | exact List.mem_append_left _ hs | apply List.mem_append_right | apply List.mem_cons_of_mem))) hT.le) (by omega) (by omega)).mono ?_); rintro e wv ⟨vx, i1, rfl, ⟨l9, k9, n9, hv9, hn9⟩, hk9, hT1⟩; have hs := mk_isSet k9; clear k9 n9; generalize (makeF l9).getD [] = lx at *; have hoff9 := off_of_new hO hn9; replace hO := hO.after (by (repeat (first | exact Upd.here | apply Upd.there))) hk9 hT1.blk; replace hT := hT1; clear hT1 hk9; have hfx := hv9.form; obtain ⟨ax, cx, rfl, -, hO⟩ := own_offS hO ⟨hv9, hoff9⟩; clear hv9 hn9 hoff9))
 have nT : (ofT lx).length ≤ 4096 := by unfold ofT; rw [List.length_map]; exact hs.2.1
 have h4 := fun v w hv => fOf_any (vl := v) (l := lx) w hv hs.le
 have h1 := fun v w ht hvt => fPermitted_any (vt := v) (t := ofT lx) w ht hvt (okT_of hs.ok) (by omega)
 rw [perm_of hs] at h1
 have h2 := fun v w ht hvt => fDecide_any (vt := v) (t := ofT lx) h w ht ho hvt (by omega)
 rw [decP_of] at h2
 have h3 := fun v w ht hvt => fValid_any (vt := v) (t := ofT lx) w ht hvt (by omega)
 rw [valid_of hs] at h3
 have h5 := fun v u w hv hu => rsame4_any v u lx w hv hu (Nat.le_trans hs.2.1 (by omega))
 have h6 := fun v w hv => rcontains4_any (vl := v) (l := lx) h w ho hv (Nat.le_trans hs.2.1 (by omega))
 clear hs nT
 generalize lx.any (hasH h) = p at *
 generalize decI (ofT lx) h = q at *
 generalize ofT lx = T at *
 have e1 : (p == p) = true := beq_self_eq_true p
 go_wp2_with (first | ((with_reducible refine is_load ?_); (first | (refine own_ldT (h := ?_)))) | ((with_reducible refine is_store ?_); (first | (refine own_stRT (hO := hO) (h := ?_); clear hO; intro wv hO) | (refine own_st1T (hO := hO) (h := ?_); clear hO; intro wv hO))) | ((with_reducible refine is_box ?_); refine own_bx (o := ⟨some 3, _, _, _, _, _⟩) (hO := hO) (h := ?_); clear hO; intro n3 wv hO) | (go_at_call 23; (with_reducible refine (h4 _ _ (hO.isB hfx (by intro q hq; repeat (first | exact hq | exact List.mem_append_left _ hq | apply List.mem_append_right | apply List.mem_cons_of_mem)))).mono ?_); rintro e wv ⟨v4, rfl, ⟨hv9, hn9⟩, hb9⟩; have hfT := hv9.form; replace hO := hO.gainR hb9 hv9 hn9; replace hT := (hO.tapeIn (by (repeat (first | exact List.mem_cons_self | refine List.mem_cons_of_mem _ ?_))) (by (intro s hs; repeat (first | exact hs | exact List.mem_append_left _ hs | apply List.mem_append_right | apply List.mem_cons_of_mem))) hT.le); clear hb9 hv9 hn9) | (go_at_call 15; (with_reducible refine (h1 _ _ (hO.tops ht (by simp)) (hO.isR hfT (by intro q hq; repeat (first | exact hq | exact List.mem_append_left _ hq | apply List.mem_append_right | apply List.mem_cons_of_mem)))).mono ?_); rintro e wv hpo; obtain ⟨v5, rfl, hv9, hn9, hb9⟩ := hpo.yes; have hfU := hv9.form; replace hO := hO.gainB hb9 hv9 hn9; replace hT := (hO.tapeIn (by (repeat (first | exact List.mem_cons_self | refine List.mem_cons_of_mem _ ?_))) (by (intro s hs; repeat (first | exact hs | exact List.mem_append_left _ hs | apply List.mem_append_right | apply List.mem_cons_of_mem))) hT.le); clear hb9 hv9 hn9 hpo) | (go_at_call 18; (with_reducible refine (h2 _ _ (hO.tops ht (by simp)) (hO.isR hfT (by intro q hq; repeat (first | exact hq | exact List.mem_append_left _ hq | apply List.mem_append_right | apply List.mem_cons_of_mem)))).mono ?_); rintro e wv ⟨rfl, hb9⟩; replace hO := hO.call hb9; replace hT := (hO.tapeIn (by (repeat (first | exact List.mem_cons_self | refine List.mem_cons_of_mem _ ?_))) (by (intro s hs; repeat (first | exact hs | exact List.mem_append_left _ hs | apply List.mem_append_right | apply List.mem_cons_of_mem))) hT.le); clear hb9) | (go_at_call 24; (with_reducible refine (h5 _ _ _ (hO.isB hfU (by intro q hq; repeat (first | exact hq | exact List.mem_append_left _ hq | apply List.mem_append_right | apply List.mem_cons_of_mem))) (hO.isB hfx (by intro q hq; repeat (first | exact hq | exact List.mem_append_left _ hq | apply List.mem_append_right | apply List.mem_cons_of_mem)))).mono ?_); rintro e wv ⟨rfl, hb9⟩; replace hO := hO.call hb9; replace hT := (hO.tapeIn (by (repeat (first | exact List.mem_cons_self | refine List.mem_cons_of_mem _ ?_))) (by (intro s hs; repeat (first | exact hs | exact List.mem_append_left _ hs | apply List.mem_append_right | apply List.mem_cons_of_mem))) hT.le); clear hb9) | (go_at_call 25; (with_reducible refine (h3 _ _ (hO.tops ht (by simp)) (hO.isR hfT (by intro q hq; repeat (first | exact hq | exact List.mem_append_left _ hq | apply List.mem_append_right | apply List.mem_cons_of_mem)))).mono ?_); rintro e wv ⟨rfl, hb9⟩; replace hO := hO.call hb9; replace hT := (hO.tapeIn (by (repeat (first | exact List.mem_cons_self | refine List.mem_cons_of_mem _ ?_))) (by (intro s hs; repeat (first | exact hs | exact List.mem_append_left _ hs | apply List.mem_append_right | apply List.mem_cons_of_mem))) hT.le); clear hb9) | (go_at_call 19; (with_reducible refine (h6 _ _ (hO.isB hfx (by intro q hq; repeat (first | exact hq | exact List.mem_append_left _ hq | apply List.mem_append_right | apply List.mem_cons_of_mem)))).mono ?_); rintro e wv ⟨rfl, hb9⟩; replace hO := hO.call hb9; replace hT := (hO.tapeIn (by (repeat (first | exact List.mem_cons_self | refine List.mem_cons_of_mem _ ?_))) (by (intro s hs; repeat (first | exact hs | exact List.mem_append_left _ hs | apply List.mem_append_right | apply List.mem_cons_of_mem))) hT.le); clear hb9) | (go_at_call 14; (with_reducible refine (sane8_any _ (hO.tops ht (by simp))).mono ?_); rintro e wv ⟨rfl, hb9⟩; replace hO := hO.call hb9; clear hb9))
 go_ret
 exact ⟨rfl, hO.keep.below⟩
end Go.Proofs.YtmcbbepfakfehaaDoor
