/- PacketsetAlgebra: the walk. -/
import Derived.Test.YtdfihajngmgigaaDoorMY
import Derived.Test.YtdfihajngmgigaaDoorMV
import Derived.Test.YtdfihajngmgigaaDoorMS
namespace Go.Proofs.YtdfihajngmgigaaDoor
open Go.RowKit
set_option maxRecDepth 100000
theorem rsame4_any (v u : Value) (l : List Bx) (w : World) (hv : IsBoxes w v l) (hu : IsBoxes w u l) (hl : l.length ≤ 9223372036854775806) :
    Calls Tryd.prog 18 #[v, u] w fun e w' => e = .returned (.bool true) ∧ Below w.heap.size w w' := by
  have hO := own_start [] w
  have h1 := fun w hv hu => rsame_any v u l l w hv hu hl hl
  have e1 : decide (l = l) = true := by simp
  rw [e1] at h1
  clear e1
  go_enter Tryd.func18, Tryd.ntmps18
  go_wp2_with (first | ((with_reducible refine is_load ?_); (first | (refine own_ld (h := ?_)))) | ((with_reducible refine is_store ?_); (first | (refine own_stR (hO := hO) (h := ?_); clear hO; intro wv hO) | (refine own_st1 (hO := hO) (h := ?_); clear hO; intro wv hO))) | (go_at_call 56; refine (h1 _ hv hu).mono ?_; rintro e wv ⟨rfl, hb⟩; replace hO := hO.call hb; clear hb))
  go_ret
  exact ⟨rfl, hO.keep.below⟩
theorem vL.okL {l : List Bx} (h : vL l) : okL l := fun b hb k hk => by
  have h1 := h b hb k hk
  have h2 := topOf_le k
  omega
theorem IsSet.ok {l : List Bx} (h : IsSet l) : okL l := h.1.okL
theorem IsSet.le {l : List Bx} (h : IsSet l) : l.length ≤ 1000000000000 := Nat.le_trans h.2.1 (by omega)
section
variable {P : List Bx → Prop} {la lb : List Bx}
theorem union_set (ha : IsSet la) (hb : IsSet lb) (va vb : Value) (w : World) (ht : Tops w) (h1 : IsBoxes w va la) (h2 : IsBoxes w vb lb) : Calls Tryd.prog 21 #[va, vb] w (SetPost w (ofF orB la lb)) := psUnion_any w ht h1 h2 ha.ok hb.ok ha.le hb.le
theorem inter_set (ha : IsSet la) (hb : IsSet lb) (va vb : Value) (w : World) (ht : Tops w) (h1 : IsBoxes w va la) (h2 : IsBoxes w vb lb) : Calls Tryd.prog 22 #[va, vb] w (SetPost w (ofF andB la lb)) := psIntersect_any w ht h1 h2 ha.ok hb.ok ha.le hb.le
theorem subtr_set (ha : IsSet la) (hb : IsSet lb) (va vb : Value) (w : World) (ht : Tops w) (h1 : IsBoxes w va la) (h2 : IsBoxes w vb lb) : Calls Tryd.prog 23 #[va, vb] w (SetPost w (ofF exB la lb)) := psSubtract_any w ht h1 h2 ha.ok hb.ok ha.le hb.le
theorem compl_set (ha : IsSet la) (va : Value) (w : World) (ht : Tops w) (h1 : IsBoxes w va la) : Calls Tryd.prog 24 #[va] w (SetPost w (ofF exB [fullBx] la)) := psComplement_any w ht h1 ha.ok ha.le
end
set_option maxHeartbeats 64000000 in
theorem psalgebra_law (sl : Value) (zs : List Int) (w : World) (ht : Tops w) (hZ : ZsOk sl zs) (hr : ∀ s ∈ roS sl (ints zs), w.rangeAt s.g s.o s.xs) :
    Calls Tryd.prog 5 #[sl] w fun e w' => e = .returned (.bool true) ∧ Below w.heap.size w w' := by
  have hO := own_law hr
  clear hr
  obtain ⟨sa, sc, rfl, -⟩ := hZ.view
  have k3 : ecd none = 3 := rfl
  have k0 : ∀ u, ecd (some u) = 0 := fun _ => rfl
  go_enter Tryd.func5, Tryd.ntmps5
  go_wp2_with (first | ((with_reducible refine is_load ?_); (first | (refine own_ld (h := ?_)))) | ((with_reducible refine is_store ?_); (first | (refine own_stR (hO := hO) (h := ?_); clear hO; intro wv hO) | (refine own_st1 (hO := hO) (h := ?_); clear hO; intro wv hO))) | (go_at_call 10; (with_reducible refine (new_any _ _ _).mono ?_); rintro e wv ⟨n, rfl, hB, hn, hb⟩; replace hO := hO.gain hb hB hn; have hT := hO.tapeIn List.mem_cons_self (by (intro s hs; repeat (first | exact hs | exact List.mem_append_left _ hs | apply List.mem_append_right | apply List.mem_cons_of_mem))) (Nat.zero_le _); clear hb hB hn) | (go_at_call 25; (fail_if_success (have := la)); (with_reducible refine (tset_any 2 hZ (hO.tapeIn (by (repeat (first | exact List.mem_cons_self | refine List.mem_cons_of_mem _ ?_))) (by (intro s hs; repeat (first | exact hs | exact List.mem_append_left _ hs | apply List.mem_append_right | apply List.mem_cons_of_mem))) hT.le) (by omega) (by omega)).mono ?_); rintro e wv ⟨va, i1, rfl, ⟨l9, k9, n9, hv9, hn9⟩, hk, hT1⟩; obtain ⟨la, hl9⟩ : ∃ la, (makeF l9).getD [] = la := ⟨_, rfl⟩; have hta : IsTwo la := (by rw [← hl9]; exact two_make k9 (by omega)); rw [hl9] at hv9; clear hl9 k9 n9; have hoff9 := off_of_new hO hn9; replace hO := hO.after (by (repeat (first | exact Upd.here | apply Upd.there))) hk hT1.blk; replace hT := hT1; clear hT1 hk; have hfa := hv9.form; obtain ⟨aa, ca, rfl, -, hO⟩ := own_offS hO ⟨hv9, hoff9⟩; clear hv9 hn9 hoff9) | (go_at_call 25; (fail_if_success (have := lb)); (with_reducible refine (tset_any 2 hZ (hO.tapeIn (by (repeat (first | exact List.mem_cons_self | refine List.mem_cons_of_mem _ ?_))) (by (intro s hs; repeat (first | exact hs | exact List.mem_append_left _ hs | apply List.mem_append_right | apply List.mem_cons_of_mem))) hT.le) (by omega) (by omega)).mono ?_); rintro e wv ⟨vb, i1, rfl, ⟨l9, k9, n9, hv9, hn9⟩, hk, hT1⟩; obtain ⟨lb, hl9⟩ : ∃ lb, (makeF l9).getD [] = lb := ⟨_, rfl⟩; have htb : IsTwo lb := (by rw [← hl9]; exact two_make k9 (by omega)); rw [hl9] at hv9; clear hl9 k9 n9; have hoff9 := off_of_new hO hn9; replace hO := hO.after (by (repeat (first | exact Upd.here | apply Upd.there))) hk hT1.blk; replace hT := hT1; clear hT1 hk; have hfb := hv9.form; obtain ⟨ab, cb, rfl, -, hO⟩ := own_offS hO ⟨hv9, hoff9⟩; clear hv9 hn9 hoff9) | (go_at_call 25; (with_reducible refine (tset_any 2 hZ (hO.tapeIn (by (repeat (first | exact List.mem_cons_self | refine List.mem_cons_of_mem _ ?_))) (by (intro s hs; repeat (first | exact hs | exact List.mem_append_left _ hs | apply List.mem_append_right | apply List.mem_cons_of_mem))) hT.le) (by omega) (by omega)).mono ?_); rintro e wv ⟨vc, i1, rfl, ⟨l9, k9, n9, hv9, hn9⟩, hk, hT1⟩; obtain ⟨lc, hl9⟩ : ∃ lc, (makeF l9).getD [] = lc := ⟨_, rfl⟩; have htc : IsTwo lc := (by rw [← hl9]; exact two_make k9 (by omega)); rw [hl9] at hv9; clear hl9 k9 n9; have hoff9 := off_of_new hO hn9; replace hO := hO.after (by (repeat (first | exact Upd.here | apply Upd.there))) hk hT1.blk; replace hT := hT1; clear hT1 hk; have hfc := hv9.form; obtain ⟨ac, cc, rfl, -, hO⟩ := own_offS hO ⟨hv9, hoff9⟩; clear hv9 hn9 hoff9))
  have sA := Lib.hid hta.1
  have sB := Lib.hid htb.1
  have sC := Lib.hid htc.1
  have hUab := union_set sA.out sB.out
  have hUba := union_set sB.out sA.out
  rw [alg_or sA.out sB.out] at hUba
  have hUbc := union_set sB.out sC.out
  obtain ⟨lp, ep⟩ := and_some hta htb
  obtain ⟨lq, eq⟩ := and_some hta htc
  have sP := Lib.hid (ofF_sp sA.out sB.out ep).1
  have sQ := Lib.hid (ofF_sp sA.out sC.out eq).1
  have hP := inter_set sA.out sB.out
  rw [ep] at hP
  have hQ := inter_set sA.out sC.out
  rw [eq] at hQ
  have EP := Lib.hid ep
  have EQ := Lib.hid eq
  obtain ⟨RU, eU⟩ : ∃ R, ofF orB la lb = R := ⟨_, rfl⟩
  rw [eU] at hUab hUba
  obtain ⟨RV, eV⟩ : ∃ R, ofF orB lb lc = R := ⟨_, rfl⟩
  rw [eV] at hUbc
  have EU := Lib.hid eU
  have EV := Lib.hid eV
  clear eU eV ep eq hta htb htc
  go_upto_region 6 with (first | ((with_reducible refine is_load ?_); (first | (refine own_ld (h := ?_)))) | ((with_reducible refine is_store ?_); (first | (refine own_stR (hO := hO) (h := ?_); clear hO; intro wv hO) | (refine own_st1 (hO := hO) (h := ?_); clear hO; intro wv hO))) | (go_at_call 21; (with_reducible refine (hUab _ _ _ (hO.tops ht (by simp)) (hO.isB hfa (by intro q hq; repeat (first | exact hq | exact List.mem_append_left _ hq | apply List.mem_append_right | apply List.mem_cons_of_mem))) (hO.isB hfb (by intro q hq; repeat (first | exact hq | exact List.mem_append_left _ hq | apply List.mem_append_right | apply List.mem_cons_of_mem)))).mono ?_); rintro e wv hpo; obtain ⟨vu, rfl, hv9, hn9, hb9⟩ := hpo.uni; (try dsimp only [Option.getD_some] at hv9); have hfu := hv9.form; replace hO := hO.gainB hb9 hv9 hn9; clear hb9 hv9 hn9 hpo; obtain ⟨au, cu, rfl, -⟩ := hfu.view) | (go_at_call 21; (with_reducible refine (hUba _ _ _ (hO.tops ht (by simp)) (hO.isB hfb (by intro q hq; repeat (first | exact hq | exact List.mem_append_left _ hq | apply List.mem_append_right | apply List.mem_cons_of_mem))) (hO.isB hfa (by intro q hq; repeat (first | exact hq | exact List.mem_append_left _ hq | apply List.mem_append_right | apply List.mem_cons_of_mem)))).mono ?_); rintro e wv hpo; obtain ⟨vr, rfl, hv9, hn9, hb9⟩ := hpo.uni; (try dsimp only [Option.getD_some] at hv9); have hfr := hv9.form; replace hO := hO.gainB hb9 hv9 hn9; clear hb9 hv9 hn9 hpo; obtain ⟨ar, cr, rfl, -⟩ := hfr.view) | (go_at_call 21; (with_reducible refine (hUbc _ _ _ (hO.tops ht (by simp)) (hO.isB hfb (by intro q hq; repeat (first | exact hq | exact List.mem_append_left _ hq | apply List.mem_append_right | apply List.mem_cons_of_mem))) (hO.isB hfc (by intro q hq; repeat (first | exact hq | exact List.mem_append_left _ hq | apply List.mem_append_right | apply List.mem_cons_of_mem)))).mono ?_); rintro e wv hpo; obtain ⟨vv, rfl, hv9, hn9, hb9⟩ := hpo.uni; (try dsimp only [Option.getD_some] at hv9); have hfv := hv9.form; replace hO := hO.gainB hb9 hv9 hn9; clear hb9 hv9 hn9 hpo; obtain ⟨av, cv, rfl, -⟩ := hfv.view))
  cases RU with
  | none =>
    go_wp2_with (first | ((with_reducible refine is_load ?_); (first | (refine own_ld (h := ?_)))) | ((with_reducible refine is_store ?_); (first | (refine own_stR (hO := hO) (h := ?_); clear hO; intro wv hO) | (refine own_st1 (hO := hO) (h := ?_); clear hO; intro wv hO))) | (go_at_call 19; refine (sane4_any _ (hO.tops ht (by simp))).mono ?_; rintro e wv ⟨rfl, hb⟩; replace hO := hO.call hb; clear hb))
    go_ret
    exact ⟨rfl, hO.keep.below⟩
  | some lu =>
    cases RV with
    | none =>
      go_wp2_with (first | ((with_reducible refine is_load ?_); (first | (refine own_ld (h := ?_)))) | ((with_reducible refine is_store ?_); (first | (refine own_stR (hO := hO) (h := ?_); clear hO; intro wv hO) | (refine own_st1 (hO := hO) (h := ?_); clear hO; intro wv hO))) | (go_at_call 19; refine (sane4_any _ (hO.tops ht (by simp))).mono ?_; rintro e wv ⟨rfl, hb⟩; replace hO := hO.call hb; clear hb))
      go_ret
      exact ⟨rfl, hO.keep.below⟩
    | some lv =>
      have sU := Lib.hid (ofF_sp sA.out sB.out EU.out).1
      have sV := Lib.hid (ofF_sp sB.out sC.out EV.out).1
      have hI := inter_set sA.out sV.out
      have hY := union_set sP.out sQ.out
      have hNA := compl_set sA.out
      have hNB := compl_set sB.out
      have hNU := compl_set sU.out
      obtain ⟨RX, eX⟩ : ∃ R, ofF andB la lv = R := ⟨_, rfl⟩
      obtain ⟨RY, eY⟩ : ∃ R, ofF orB lp lq = R := ⟨_, rfl⟩
      obtain ⟨RE, eE⟩ : ∃ R, ofF exB [fullBx] la = R := ⟨_, rfl⟩
      obtain ⟨RF, eF⟩ : ∃ R, ofF exB [fullBx] lb = R := ⟨_, rfl⟩
      obtain ⟨RG, eG⟩ : ∃ R, ofF exB [fullBx] lu = R := ⟨_, rfl⟩
      rw [eX] at hI
      rw [eY] at hY
      rw [eE] at hNA
      rw [eF] at hNB
      rw [eG] at hNU
      have EX := Lib.hid eX
      have EY := Lib.hid eY
      have EE := Lib.hid eE
      have EF := Lib.hid eF
      have EG := Lib.hid eG
      clear eX eY eE eF eG hUab hUba hUbc
      dsimp only [Option.getD_some] at hfu hfr hfv hO
      go_upto_region 15 with (first | ((with_reducible refine is_load ?_); (first | (refine own_ld (h := ?_)))) | ((with_reducible refine is_store ?_); (first | (refine own_stR (hO := hO) (h := ?_); clear hO; intro wv hO) | (refine own_st1 (hO := hO) (h := ?_); clear hO; intro wv hO))) | (go_at_call 22; (with_reducible refine (hI _ _ _ (hO.tops ht (by simp)) (hO.isB hfa (by intro q hq; repeat (first | exact hq | exact List.mem_append_left _ hq | apply List.mem_append_right | apply List.mem_cons_of_mem))) (hO.isB hfv (by intro q hq; repeat (first | exact hq | exact List.mem_append_left _ hq | apply List.mem_append_right | apply List.mem_cons_of_mem)))).mono ?_); rintro e wv hpo; obtain ⟨vx, rfl, hv9, hn9, hb9⟩ := hpo.uni; (try dsimp only [Option.getD_some] at hv9); have hfx := hv9.form; replace hO := hO.gainB hb9 hv9 hn9; clear hb9 hv9 hn9 hpo; obtain ⟨ax, cx, rfl, -⟩ := hfx.view) | (go_at_call 22; (with_reducible refine (hP _ _ _ (hO.tops ht (by simp)) (hO.isB hfa (by intro q hq; repeat (first | exact hq | exact List.mem_append_left _ hq | apply List.mem_append_right | apply List.mem_cons_of_mem))) (hO.isB hfb (by intro q hq; repeat (first | exact hq | exact List.mem_append_left _ hq | apply List.mem_append_right | apply List.mem_cons_of_mem)))).mono ?_); rintro e wv hpo; obtain ⟨vp, rfl, hv9, hn9, hb9⟩ := hpo.uni; (try dsimp only [Option.getD_some] at hv9); have hfp := hv9.form; replace hO := hO.gainB hb9 hv9 hn9; clear hb9 hv9 hn9 hpo; obtain ⟨ap, cp, rfl, -⟩ := hfp.view) | (go_at_call 22; (with_reducible refine (hQ _ _ _ (hO.tops ht (by simp)) (hO.isB hfa (by intro q hq; repeat (first | exact hq | exact List.mem_append_left _ hq | apply List.mem_append_right | apply List.mem_cons_of_mem))) (hO.isB hfc (by intro q hq; repeat (first | exact hq | exact List.mem_append_left _ hq | apply List.mem_append_right | apply List.mem_cons_of_mem)))).mono ?_); rintro e wv hpo; obtain ⟨vq, rfl, hv9, hn9, hb9⟩ := hpo.uni; (try dsimp only [Option.getD_some] at hv9); have hfq := hv9.form; replace hO := hO.gainB hb9 hv9 hn9; clear hb9 hv9 hn9 hpo; obtain ⟨aq, cq, rfl, -⟩ := hfq.view) | (go_at_call 21; (with_reducible refine (hY _ _ _ (hO.tops ht (by simp)) (hO.isB hfp (by intro q hq; repeat (first | exact hq | exact List.mem_append_left _ hq | apply List.mem_append_right | apply List.mem_cons_of_mem))) (hO.isB hfq (by intro q hq; repeat (first | exact hq | exact List.mem_append_left _ hq | apply List.mem_append_right | apply List.mem_cons_of_mem)))).mono ?_); rintro e wv hpo; obtain ⟨vy, rfl, hv9, hn9, hb9⟩ := hpo.uni; (try dsimp only [Option.getD_some] at hv9); have hfy := hv9.form; replace hO := hO.gainB hb9 hv9 hn9; clear hb9 hv9 hn9 hpo; obtain ⟨ay, cy, rfl, -⟩ := hfy.view) | (go_at_call 24; (with_reducible refine (hNA _ _ (hO.tops ht (by simp)) (hO.isB hfa (by intro q hq; repeat (first | exact hq | exact List.mem_append_left _ hq | apply List.mem_append_right | apply List.mem_cons_of_mem)))).mono ?_); rintro e wv hpo; obtain ⟨ve, rfl, hv9, hn9, hb9⟩ := hpo.uni; (try dsimp only [Option.getD_some] at hv9); have hfe := hv9.form; replace hO := hO.gainB hb9 hv9 hn9; clear hb9 hv9 hn9 hpo; obtain ⟨ae, ce, rfl, -⟩ := hfe.view) | (go_at_call 24; (with_reducible refine (hNB _ _ (hO.tops ht (by simp)) (hO.isB hfb (by intro q hq; repeat (first | exact hq | exact List.mem_append_left _ hq | apply List.mem_append_right | apply List.mem_cons_of_mem)))).mono ?_); rintro e wv hpo; obtain ⟨vf, rfl, hv9, hn9, hb9⟩ := hpo.uni; (try dsimp only [Option.getD_some] at hv9); have hff := hv9.form; replace hO := hO.gainB hb9 hv9 hn9; clear hb9 hv9 hn9 hpo; obtain ⟨af, cf, rfl, -⟩ := hff.view) | (go_at_call 24; (with_reducible refine (hNU _ _ (hO.tops ht (by simp)) (hO.isB hfu (by intro q hq; repeat (first | exact hq | exact List.mem_append_left _ hq | apply List.mem_append_right | apply List.mem_cons_of_mem)))).mono ?_); rintro e wv hpo; obtain ⟨vg, rfl, hv9, hn9, hb9⟩ := hpo.uni; (try dsimp only [Option.getD_some] at hv9); have hfg := hv9.form; replace hO := hO.gainB hb9 hv9 hn9; clear hb9 hv9 hn9 hpo; obtain ⟨ag, cg, rfl, -⟩ := hfg.view))
      (try dsimp only [Option.getD_some] at hO)
      cases RX with
      | none =>
        go_wp2_with (first | ((with_reducible refine is_load ?_); (first | (refine own_ld (h := ?_)))) | ((with_reducible refine is_store ?_); (first | (refine own_stR (hO := hO) (h := ?_); clear hO; intro wv hO) | (refine own_st1 (hO := hO) (h := ?_); clear hO; intro wv hO))) | (go_at_call 19; refine (sane4_any _ (hO.tops ht (by simp))).mono ?_; rintro e wv ⟨rfl, hb⟩; replace hO := hO.call hb; clear hb))
        go_ret
        exact ⟨rfl, hO.keep.below⟩
      | some lx =>
        cases RE with
        | none =>
          go_wp2_with (first | ((with_reducible refine is_load ?_); (first | (refine own_ld (h := ?_)))) | ((with_reducible refine is_store ?_); (first | (refine own_stR (hO := hO) (h := ?_); clear hO; intro wv hO) | (refine own_st1 (hO := hO) (h := ?_); clear hO; intro wv hO))) | (go_at_call 19; refine (sane4_any _ (hO.tops ht (by simp))).mono ?_; rintro e wv ⟨rfl, hb⟩; replace hO := hO.call hb; clear hb))
          go_ret
          exact ⟨rfl, hO.keep.below⟩
        | some le =>
          cases RF with
          | none =>
            go_wp2_with (first | ((with_reducible refine is_load ?_); (first | (refine own_ld (h := ?_)))) | ((with_reducible refine is_store ?_); (first | (refine own_stR (hO := hO) (h := ?_); clear hO; intro wv hO) | (refine own_st1 (hO := hO) (h := ?_); clear hO; intro wv hO))) | (go_at_call 19; refine (sane4_any _ (hO.tops ht (by simp))).mono ?_; rintro e wv ⟨rfl, hb⟩; replace hO := hO.call hb; clear hb))
            go_ret
            exact ⟨rfl, hO.keep.below⟩
          | some lf =>
            cases RG with
            | none =>
              go_wp2_with (first | ((with_reducible refine is_load ?_); (first | (refine own_ld (h := ?_)))) | ((with_reducible refine is_store ?_); (first | (refine own_stR (hO := hO) (h := ?_); clear hO; intro wv hO) | (refine own_st1 (hO := hO) (h := ?_); clear hO; intro wv hO))) | (go_at_call 19; refine (sane4_any _ (hO.tops ht (by simp))).mono ?_; rintro e wv ⟨rfl, hb⟩; replace hO := hO.call hb; clear hb))
              go_ret
              exact ⟨rfl, hO.keep.below⟩
            | some lg =>
              have sE := Lib.hid (comp_sp sA.out EE.out).1
              have sF := Lib.hid (comp_sp sB.out EF.out).1
              have hM := inter_set sE.out sF.out
              have hD := subtr_set sA.out sB.out
              have hWW := inter_set sA.out sF.out
              have hNN := compl_set sE.out
              obtain ⟨RM, eM⟩ : ∃ R, ofF andB le lf = R := ⟨_, rfl⟩
              obtain ⟨RD, eD⟩ : ∃ R, ofF exB la lb = R := ⟨_, rfl⟩
              obtain ⟨RW, eW⟩ : ∃ R, ofF andB la lf = R := ⟨_, rfl⟩
              obtain ⟨RN, eN⟩ : ∃ R, ofF exB [fullBx] le = R := ⟨_, rfl⟩
              rw [eM] at hM
              rw [eD] at hD
              rw [eW] at hWW
              rw [eN] at hNN
              have EM := Lib.hid eM
              have ED := Lib.hid eD
              have EW := Lib.hid eW
              have EN := Lib.hid eN
              clear eM eD eW eN hI hP hQ hY hNA hNB hNU
              dsimp only [Option.getD_some] at hfx hfe hff hfg hO
              go_upto_region 21 with (first | ((with_reducible refine is_load ?_); (first | (refine own_ld (h := ?_)))) | ((with_reducible refine is_store ?_); (first | (refine own_stR (hO := hO) (h := ?_); clear hO; intro wv hO) | (refine own_st1 (hO := hO) (h := ?_); clear hO; intro wv hO))) | (go_at_call 22; (with_reducible refine (hM _ _ _ (hO.tops ht (by simp)) (hO.isB hfe (by intro q hq; repeat (first | exact hq | exact List.mem_append_left _ hq | apply List.mem_append_right | apply List.mem_cons_of_mem))) (hO.isB hff (by intro q hq; repeat (first | exact hq | exact List.mem_append_left _ hq | apply List.mem_append_right | apply List.mem_cons_of_mem)))).mono ?_); rintro e wv hpo; obtain ⟨vm, rfl, hv9, hn9, hb9⟩ := hpo.uni; (try dsimp only [Option.getD_some] at hv9); have hfm := hv9.form; replace hO := hO.gainB hb9 hv9 hn9; clear hb9 hv9 hn9 hpo; obtain ⟨am, cm, rfl, -⟩ := hfm.view) | (go_at_call 23; (with_reducible refine (hD _ _ _ (hO.tops ht (by simp)) (hO.isB hfa (by intro q hq; repeat (first | exact hq | exact List.mem_append_left _ hq | apply List.mem_append_right | apply List.mem_cons_of_mem))) (hO.isB hfb (by intro q hq; repeat (first | exact hq | exact List.mem_append_left _ hq | apply List.mem_append_right | apply List.mem_cons_of_mem)))).mono ?_); rintro e wv hpo; obtain ⟨vd, rfl, hv9, hn9, hb9⟩ := hpo.uni; (try dsimp only [Option.getD_some] at hv9); have hfd := hv9.form; replace hO := hO.gainB hb9 hv9 hn9; clear hb9 hv9 hn9 hpo; obtain ⟨ad, cd, rfl, -⟩ := hfd.view) | (go_at_call 22; (with_reducible refine (hWW _ _ _ (hO.tops ht (by simp)) (hO.isB hfa (by intro q hq; repeat (first | exact hq | exact List.mem_append_left _ hq | apply List.mem_append_right | apply List.mem_cons_of_mem))) (hO.isB hff (by intro q hq; repeat (first | exact hq | exact List.mem_append_left _ hq | apply List.mem_append_right | apply List.mem_cons_of_mem)))).mono ?_); rintro e wv hpo; obtain ⟨vw, rfl, hv9, hn9, hb9⟩ := hpo.uni; (try dsimp only [Option.getD_some] at hv9); have hfw := hv9.form; replace hO := hO.gainB hb9 hv9 hn9; clear hb9 hv9 hn9 hpo; obtain ⟨aw, cw, rfl, -⟩ := hfw.view) | (go_at_call 24; (with_reducible refine (hNN _ _ (hO.tops ht (by simp)) (hO.isB hfe (by intro q hq; repeat (first | exact hq | exact List.mem_append_left _ hq | apply List.mem_append_right | apply List.mem_cons_of_mem)))).mono ?_); rintro e wv hpo; obtain ⟨vn, rfl, hv9, hn9, hb9⟩ := hpo.uni; (try dsimp only [Option.getD_some] at hv9); have hfn := hv9.form; replace hO := hO.gainB hb9 hv9 hn9; clear hb9 hv9 hn9 hpo; obtain ⟨an, cn, rfl, -⟩ := hfn.view))
              cases RY with
              | none =>
                go_wp2_with (first | ((with_reducible refine is_load ?_); (first | (refine own_ld (h := ?_)))) | ((with_reducible refine is_store ?_); (first | (refine own_stR (hO := hO) (h := ?_); clear hO; intro wv hO) | (refine own_st1 (hO := hO) (h := ?_); clear hO; intro wv hO))) | (go_at_call 19; refine (sane4_any _ (hO.tops ht (by simp))).mono ?_; rintro e wv ⟨rfl, hb⟩; replace hO := hO.call hb; clear hb))
                go_ret
                exact ⟨rfl, hO.keep.below⟩
              | some ly =>
                cases RM with
                | none =>
                  go_wp2_with (first | ((with_reducible refine is_load ?_); (first | (refine own_ld (h := ?_)))) | ((with_reducible refine is_store ?_); (first | (refine own_stR (hO := hO) (h := ?_); clear hO; intro wv hO) | (refine own_st1 (hO := hO) (h := ?_); clear hO; intro wv hO))) | (go_at_call 19; refine (sane4_any _ (hO.tops ht (by simp))).mono ?_; rintro e wv ⟨rfl, hb⟩; replace hO := hO.call hb; clear hb))
                  go_ret
                  exact ⟨rfl, hO.keep.below⟩
                | some lm =>
                  cases RW with
                  | none =>
                    go_wp2_with (first | ((with_reducible refine is_load ?_); (first | (refine own_ld (h := ?_)))) | ((with_reducible refine is_store ?_); (first | (refine own_stR (hO := hO) (h := ?_); clear hO; intro wv hO) | (refine own_st1 (hO := hO) (h := ?_); clear hO; intro wv hO))) | (go_at_call 19; refine (sane4_any _ (hO.tops ht (by simp))).mono ?_; rintro e wv ⟨rfl, hb⟩; replace hO := hO.call hb; clear hb))
                    go_ret
                    exact ⟨rfl, hO.keep.below⟩
                  | some lw =>
                    cases RN with
                    | none =>
                      go_wp2_with (first | ((with_reducible refine is_load ?_); (first | (refine own_ld (h := ?_)))) | ((with_reducible refine is_store ?_); (first | (refine own_stR (hO := hO) (h := ?_); clear hO; intro wv hO) | (refine own_st1 (hO := hO) (h := ?_); clear hO; intro wv hO))) | (go_at_call 19; refine (sane4_any _ (hO.tops ht (by simp))).mono ?_; rintro e wv ⟨rfl, hb⟩; replace hO := hO.call hb; clear hb))
                      go_ret
                      exact ⟨rfl, hO.keep.below⟩
                    | some ln =>
                      cases RD with
                      | none =>
                        go_wp2_with (first | ((with_reducible refine is_load ?_); (first | (refine own_ld (h := ?_)))) | ((with_reducible refine is_store ?_); (first | (refine own_stR (hO := hO) (h := ?_); clear hO; intro wv hO) | (refine own_st1 (hO := hO) (h := ?_); clear hO; intro wv hO))) | (go_at_call 19; refine (sane4_any _ (hO.tops ht (by simp))).mono ?_; rintro e wv ⟨rfl, hb⟩; replace hO := hO.call hb; clear hb))
                        go_ret
                        exact ⟨rfl, hO.keep.below⟩
                      | some ld =>
                        obtain rfl := alg_dist sA.out sB.out sC.out EV.out EX.out EP.out EQ.out EY.out
                        obtain rfl := alg_mor sA.out sB.out EU.out EE.out EF.out EG.out EM.out
                        obtain rfl := alg_sub sA.out sB.out ED.out EF.out EW.out
                        obtain rfl := alg_not sA.out EE.out EN.out
                        have nU : lu.length ≤ 9223372036854775806 := Nat.le_trans sU.out.le (by omega)
                        have nX : lx.length ≤ 9223372036854775806 := Nat.le_trans (ofF_sp sA.out sV.out EX.out).1.le (by omega)
                        have nG : lg.length ≤ 9223372036854775806 := Nat.le_trans (comp_sp sU.out EG.out).1.le (by omega)
                        have nN : ln.length ≤ 9223372036854775806 := Nat.le_trans (comp_sp sE.out EN.out).1.le (by omega)
                        have nD : ld.length ≤ 9223372036854775806 := Nat.le_trans (ofF_sp sA.out sB.out ED.out).1.le (by omega)
                        trace_state
                        clear hM hD hWW hNN
                        dsimp only [Option.getD_some] at hfy hfm hfw hfn hfd hO
                        go_wp2_with (first | ((with_reducible refine is_load ?_); (first | (refine own_ld (h := ?_)))) | ((with_reducible refine is_store ?_); (first | (refine own_stR (hO := hO) (h := ?_); clear hO; intro wv hO) | (refine own_st1 (hO := hO) (h := ?_); clear hO; intro wv hO))) | (go_at_call 18; (with_reducible refine (rsame4_any _ _ _ _ (hO.isB hfu (by intro q hq; repeat (first | exact hq | exact List.mem_append_left _ hq | apply List.mem_append_right | apply List.mem_cons_of_mem))) (hO.isB hfr (by intro q hq; repeat (first | exact hq | exact List.mem_append_left _ hq | apply List.mem_append_right | apply List.mem_cons_of_mem))) (by omega)).mono ?_); rintro e wv ⟨rfl, hb9⟩; replace hO := hO.call hb9; clear hb9) | (go_at_call 18; (with_reducible refine (rsame4_any _ _ _ _ (hO.isB hfx (by intro q hq; repeat (first | exact hq | exact List.mem_append_left _ hq | apply List.mem_append_right | apply List.mem_cons_of_mem))) (hO.isB hfy (by intro q hq; repeat (first | exact hq | exact List.mem_append_left _ hq | apply List.mem_append_right | apply List.mem_cons_of_mem))) (by omega)).mono ?_); rintro e wv ⟨rfl, hb9⟩; replace hO := hO.call hb9; clear hb9) | (go_at_call 18; (with_reducible refine (rsame4_any _ _ _ _ (hO.isB hfg (by intro q hq; repeat (first | exact hq | exact List.mem_append_left _ hq | apply List.mem_append_right | apply List.mem_cons_of_mem))) (hO.isB hfm (by intro q hq; repeat (first | exact hq | exact List.mem_append_left _ hq | apply List.mem_append_right | apply List.mem_cons_of_mem))) (by omega)).mono ?_); rintro e wv ⟨rfl, hb9⟩; replace hO := hO.call hb9; clear hb9) | (go_at_call 18; (with_reducible refine (rsame4_any _ _ _ _ (hO.isB hfd (by intro q hq; repeat (first | exact hq | exact List.mem_append_left _ hq | apply List.mem_append_right | apply List.mem_cons_of_mem))) (hO.isB hfw (by intro q hq; repeat (first | exact hq | exact List.mem_append_left _ hq | apply List.mem_append_right | apply List.mem_cons_of_mem))) (by omega)).mono ?_); rintro e wv ⟨rfl, hb9⟩; replace hO := hO.call hb9; clear hb9) | (go_at_call 18; (with_reducible refine (rsame4_any _ _ _ _ (hO.isB hfn (by intro q hq; repeat (first | exact hq | exact List.mem_append_left _ hq | apply List.mem_append_right | apply List.mem_cons_of_mem))) (hO.isB hfa (by intro q hq; repeat (first | exact hq | exact List.mem_append_left _ hq | apply List.mem_append_right | apply List.mem_cons_of_mem))) (by omega)).mono ?_); rintro e wv ⟨rfl, hb9⟩; replace hO := hO.call hb9; clear hb9) | (go_at_call 19; refine (sane4_any _ (hO.tops ht (by simp))).mono ?_; rintro e wv ⟨rfl, hb⟩; replace hO := hO.call hb; clear hb))
                        go_ret
                        exact ⟨rfl, hO.keep.below⟩
end Go.Proofs.YtdfihajngmgigaaDoor
