/- The reference's Subset. -/
import Derived.Test.YtjoionnnpjajmaaDoorOA
import Derived.Test.YtjoionnnpjajmaaDoorOB
import Derived.Test.YtjoionnnpjajmaaDoorNG
import Derived.Test.YtjoionnnpjajmaaDoorPL
import Derived.Test.YtjoionnnpjajmaaDoorOD
import Derived.Test.YtjoionnnpjajmaaDoorMB
namespace Go.Proofs.YtjoionnnpjajmaaDoor
open Go.RowKit
set_option maxRecDepth 100000
set_option maxHeartbeats 4000000 in
theorem rsubset4_any {va vb : Value} {la lb : List Bx} (w : World) (hva : IsBoxes w va la) (hvb : IsBoxes w vb lb) (ka : okL la) (kb : okL lb) (na : la.length ≤ 1000000000) (nb : lb.length ≤ 1000000000) (hD : (canonF exB 0 5 (valF la) (valF lb)).length ≤ 10000000000) :
  Calls Tryd.prog 15 #[va, vb] w fun e w' => e = .returned (.bool (canonF exB 0 5 (valF la) (valF lb)).isEmpty) ∧ Below w.heap.size w w' := by
 have hO := own_start [] w
 have h0a := fun w hv => rvals_any (vl := va) (l := la) w hv (by omega)
 have h0b := fun w hv => rvals_any (vl := vb) (l := lb) w hv (by omega)
 have nA := valF_le la
 have nB := valF_le lb
 have h1 : ∀ (v1 v2 : Value) (w : World), IsBoxes w v1 (valF la) → IsBoxes w v2 (valF lb) → Calls Tryd.prog 35 #[v1, v2, .int .i64 2, .int .i64 0] w (RetBoxes w (canonF exB 0 5 (valF la) (valF lb))) := fun v1 v2 w h1 h2 => rrests_any opr_ex 5 0 rfl v1 v2 (valF la) (valF lb) w h1 h2 (valF_vL ka) (valF_vL kb) (by omega) (by omega) (by omega)
 clear hD
 generalize canonF exB 0 5 (valF la) (valF lb) = D at *
 generalize valF la = A at *
 generalize valF lb = B at *
 have hE : ((D.length : Int) == 0) = D.isEmpty := by cases D <;> simp <;> omega
 generalize D.isEmpty = b at *
 go_enter Tryd.func15, Tryd.ntmps15
 go_wp2_with (first | refine ldNT ?_ | ((first | refine stNT hO ?_ | refine st1NT hO ?_); clear hO; intro wv hO) | (go_at_call 36; (with_reducible refine (h0a _ (hva.keep0 hO)).mono ?_); rintro e wv ⟨v1, rfl, ⟨hv9, hn9⟩, hb9⟩; have hf1 := hv9.form; replace hO := hO.gainB hb9 hv9 hn9; clear hb9 hv9 hn9 h0a) | (go_at_call 36; (with_reducible refine (h0b _ (hvb.keep0 hO)).mono ?_); rintro e wv ⟨v2, rfl, ⟨hv9, hn9⟩, hb9⟩; have hf2 := hv9.form; replace hO := hO.gainB hb9 hv9 hn9; clear hb9 hv9 hn9 h0b) | (go_at_call 35; (with_reducible refine (h1 _ _ _ (hO.isB hf1 (fun q hq => List.mem_append_right _ (List.mem_append_left _ hq))) (hO.isB hf2 (fun q hq => List.mem_append_left _ hq))).mono ?_); rintro e wv ⟨v3, rfl, ⟨hv9, hn9⟩, hb9⟩; obtain ⟨a3, c3, rfl, -⟩ := hv9.form.view; replace hO := hO.call hb9; clear hb9 hv9 hn9))
 go_ret
 exact ⟨rfl, hO.keep.below⟩
theorem deadL_one (f : Fnd) : deadL [f] = if f.2.1 == 1 then 1 else 0 := by unfold deadL; cases h : f.2.1 == 1 <;> simp [h]
theorem Ends.val {N : Nat} {l : List Bx} (h : Ends N l) : Ends N (valF l) := by
 obtain ⟨e, he⟩ := h.at
 exact EndsAt.ends fun k hk => ⟨(he k hk).1, fun b hb => (he k hk).2 b (List.mem_filter.1 hb).1⟩
def bxAt (t : List Rul) (z : Int) : Bx := match t[z.toNat]? with | some r => r.1 | none => zeroBx
theorem bxAt_of {t : List Rul} {k : Nat} (h : k < t.length) : bxAt t (k : Int) = t[k].1 := by unfold bxAt; rw [Int.toNat_natCast, List.getElem?_eq_getElem h]
set_option maxHeartbeats 32000000 in
theorem shdead_law (sl : Value) (zs : List Int) (w : World) (ht : Tops w) (hZ : ZsOk sl zs) (hr : ∀ s ∈ roS sl (ints zs), w.rangeAt s.g s.o s.xs) :
  Calls Tryd.prog 4 #[sl] w fun e w' => e = .returned (.bool true) ∧ Below w.heap.size w w' := by
 have hO := own_law hr
 clear hr
 obtain ⟨sa, sc, rfl, -⟩ := hZ.view
 go_enter Tryd.func4, Tryd.ntmps4
 go_upto_region 3 with (first | refine ldNT ?_ | ((first | refine stNT hO ?_ | refine st1NT hO ?_); clear hO; intro wv hO) | (refine bl9T 120 hO ?_; clear hO; intro n120 wv hO) | (refine bl9T 131 hO ?_; clear hO; intro n131 wv hO) | (refine ap9T 121 hO ?_; clear hO; intro g121 c121 wv hO) | (go_at_call 6; (with_reducible refine (new_any _ _ _).mono ?_); rintro e wv ⟨n, rfl, hB, hn, hb⟩; replace hO := hO.gain hb hB hn; have hT := hO.tapeIn List.mem_cons_self (by (intro s hs; repeat (first | exact hs | exact List.mem_append_left _ hs | apply List.mem_append_right | apply List.mem_cons_of_mem))) (Nat.zero_le _); clear hb hB hn) | (go_at_call 7; (with_reducible refine (ltable_any 5 false hZ (hO.tapeIn (by (repeat (first | exact List.mem_cons_self | refine List.mem_cons_of_mem _ ?_))) (by (intro s hs; repeat (first | exact hs | exact List.mem_append_left _ hs | apply List.mem_append_right | apply List.mem_cons_of_mem))) hT.le) (by omega) (by omega)).mono ?_); rintro e wv ⟨vy, i1, rfl, ⟨y, hv9, hn9, ky, ny, kg9⟩, hk9, hT1⟩; have gy := kg9 rfl; have hoff9 := off_of_new hO hn9; replace hO := hO.after (by (repeat (first | exact Upd.here | apply Upd.there))) hk9 hT1.blk; replace hT := hT1; clear hT1 hk9 kg9; have hfy := hv9.form; obtain ⟨ay, cy, rfl, hay, hO⟩ := own_offRS hO ⟨hv9, hoff9⟩; clear hv9 hn9 hoff9))
 have hV := good_validT gy (by omega)
 have h1 : ∀ w, Tops w → IsTable w (.slice ay y.length cy) y → Calls Tryd.prog 13 #[.slice ay y.length cy] w (AnPost w ((anF y y.length).getD [], anE (anF y y.length))) := fun w ht hv => by
  have h := sAnalyze_any w ht hv ky (by omega)
  unfold anR at h
  rw [if_pos hV] at h
  exact h
 have h2 : ∀ w, Tops w → IsTable w (.slice ay y.length cy) y → Calls Tryd.prog 14 #[.slice ay y.length cy] w (TabPost w (pruneG [] y)) := fun w ht hv => fPrune_any w ht hv ky (by omega)
 cases hA : anF y y.length with
 | none =>
  rw [hA] at h1
  replace h1 : ∀ w, Tops w → IsTable w (.slice ay y.length cy) y → Calls Tryd.prog 13 #[.slice ay y.length cy] w (AnPost w ([], 3)) := h1
  clear hA hV
  generalize pruneG [] y = Y at *
  go_wp2_with (first | refine ldNT ?_ | ((first | refine stNT hO ?_ | refine st1NT hO ?_); clear hO; intro wv hO) | (refine bl9T 120 hO ?_; clear hO; intro n120 wv hO) | (refine bl9T 131 hO ?_; clear hO; intro n131 wv hO) | (refine ap9T 121 hO ?_; clear hO; intro g121 c121 wv hO) | (go_at_call 13; (with_reducible refine (h1 _ (hO.tops ht (by simp)) (hO.isRm hfy)).mono ?_); rintro e wv ⟨v1, ps, rfl, -, -, hb9⟩; replace hO := hO.call hb9; clear hb9 h1) | (go_at_call 14; (with_reducible refine (h2 _ (hO.tops ht (by simp)) (hO.isRm hfy)).mono ?_); rintro e wv hpo; obtain ⟨v2, rfl, -, -, hb9⟩ := hpo.uni; replace hO := hO.call hb9; clear hb9 h2 hpo) | (go_at_call 9; (with_reducible refine (sane32_any _ (hO.tops ht (by simp))).mono ?_); rintro e wv ⟨rfl, hb9⟩; replace hO := hO.call hb9; clear hb9))
  go_ret
  exact ⟨rfl, hO.keep.below⟩
 | some l =>
  rw [hA] at h1
  replace h1 : ∀ w, Tops w → IsTable w (.slice ay y.length cy) y → Calls Tryd.prog 13 #[.slice ay y.length cy] w (AnPost w (l, 0)) := h1
  cases hP : pruneG [] y with
  | none =>
   rw [hP] at h2
   clear hA hV hP
   go_wp2_with (first | refine ldNT ?_ | ((first | refine stNT hO ?_ | refine st1NT hO ?_); clear hO; intro wv hO) | (refine bl9T 120 hO ?_; clear hO; intro n120 wv hO) | (refine bl9T 131 hO ?_; clear hO; intro n131 wv hO) | (refine ap9T 121 hO ?_; clear hO; intro g121 c121 wv hO) | (go_at_call 13; (with_reducible refine (h1 _ (hO.tops ht (by simp)) (hO.isRm hfy)).mono ?_); rintro e wv ⟨v1, ps, rfl, -, -, hb9⟩; replace hO := hO.call hb9; clear hb9 h1) | (go_at_call 14; (with_reducible refine (h2 _ (hO.tops ht (by simp)) (hO.isRm hfy)).mono ?_); rintro e wv hpo; obtain ⟨rfl, hb9⟩ := hpo.no; replace hO := hO.call hb9; clear hb9 h2 hpo) | (go_at_call 9; (with_reducible refine (sane32_any _ (hO.tops ht (by simp))).mono ?_); rintro e wv ⟨rfl, hb9⟩; replace hO := hO.call hb9; clear hb9))
   go_ret
   exact ⟨rfl, hO.keep.below⟩
  | some p =>
   rw [hP] at h2
   have hsum : p.length + deadL l = y.length := by
    have h3 := prune_dead (t := y) (m := y.length) (k := 0) (y := p) (by omega) (by rw [List.take_zero, List.drop_zero]; exact hP)
    rw [← anF_dead hA] at h3
    simpa [dqF] using h3
   have HM := Lib.hid (anF_mem hA)
   have nl := (anF_by hA).1
   have HBY := Lib.hid (anF_by hA).2
   have npl := pruneG_len hP
   have HSUM := Lib.hid hsum
   clear hA hV hP hsum
   go_wp2_with (first | refine ldNT ?_ | ((first | refine stNT hO ?_ | refine st1NT hO ?_); clear hO; intro wv hO) | (refine bl9T 120 hO ?_; clear hO; intro n120 wv hO) | (refine bl9T 131 hO ?_; clear hO; intro n131 wv hO) | (refine ap9T 121 hO ?_; clear hO; intro g121 c121 wv hO) | (go_at_call 13; (with_reducible refine (h1 _ (hO.tops ht (by simp)) (hO.isRm hfy)).mono ?_); rintro e wv ⟨v1, ps, rfl, he1, hv9, hb9⟩; have hfn := hv9.form; replace hO := hO.gainN hb9 hv9; clear hb9 hv9 h1) | (go_at_call 14; (with_reducible refine (h2 _ (hO.tops ht (by simp)) (hO.isRm hfy)).mono ?_); rintro e wv hpo; obtain ⟨v2, rfl, hv9, -, hb9⟩ := hpo.yes; obtain ⟨a2, c2, rfl, -⟩ := hv9.form.view; replace hO := hO.call hb9; clear hb9 h2 hpo hv9))
   obtain ⟨av, cv, rfl, hav⟩ := hfn.1.view
   have hpl : ps.length ≤ 10 := by
    have := congrArg List.length he1
    rw [List.length_map] at this
    (try dsimp only at this)
    omega
   have HE := Lib.hid he1
   clear he1
   replace hO := hO.sub (X' := []) (S' := roS (.slice av ps.length cv) (cellsN ps) ++ (roS (.slice ay y.length cy) (cellsR y) ++ roN ps)) (List.nil_sublist _) (.refl _) (fun q hq => by simp only [List.mem_append] at hq ⊢; grind)
   clear hT
   go_loopw [9, 10] (fun q1 q2 wr => ∃ k : Nat, k ≤ ps.length ∧ q1 = .int .i64 (deadL ((ps.take k).map (·.1))) ∧ q2 = .int .i64 k ∧ Own [] w [] [] (roS (.slice av ps.length cv) (cellsN ps) ++ (roS (.slice ay y.length cy) (cellsR y) ++ roN ps)) wr) (fun _ q _ => ps.length - (intOf q).toNat)
   case atStart => exact ⟨0, by omega, rfl, rfl, hO⟩
   case round =>
    clear hO
    obtain ⟨k, hk, rfl, rfl, hO⟩ := hrel
    have s1 : IntKind.i64.wrap ((k : Int) + 1) = (k : Int) + 1 := IntWalk.i64_in _ (by omega)
    by_cases hlt : k < ps.length
    ·obtain ⟨gf, of9, rfl⟩ := hav (by omega)
     replace hO := hO.sub (S' := ⟨gf, of9, cellsN ps⟩ :: (roS (.slice ay y.length cy) (cellsR y) ++ roN ps)) (.refl _) (.refl _) (fun q hq => hq)
     have HT : Hid (deadL ((ps.take (k + 1)).map (·.1)) = deadL ((ps.take k).map (·.1)) + deadL [ps[k].1]) := Lib.hid (by rw [List.take_succ_eq_append_getElem hlt, List.map_append, deadL_append]; rfl)
     have nD : deadL ((ps.take k).map (·.1)) ≤ k := by
      unfold deadL
      refine Nat.le_trans (List.length_filter_le _ _) ?_
      rw [List.length_map]
      exact List.length_take_le _ _
     obtain ⟨t1, t2, t3⟩ := cellsN_at hlt
     have hmem : ps[k].1 ∈ l := by
      have h9 : ps.map (·.1) = l := HE.out
      rw [← h9]; exact List.mem_map.2 ⟨_, List.getElem_mem hlt, rfl⟩
     obtain ⟨idx, hidx, hf1, himp⟩ := HM.out _ hmem
     have hby := HBY.out _ hmem
     have hfb := hfn.2 _ (List.getElem_mem hlt)
     have hro := roN_mem (List.getElem_mem hlt)
     clear hmem
     generalize ps[k] = pf at *
     obtain ⟨⟨f1, f2, bl⟩, vb⟩ := pf
     dsimp only at hf1 himp hby hfb hro t1 t2 t3
     subst hf1
     obtain ⟨ab, cb, rfl, hab⟩ := hfb.view
     have q0 := hO.ro ⟨gf, of9, cellsN ps⟩ List.mem_cons_self (k * 3) _ t1
     have q1 := hO.ro ⟨gf, of9, cellsN ps⟩ List.mem_cons_self (k * 3 + 1) _ t2
     have q2 := hO.ro ⟨gf, of9, cellsN ps⟩ List.mem_cons_self (k * 3 + 2) _ t3
     have g4 : decide ((idx : Int) < 0) = false := decide_eq_false (by omega)
     have g5 : decide ((y.length : Int) ≤ (idx : Int)) = false := decide_eq_false (by omega)
     by_cases hf2 : f2 = 1
     ·subst hf2
      obtain ⟨hbl, e9, he9, h09⟩ := himp rfl
      have HT2 : Hid (deadL ((ps.take (k + 1)).map (·.1)) = deadL ((ps.take k).map (·.1)) + 1) := Lib.hid (by rw [HT.out, deadL_one]; rfl)
      clear HT himp
      generalize deadL ((ps.take k).map (·.1)) = D at *
      have s3 : IntKind.i64.wrap ((D : Int) + 1) = (D : Int) + 1 := IntWalk.i64_in _ (by omega)
      have hbm : ∀ z ∈ bl, ∃ j : Nat, z = j ∧ j < idx ∧ j < y.length := fun z hz => by
       rw [hbl] at hz
       obtain ⟨j, hj, h1, h2, _⟩ := (befT_mem (by omega)).1 hz
       exact ⟨j, h1, h2, hj⟩
      have HCOV := Lib.hid (show (canonF exB 0 5 (valF [y[idx].1]) (valF (bl.map (bxAt y)))).isEmpty = true from dead_cover ky hidx he9 h09 (vL_one (gy _ (List.getElem_mem hidx))) (fun b hb => by
       obtain ⟨z, hz, rfl⟩ := List.mem_map.1 hb
       obtain ⟨j, rfl, _, hj⟩ := hbm z hz
       rw [bxAt_of hj]
       exact gy _ (List.getElem_mem hj)) (fun j hj hz => by
       rw [← hbl] at hz
       exact List.mem_map.2 ⟨_, hz, bxAt_of hj⟩))
      have nbl : bl.length ≤ 6 := by omega
      clear hbl he9 h09
      go_wp2_with (first | refine ldNT ?_ | ((first | refine stNT hO ?_ | refine st1NT hO ?_); clear hO; intro wv hO) | (refine bl9T 120 hO ?_; clear hO; intro n120 wv hO) | (refine bl9T 131 hO ?_; clear hO; intro n131 wv hO) | (refine ap9T 121 hO ?_; clear hO; intro g121 c121 wv hO))
      replace hO := hO.nilRow 40 10
      go_loopw [11, 12] (fun q1 q2 wr => ∃ j : Nat, j ≤ bl.length ∧ q2 = .int .i64 j ∧ Own [] w [] [⟨q1, ((bl.take j).map (bxAt y)).length, cellsB ((bl.take j).map (bxAt y)), 40, 10⟩] (⟨gf, of9, cellsN ps⟩ :: (roS (.slice ay y.length cy) (cellsR y) ++ roN ps)) wr) (fun _ q _ => bl.length - (intOf q).toNat)
      case atStart => exact ⟨0, by omega, rfl, hO⟩
      case round =>
       clear hO
       obtain ⟨j, hj, rfl, hO⟩ := hrel
       have s2 : IntKind.i64.wrap ((j : Int) + 1) = (j : Int) + 1 := IntWalk.i64_in _ (by omega)
       by_cases hjl : j < bl.length
       ·obtain ⟨gb, ob, rfl⟩ := hab (by omega)
        obtain ⟨gy, oy, rfl⟩ := hay (by omega)
        replace hO := hO.sub (S' := ⟨gb, ob, ints bl⟩ :: ⟨gf, of9, cellsN ps⟩ :: ⟨gy, oy, cellsR y⟩ :: roN ps) (.refl _) (.refl _) (fun q hq => by
         rcases List.mem_cons.1 hq with rfl | hq
         ·exact List.mem_cons_of_mem _ (List.mem_append_right _ (hro _ List.mem_cons_self))
         ·exact hq)
        obtain ⟨j2, hz1, hz2, hz3⟩ := hbm _ (List.getElem_mem hjl)
        have c1 := ints_get hjl
        have HTJ := Lib.hid (show (bl.take (j + 1)).map (bxAt y) = (bl.take j).map (bxAt y) ++ [bxAt y bl[j]] by rw [List.take_succ_eq_append_getElem hjl, List.map_append]; rfl)
        have nM : ((bl.take j).map (bxAt y)).length ≤ j := by rw [List.length_map]; exact List.length_take_le _ _
        rw [hz1, bxAt_of hz3] at HTJ
        rw [hz1] at c1
        have t4 := tk_match y hz3
        have g6 : decide ((j2 : Int) < 0) = false := decide_eq_false (by omega)
        have g7 : decide (idx ≤ j2) = false := decide_eq_false (by omega)
        have g8 : decide ((idx : Int) ≤ (j2 : Int)) = false := decide_eq_false (by omega)
        generalize (bl.take j).map (bxAt y) = m at *
        generalize y[j2] = r at *
        clear hz1
        go_wp2_with (first | refine ldNT ?_ | ((first | refine stNT hO ?_ | refine st1NT hO ?_); clear hO; intro wv hO) | (refine bl9T 120 hO ?_; clear hO; intro n120 wv hO) | (refine bl9T 131 hO ?_; clear hO; intro n131 wv hO) | (refine ap9T 121 hO ?_; clear hO; intro g121 c121 wv hO))
        (try simp only [Act.put]); (refine own_quiet hO (by kernel_rfl) (by kernel_rfl) ?_; clear hO; (repeat (first | go_big_quiet_skip | (go_big_quiet_want; (first | ((with_reducible refine is_loadQ ?_); (first | (refine q_ldT (h := ?_))); (try simp only [Act.put]); (try simp only [sI9, sZ9, sS9]); go_big_quiet_on) | (go_big_quiet_op; (first | go_big_quiet_on | ((refine ⟨_, fun _ _ => rfl, ?_⟩); go_big_quiet_on) | go_big_quiet_call (fail))))))); (refine wpQuiet_nil ?_); intro wv hO)
        go_wp2_with (first | refine ldNT ?_ | ((first | refine stNT hO ?_ | refine st1NT hO ?_); clear hO; intro wv hO) | (refine bl9T 120 hO ?_; clear hO; intro n120 wv hO) | (refine bl9T 131 hO ?_; clear hO; intro n131 wv hO) | (refine ap9T 121 hO ?_; clear hO; intro g121 c121 wv hO))
        go_roundw
        case rel =>
         refine ⟨j + 1, by omega, by go_num, ?_⟩
         rw [HTJ.out, List.length_append, cellsB_append, cellsB_one]
         exact hO.sub (.cons _ (.refl _)) (.refl _) (fun q hq => List.mem_cons_of_mem _ hq)
        case measure => simp [intOf]; omega
       ·obtain rfl : j = bl.length := by omega
        rw [List.take_length] at hO
        obtain ⟨gy, oy, rfl⟩ := hay (by omega)
        have t4 := tk_match y hidx
        have kq := okL_one (ky _ (List.getElem_mem hidx))
        have kbl : okL (bl.map (bxAt y)) := fun b hb => by
         obtain ⟨z, hz, rfl⟩ := List.mem_map.1 hb
         obtain ⟨j, rfl, _, hj⟩ := hbm z hz
         rw [bxAt_of hj]
         exact ky _ (List.getElem_mem hj)
        have nbm : (bl.map (bxAt y)).length ≤ 6 := by rw [List.length_map]; exact nbl
        generalize y[idx] = r at *
        have hS := fun va vb w ha hb => rsubset4_any (va := va) (vb := vb) (la := [r.1]) (lb := bl.map (bxAt y)) w ha hb kq kbl (by simp) (by omega) (canon_small10 (ends_len [r.1]).val (ends_len (bl.map (bxAt y))).val (by simp only [List.length_cons, List.length_nil]; omega))
        rw [HCOV.out] at hS
        clear HCOV kq kbl hbm nbm
        generalize bl.map (bxAt y) = BL at *
        go_wp2_with (first | refine ldNT ?_ | ((first | refine stNT hO ?_ | refine st1NT hO ?_); clear hO; intro wv hO) | (refine bl9T 120 hO ?_; clear hO; intro n120 wv hO) | (refine bl9T 131 hO ?_; clear hO; intro n131 wv hO) | (refine ap9T 121 hO ?_; clear hO; intro g121 c121 wv hO) | (go_at_call 15; (with_reducible refine (hS _ _ _ (one_boxesC hO List.mem_cons_self) (own_boxes hO List.mem_cons_self)).mono ?_); rintro e wv ⟨rfl, hb9⟩; replace hO := hO.call hb9; clear hb9))
        go_roundw
        case rel => exact ⟨k + 1, by omega, by rw [HT2.out]; go_num, by go_num, hO.sub (.cons _ (.refl _)) (.cons _ (.refl _)) (fun q hq => hq)⟩
        case measure => simp [intOf]; omega
     ·have g6 : (f2 == 1) = false := beq_eq_false_iff_ne.2 hf2
      have g7 : (f2 != 1) = true := by simpa using hf2
      have HT2 : Hid (deadL ((ps.take (k + 1)).map (·.1)) = deadL ((ps.take k).map (·.1))) := Lib.hid (by rw [HT.out, deadL_one]; dsimp only; rw [g6]; rfl)
      clear HT himp hf2
      generalize deadL ((ps.take k).map (·.1)) = D at *
      go_wp2_with (first | refine ldNT ?_ | ((first | refine stNT hO ?_ | refine st1NT hO ?_); clear hO; intro wv hO) | (refine bl9T 120 hO ?_; clear hO; intro n120 wv hO) | (refine bl9T 131 hO ?_; clear hO; intro n131 wv hO) | (refine ap9T 121 hO ?_; clear hO; intro g121 c121 wv hO))
      go_roundw
      case rel => exact ⟨k + 1, by omega, by rw [HT2.out], by go_num, hO⟩
      case measure => simp [intOf]; omega
    ·obtain rfl : k = ps.length := by omega
     have hz : deadL ((ps.take ps.length).map (·.1)) = deadL l := by
      have h9 : ps.map (·.1) = l := HE.out
      rw [List.take_length, h9]
     have hsm := HSUM.out
     rw [hz]
     generalize deadL l = D at *
     have s3 : IntKind.i64.wrap ((p.length : Int) + (D : Int)) = (y.length : Int) := by rw [IntWalk.i64_in _ (by omega)]; omega
     have e4 : ((y.length : Int) == (y.length : Int)) = true := beq_self_eq_true _
     clear hz hsm
     go_wp2_with (first | refine ldNT ?_ | ((first | refine stNT hO ?_ | refine st1NT hO ?_); clear hO; intro wv hO) | (refine bl9T 120 hO ?_; clear hO; intro n120 wv hO) | (refine bl9T 131 hO ?_; clear hO; intro n131 wv hO) | (refine ap9T 121 hO ?_; clear hO; intro g121 c121 wv hO) | (go_at_call 9; (with_reducible refine (sane32_any _ (hO.tops ht (by simp))).mono ?_); rintro e wv ⟨rfl, hb9⟩; replace hO := hO.call hb9; clear hb9))
     go_ret
     exact ⟨rfl, hO.keep.below⟩
end Go.Proofs.YtjoionnnpjajmaaDoor
