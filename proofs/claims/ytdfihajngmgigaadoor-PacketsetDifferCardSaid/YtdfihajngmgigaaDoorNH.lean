/- PacketsetDiffer: the walk. -/
import Derived.Deep.CutRange
import Derived.Deep.DeepCutAuto
import Derived.Test.YtdfihajngmgigaaDoorNG
import Derived.Test.YtdfihajngmgigaaDoorMB
namespace Go.Proofs.YtdfihajngmgigaaDoor
open Go.RowKit
set_option maxRecDepth 100000
set_option maxHeartbeats 64000000 in
theorem psdiffer_law (sl : Value) (zs : List Int) (va vb : Value) (la lb : List Bx) (g : Hd) (w : World) (ht : Tops w) (hZ : ZsOk sl zs) (hr : ∀ s ∈ roS sl (ints zs), w.rangeAt s.g s.o s.xs) (hva : IsBoxes w va la) (hvb : IsBoxes w vb lb) (ka : okL la) (kb : okL lb) (kg : g.ok) :
    Calls Tryd.prog 8 #[sl, va, vb, hv g] w fun e w' => e = .returned (.bool true) ∧ Below w.heap.size w w' := by
  have hO := ((own_law hr).addBoxes hva).addBoxes hvb
  clear hr
  obtain ⟨sa, sc, rfl, -⟩ := hZ.view
  have hfa := hva.form
  have hfb := hvb.form
  obtain ⟨aa, ca, rfl, -⟩ := hva.view
  obtain ⟨ab, cb, rfl, -⟩ := hvb.view
  clear hva hvb
  have huge_a := fun w hv => huge_any (vl := .slice aa la.length ca) (l := la) w hv
  have huge_b := fun w hv => huge_any (vl := .slice ab lb.length cb) (l := lb) w hv
  go_enter Tryd.func8, Tryd.ntmps8
  go_upto_region 2 with (first | ((with_reducible refine is_load ?_); refine own_ld (h := ?_)) | ((with_reducible refine is_store ?_); (first | refine own_stR (hO := hO) (h := ?_) | refine own_st1 (hO := hO) (h := ?_)); clear hO; intro wv hO) | ((with_reducible refine is_box ?_); (first | (refine own_bx (o := ⟨some 7, _, _, _, _, _⟩) (hO := hO) (h := ?_); clear hO; intro n7 wv hO))) | ((with_reducible refine is_alloc ?_); (first | (refine own_al (o := ⟨some 10, _, _, _, _, _⟩) (hO := hO) (h := ?_); clear hO; intro n10 wv hO) | (refine own_al (o := ⟨some 12, _, _, _, _, _⟩) (hO := hO) (h := ?_); clear hO; intro n12 wv hO))) | (go_at_call 10; (with_reducible refine (new_any _ _ _).mono ?_); rintro e wv ⟨n, rfl, hB, hn, hb⟩; replace hO := hO.gain hb hB hn; have hT := hO.tapeIn List.mem_cons_self (by (intro s hs; repeat (first | exact hs | exact List.mem_append_left _ hs | apply List.mem_append_right | apply List.mem_cons_of_mem))) (Nat.zero_le _); clear hb hB hn))
  go_cut [26] (fun q26 wx => ∃ (c : Bool) (i1 : Nat), q26 = .bool c ∧ (c = false → la.length ≤ 6 ∧ lb.length ≤ 6) ∧ i1 ≤ zs.length ∧ Own [] w [⟨n, tcs (.slice sa zs.length sc) i1, 74⟩, ⟨n7, hcs g, 26⟩] [] (roS (.slice ab lb.length cb) (cellsB lb) ++ (roS (.slice aa la.length ca) (cellsB la) ++ roS (.slice sa zs.length sc) (ints zs))) wx)
  case first =>
    by_cases h1 : 6 < la.length
    · rw [decide_eq_true h1] at huge_a
      clear huge_b
      go_wp2_with (first | ((with_reducible refine is_load ?_); refine own_ld (h := ?_)) | ((with_reducible refine is_store ?_); (first | refine own_stR (hO := hO) (h := ?_) | refine own_st1 (hO := hO) (h := ?_)); clear hO; intro wv hO) | ((with_reducible refine is_box ?_); (first | (refine own_bx (o := ⟨some 7, _, _, _, _, _⟩) (hO := hO) (h := ?_); clear hO; intro n7 wv hO))) | ((with_reducible refine is_alloc ?_); (first | (refine own_al (o := ⟨some 10, _, _, _, _, _⟩) (hO := hO) (h := ?_); clear hO; intro n10 wv hO) | (refine own_al (o := ⟨some 12, _, _, _, _, _⟩) (hO := hO) (h := ?_); clear hO; intro n12 wv hO))) | (go_at_call 29; refine (huge_a _ (hO.isB hfa (by intro q hq; repeat (first | exact hq | exact List.mem_append_left _ hq | apply List.mem_append_right | apply List.mem_cons_of_mem)))).mono ?_; rintro e _ ⟨rfl, rfl⟩))
      go_meet
      exact ⟨true, _, rfl, fun h => absurd h (by decide), hT.le, hO⟩
    · rw [decide_eq_false h1] at huge_a
      by_cases h2 : 6 < lb.length
      · rw [decide_eq_true h2] at huge_b
        go_wp2_with (first | ((with_reducible refine is_load ?_); refine own_ld (h := ?_)) | ((with_reducible refine is_store ?_); (first | refine own_stR (hO := hO) (h := ?_) | refine own_st1 (hO := hO) (h := ?_)); clear hO; intro wv hO) | ((with_reducible refine is_box ?_); (first | (refine own_bx (o := ⟨some 7, _, _, _, _, _⟩) (hO := hO) (h := ?_); clear hO; intro n7 wv hO))) | ((with_reducible refine is_alloc ?_); (first | (refine own_al (o := ⟨some 10, _, _, _, _, _⟩) (hO := hO) (h := ?_); clear hO; intro n10 wv hO) | (refine own_al (o := ⟨some 12, _, _, _, _, _⟩) (hO := hO) (h := ?_); clear hO; intro n12 wv hO))) | (go_at_call 29; refine (huge_a _ (hO.isB hfa (by intro q hq; repeat (first | exact hq | exact List.mem_append_left _ hq | apply List.mem_append_right | apply List.mem_cons_of_mem)))).mono ?_; rintro e _ ⟨rfl, rfl⟩) | (go_at_call 29; refine (huge_b _ (hO.isB hfb (by intro q hq; repeat (first | exact hq | exact List.mem_append_left _ hq | apply List.mem_append_right | apply List.mem_cons_of_mem)))).mono ?_; rintro e _ ⟨rfl, rfl⟩))
        go_meet
        exact ⟨true, _, rfl, fun h => absurd h (by decide), hT.le, hO⟩
      · rw [decide_eq_false h2] at huge_b
        go_wp2_with (first | ((with_reducible refine is_load ?_); refine own_ld (h := ?_)) | ((with_reducible refine is_store ?_); (first | refine own_stR (hO := hO) (h := ?_) | refine own_st1 (hO := hO) (h := ?_)); clear hO; intro wv hO) | ((with_reducible refine is_box ?_); (first | (refine own_bx (o := ⟨some 7, _, _, _, _, _⟩) (hO := hO) (h := ?_); clear hO; intro n7 wv hO))) | ((with_reducible refine is_alloc ?_); (first | (refine own_al (o := ⟨some 10, _, _, _, _, _⟩) (hO := hO) (h := ?_); clear hO; intro n10 wv hO) | (refine own_al (o := ⟨some 12, _, _, _, _, _⟩) (hO := hO) (h := ?_); clear hO; intro n12 wv hO))) | (go_at_call 29; refine (huge_a _ (hO.isB hfa (by intro q hq; repeat (first | exact hq | exact List.mem_append_left _ hq | apply List.mem_append_right | apply List.mem_cons_of_mem)))).mono ?_; rintro e _ ⟨rfl, rfl⟩) | (go_at_call 29; refine (huge_b _ (hO.isB hfb (by intro q hq; repeat (first | exact hq | exact List.mem_append_left _ hq | apply List.mem_append_right | apply List.mem_cons_of_mem)))).mono ?_; rintro e _ ⟨rfl, rfl⟩) | (go_at_call 27; (with_reducible refine (next_pos 4 hZ (hO.tapeIn (by (repeat (first | exact List.mem_cons_self | refine List.mem_cons_of_mem _ ?_))) (by (intro s hs; repeat (first | exact hs | exact List.mem_append_left _ hs | apply List.mem_append_right | apply List.mem_cons_of_mem))) hT.le) (by omega) (by omega)).mono ?_); rintro e wv ⟨v, i1, rfl, ⟨r, rfl, hr0, hr1⟩, hk, hT1⟩; replace hO := hO.after (by (repeat (first | exact Upd.here | apply Upd.there))) hk hT1.blk; replace hT := hT1; clear hT1 hk))
        go_meet
        exact ⟨_, _, rfl, fun _ => ⟨by omega, by omega⟩, hT.le, hO⟩
  case rest =>
    clear hO hT huge_a huge_b
    obtain ⟨c, i1, rfl, hc, hi1, hO⟩ := hcut
    have hT := hO.tapeIn List.mem_cons_self (by intro s hs; repeat (first | exact hs | exact List.mem_append_left _ hs | apply List.mem_append_right | apply List.mem_cons_of_mem)) hi1
    go_upto_if 26 with (first | ((with_reducible refine is_load ?_); refine own_ld (h := ?_)) | ((with_reducible refine is_store ?_); (first | refine own_stR (hO := hO) (h := ?_) | refine own_st1 (hO := hO) (h := ?_)); clear hO; intro wv hO) | ((with_reducible refine is_box ?_); (first | (refine own_bx (o := ⟨some 7, _, _, _, _, _⟩) (hO := hO) (h := ?_); clear hO; intro n7 wv hO))) | ((with_reducible refine is_alloc ?_); (first | (refine own_al (o := ⟨some 10, _, _, _, _, _⟩) (hO := hO) (h := ?_); clear hO; intro n10 wv hO) | (refine own_al (o := ⟨some 12, _, _, _, _, _⟩) (hO := hO) (h := ?_); clear hO; intro n12 wv hO))))
    go_cut [1, 2] (fun q1 q2 wx => ∃ (a1 a2 : Option Addr) (c1 c2 : Nat) (l1 l2 : List Bx) (g2 : Hd), q1 = .slice a1 l1.length c1 ∧ q2 = .slice a2 l2.length c2 ∧ okL l1 ∧ okL l2 ∧ l1.length ≤ 6 ∧ l2.length ≤ 6 ∧ FormB (.slice a1 l1.length c1) l1 ∧ FormB (.slice a2 l2.length c2) l2 ∧ g2.ok ∧ Own [] w [⟨n7, hcs g2, 26⟩] [] (roS (.slice a2 l2.length c2) (cellsB l2) ++ roS (.slice a1 l1.length c1) (cellsB l1)) wx)
    case first =>
      cases c
      · obtain ⟨n1, n2⟩ := hc rfl
        go_wp2_with (first | ((with_reducible refine is_load ?_); refine own_ld (h := ?_)) | ((with_reducible refine is_store ?_); (first | refine own_stR (hO := hO) (h := ?_) | refine own_st1 (hO := hO) (h := ?_)); clear hO; intro wv hO) | ((with_reducible refine is_box ?_); (first | (refine own_bx (o := ⟨some 7, _, _, _, _, _⟩) (hO := hO) (h := ?_); clear hO; intro n7 wv hO))) | ((with_reducible refine is_alloc ?_); (first | (refine own_al (o := ⟨some 10, _, _, _, _, _⟩) (hO := hO) (h := ?_); clear hO; intro n10 wv hO) | (refine own_al (o := ⟨some 12, _, _, _, _, _⟩) (hO := hO) (h := ?_); clear hO; intro n12 wv hO))))
        go_meet
        exact ⟨_, _, _, _, la, lb, g, rfl, rfl, ka, kb, n1, n2, hfa, hfb, kg, hO.sub (.cons _ (.refl _)) (.refl _) (fun q hq => (List.mem_append.1 hq).elim (fun h => List.mem_append_left _ h) (fun h => List.mem_append_right _ (List.mem_append_left _ h)))⟩
      · clear hc
        go_wp2_with (first | ((with_reducible refine is_load ?_); refine own_ld (h := ?_)) | ((with_reducible refine is_store ?_); (first | refine own_stR (hO := hO) (h := ?_) | refine own_st1 (hO := hO) (h := ?_)); clear hO; intro wv hO) | ((with_reducible refine is_box ?_); (first | (refine own_bx (o := ⟨some 7, _, _, _, _, _⟩) (hO := hO) (h := ?_); clear hO; intro n7 wv hO))) | ((with_reducible refine is_alloc ?_); (first | (refine own_al (o := ⟨some 10, _, _, _, _, _⟩) (hO := hO) (h := ?_); clear hO; intro n10 wv hO) | (refine own_al (o := ⟨some 12, _, _, _, _, _⟩) (hO := hO) (h := ?_); clear hO; intro n12 wv hO))) | (go_at_call 20; (fail_if_success (have := kp)); (with_reducible refine (tboxes_any 4 true hZ (hO.tapeIn (by (repeat (first | exact List.mem_cons_self | refine List.mem_cons_of_mem _ ?_))) (by (intro s hs; repeat (first | exact hs | exact List.mem_append_left _ hs | apply List.mem_append_right | apply List.mem_cons_of_mem))) hT.le) (by omega) (by omega)).mono ?_); rintro e wv ⟨vp, i1, rfl, ⟨lp, hv9, hn9, kp, np, -⟩, hk, hT1⟩; have hnnp : vp.ownBlock ≠ some n := fun e9 => absurd (hn9 _ e9) (Nat.not_le_of_lt hT.blk.lt); have hoff9 := off_of_new hO hn9; replace hO := hO.after (by (repeat (first | exact Upd.here | apply Upd.there))) hk hT1.blk; replace hT := hT1; clear hT1 hk; have hfp := hv9.form; obtain ⟨ap, cp, rfl, -, hO⟩ := own_offS hO ⟨hv9, hoff9⟩; clear hv9 hn9 hoff9) | (go_at_call 20; (with_reducible refine (tboxes_any 4 true hZ (hO.tapeIn (by (repeat (first | exact List.mem_cons_self | refine List.mem_cons_of_mem _ ?_))) (by (intro s hs; repeat (first | exact hs | exact List.mem_append_left _ hs | apply List.mem_append_right | apply List.mem_cons_of_mem))) hT.le) (by omega) (by omega)).mono ?_); rintro e wv ⟨vq, i1, rfl, ⟨lq, hv9, hn9, kq, nq, -⟩, hk, hT1⟩; have hnnq : vq.ownBlock ≠ some n := fun e9 => absurd (hn9 _ e9) (Nat.not_le_of_lt hT.blk.lt); have hoff9 := off_of_new hO hn9; replace hO := hO.after (by (repeat (first | exact Upd.here | apply Upd.there))) hk hT1.blk; replace hT := hT1; clear hT1 hk; have hfq := hv9.form; obtain ⟨aq, cq, rfl, -, hO⟩ := own_offS hO ⟨hv9, hoff9⟩; clear hv9 hn9 hoff9) | (go_at_call 13; (with_reducible refine (near_any (.slice ap lp.length cp) lp hZ (hO.tapeIn (by (repeat (first | exact List.mem_cons_self | refine List.mem_cons_of_mem _ ?_))) (by (intro s hs; repeat (first | exact hs | exact List.mem_append_left _ hs | apply List.mem_append_right | apply List.mem_cons_of_mem))) hT.le) (hO.isB hfp (by intro q hq; repeat (first | exact hq | exact List.mem_append_left _ hq | apply List.mem_append_right | apply List.mem_cons_of_mem))) hnnp kp (by omega)).mono ?_); rintro e wv ⟨v, i1, rfl, hv9, hk, hT1⟩; replace hO := hO.after (by (repeat (first | exact Upd.here | apply Upd.there))) hk hT1.blk; replace hT := hT1; clear hT1 hk; obtain ⟨h3, rfl, kh3⟩ := hv9))
        go_meet
        exact ⟨_, _, _, _, lp, lq, h3, rfl, rfl, kp, kq, by omega, by omega, hfp, hfq, kh3, hO.sub (.cons _ (.refl _)) (.refl _) (fun q hq => (List.mem_append.1 hq).elim (fun h => List.mem_append_left _ h) (fun h => List.mem_append_right _ (List.mem_append_left _ h)))⟩
    case rest =>
      clear hO hT hc hfa hfb ka kb kg
      obtain ⟨a1, a2, c1, c2, l1, l2, g2, rfl, rfl, ka, kb, na, nb, hf1, hf2, kg, hO⟩ := hcut
      have vA := valF_vL ka
      have vB := valF_vL kb
      have hd1 := fun w ht hv hu => psDiffer_any (va := .slice a1 l1.length c1) (vb := .slice a2 l2.length c2) (la := l1) (lb := l2) w ht hv hu ka kb (by omega) (by omega)
      have hd2 := fun w hv hu => rdiffer_any (va := .slice a1 l1.length c1) (vb := .slice a2 l2.length c2) (la := l1) (lb := l2) w hv hu ka kb (by omega) (by omega)
      have hu1 := fun v u w ht hv hu => psSubset_any (va := v) (vb := u) (la := l1) (lb := l2) w ht hv hu ka kb (by omega) (by omega)
      have hu2 := fun v u w ht hv hu => psSubset_any (va := v) (vb := u) (la := l2) (lb := l1) w ht hv hu kb ka (by omega) (by omega)
      have F0 := fun (h : (canonF xorB 0 5 (valF l1) (valF l2)).isEmpty = true) => xor_same vA vB (List.isEmpty_iff.1 h) (okP_of kg)
      have F1 := fun (h : (canonF xorB 0 5 (valF l1) (valF l2)).isEmpty = false) => first_spec vA vB (fun e => by rw [e] at h; cases h)
      rw [xor_none vA vB] at hd1 hd2 F0 F1
      generalize firstH (canonF xorB 0 5 (valF l1) (valF l2)) = fH at *
      generalize (canonF exB 0 5 (valF l1) (valF l2)).isEmpty = E1 at *
      generalize (canonF exB 0 5 (valF l2) (valF l1)).isEmpty = E2 at *
      have cg1 := fun w ht hv => psContains_any (vl := .slice a1 l1.length c1) (l := l1) g2 w ht kg hv (by omega)
      have cg2 := fun w ht hv => psContains_any (vl := .slice a2 l2.length c2) (l := l2) g2 w ht kg hv (by omega)
      rw [any_inq] at cg1 cg2
      have eH : (!decide (fH = fH)) = false := by simp
      have eH' : decide (fH = fH) = true := by simp
      have hall : (E1 = true ∧ E2 = true) ∨ (E1 = true ∧ E2 = false) ∨ (E1 = false ∧ E2 = false) ∨ (E1 = false ∧ E2 = true) := by cases E1 <;> cases E2 <;> simp
      rcases hall with ⟨rfl, rfl⟩ | hneg
      · rw [← F0 rfl] at cg2
        generalize inq (valF l1) g2.at = C at *
        clear F0 F1 vA vB
        simp only [Bool.and_self, Bool.not_true] at hd1 hd2
        cases C
        all_goals
          go_upto_region 10 with (first | ((with_reducible refine is_load ?_); refine own_ld (h := ?_)) | ((with_reducible refine is_store ?_); (first | refine own_stR (hO := hO) (h := ?_) | refine own_st1 (hO := hO) (h := ?_)); clear hO; intro wv hO) | ((with_reducible refine is_box ?_); (first | (refine own_bx (o := ⟨some 7, _, _, _, _, _⟩) (hO := hO) (h := ?_); clear hO; intro n7 wv hO))) | ((with_reducible refine is_alloc ?_); (first | (refine own_al (o := ⟨some 10, _, _, _, _, _⟩) (hO := hO) (h := ?_); clear hO; intro n10 wv hO) | (refine own_al (o := ⟨some 12, _, _, _, _, _⟩) (hO := hO) (h := ?_); clear hO; intro n12 wv hO))) | (go_at_call 32; (with_reducible refine (hd1 _ (hO.tops ht (by simp)) (hO.isB hf1 (by intro q hq; repeat (first | exact hq | exact List.mem_append_left _ hq | apply List.mem_append_right | apply List.mem_cons_of_mem))) (hO.isB hf2 (by intro q hq; repeat (first | exact hq | exact List.mem_append_left _ hq | apply List.mem_append_right | apply List.mem_cons_of_mem)))).mono ?_); rintro e wv ⟨rfl, hb9⟩; replace hO := hO.call hb9; clear hb9) | (go_at_call 33; (with_reducible refine (hd2 _ (hO.isB hf1 (by intro q hq; repeat (first | exact hq | exact List.mem_append_left _ hq | apply List.mem_append_right | apply List.mem_cons_of_mem))) (hO.isB hf2 (by intro q hq; repeat (first | exact hq | exact List.mem_append_left _ hq | apply List.mem_append_right | apply List.mem_cons_of_mem)))).mono ?_); rintro e wv ⟨rfl, hb9⟩; replace hO := hO.call hb9; clear hb9) | (go_at_call 31; (with_reducible refine (hu1 _ _ _ (hO.tops ht (by simp)) (hO.isB hf1 (by intro q hq; repeat (first | exact hq | exact List.mem_append_left _ hq | apply List.mem_append_right | apply List.mem_cons_of_mem))) (hO.isB hf2 (by intro q hq; repeat (first | exact hq | exact List.mem_append_left _ hq | apply List.mem_append_right | apply List.mem_cons_of_mem)))).mono ?_); rintro e wv ⟨rfl, hb9⟩; replace hO := hO.call hb9; clear hb9) | (go_at_call 31; (with_reducible refine (hu2 _ _ _ (hO.tops ht (by simp)) (hO.isB hf2 (by intro q hq; repeat (first | exact hq | exact List.mem_append_left _ hq | apply List.mem_append_right | apply List.mem_cons_of_mem))) (hO.isB hf1 (by intro q hq; repeat (first | exact hq | exact List.mem_append_left _ hq | apply List.mem_append_right | apply List.mem_cons_of_mem)))).mono ?_); rintro e wv ⟨rfl, hb9⟩; replace hO := hO.call hb9; clear hb9))
          (try simp only [Act.put]); (try simp only [List.setIfInBounds_toArray, List.set_cons_zero, List.set_cons_succ])
          refine wp_region_any (by kernel_rfl) ?_
          replace hO := hO.drew
          have ix9 := Ix.mk [0, 3]
          iterate 2 (refine wpAny_tk ix9 ?_; replace ix9 := ix9.tail; (first | go_big_quiet_skip | (go_big_quiet_want; (go_big_quiet_op; (first | go_big_quiet_on | ((refine ⟨_, fun _ _ => rfl, ?_⟩); go_big_quiet_on))))); (refine wpQuiet_nil ?_); (try simp only [Act.put]); (try simp only [List.setIfInBounds_toArray, List.set_cons_zero, List.set_cons_succ]))
          clear ix9
          refine wpAny_all (rs := [1, 4]) (by kernel_rfl) (by simp) (ord_cons ?_ (ord_cons ?_ ord_nil))
          rotate_left 2
          all_goals
            refine wpOp_of_listL rfl ?_
            (first | ((with_reducible refine is_load ?_); refine own_ld (h := ?_)) | ((with_reducible refine is_store ?_); (first | refine own_stR (hO := hO) (h := ?_) | refine own_st1 (hO := hO) (h := ?_)); clear hO; intro wv hO) | ((refine wpList_step (fun K hK => ?_)); go_simp; (first | ((refine hK _ _ ?_); clear hK K) | ((first | (go_at_call 15; (with_reducible refine (cg1 _ (hO.tops ht (by simp)) (hO.isB hf1 (by intro q hq; repeat (first | exact hq | exact List.mem_append_left _ hq | apply List.mem_append_right | apply List.mem_cons_of_mem)))).mono ?_); rintro e wv ⟨rfl, hb9⟩; replace hO := hO.call hb9; clear hb9) | (go_at_call 15; (with_reducible refine (cg2 _ (hO.tops ht (by simp)) (hO.isB hf2 (by intro q hq; repeat (first | exact hq | exact List.mem_append_left _ hq | apply List.mem_append_right | apply List.mem_cons_of_mem)))).mono ?_); rintro e wv ⟨rfl, hb9⟩; replace hO := hO.call hb9; clear hb9) | (go_at_call 19; (with_reducible refine (sane4_any _ (hO.tops ht (by simp))).mono ?_); rintro e wv ⟨rfl, hb9⟩; replace hO := hO.call hb9; clear hb9)); (try simp only []); (refine hK _ _ ?_); clear hK K)))); (try simp only [Act.put]); (try simp only [List.setIfInBounds_toArray, List.set_cons_zero, List.set_cons_succ])
            refine wpList_done (qk_intro ?_)
          refine wpAny_all (rs := [2, 4]) (by kernel_rfl) (by simp) (ord_cons ?_ (ord_cons ?_ ord_nil))
          rotate_left 2
          refine wpAny_all (rs := [1]) (by kernel_rfl) (by simp) (ord_cons ?_ ord_nil)
          rotate_left 1
          all_goals
            refine wpOp_of_listL rfl ?_
            (first | ((with_reducible refine is_load ?_); refine own_ld (h := ?_)) | ((with_reducible refine is_store ?_); (first | refine own_stR (hO := hO) (h := ?_) | refine own_st1 (hO := hO) (h := ?_)); clear hO; intro wv hO) | ((refine wpList_step (fun K hK => ?_)); go_simp; (first | ((refine hK _ _ ?_); clear hK K) | ((first | (go_at_call 15; (with_reducible refine (cg1 _ (hO.tops ht (by simp)) (hO.isB hf1 (by intro q hq; repeat (first | exact hq | exact List.mem_append_left _ hq | apply List.mem_append_right | apply List.mem_cons_of_mem)))).mono ?_); rintro e wv ⟨rfl, hb9⟩; replace hO := hO.call hb9; clear hb9) | (go_at_call 15; (with_reducible refine (cg2 _ (hO.tops ht (by simp)) (hO.isB hf2 (by intro q hq; repeat (first | exact hq | exact List.mem_append_left _ hq | apply List.mem_append_right | apply List.mem_cons_of_mem)))).mono ?_); rintro e wv ⟨rfl, hb9⟩; replace hO := hO.call hb9; clear hb9) | (go_at_call 19; (with_reducible refine (sane4_any _ (hO.tops ht (by simp))).mono ?_); rintro e wv ⟨rfl, hb9⟩; replace hO := hO.call hb9; clear hb9)); (try simp only []); (refine hK _ _ ?_); clear hK K)))); (try simp only [Act.put]); (try simp only [List.setIfInBounds_toArray, List.set_cons_zero, List.set_cons_succ])
            refine wpList_done (qk_intro ?_)
          refine wpAny_all (rs := [4]) (by kernel_rfl) (by simp) (ord_cons ?_ ord_nil)
          rotate_left 1
          refine wpAny_all (rs := [2]) (by kernel_rfl) (by simp) (ord_cons ?_ ord_nil)
          rotate_left 1
          refine wpAny_all (rs := [2]) (by kernel_rfl) (by simp) (ord_cons ?_ ord_nil)
          rotate_left 1
          all_goals
            refine wpOp_of_listL rfl ?_
            (first | ((with_reducible refine is_load ?_); refine own_ld (h := ?_)) | ((with_reducible refine is_store ?_); (first | refine own_stR (hO := hO) (h := ?_) | refine own_st1 (hO := hO) (h := ?_)); clear hO; intro wv hO) | ((refine wpList_step (fun K hK => ?_)); go_simp; (first | ((refine hK _ _ ?_); clear hK K) | ((first | (go_at_call 15; (with_reducible refine (cg1 _ (hO.tops ht (by simp)) (hO.isB hf1 (by intro q hq; repeat (first | exact hq | exact List.mem_append_left _ hq | apply List.mem_append_right | apply List.mem_cons_of_mem)))).mono ?_); rintro e wv ⟨rfl, hb9⟩; replace hO := hO.call hb9; clear hb9) | (go_at_call 15; (with_reducible refine (cg2 _ (hO.tops ht (by simp)) (hO.isB hf2 (by intro q hq; repeat (first | exact hq | exact List.mem_append_left _ hq | apply List.mem_append_right | apply List.mem_cons_of_mem)))).mono ?_); rintro e wv ⟨rfl, hb9⟩; replace hO := hO.call hb9; clear hb9) | (go_at_call 19; (with_reducible refine (sane4_any _ (hO.tops ht (by simp))).mono ?_); rintro e wv ⟨rfl, hb9⟩; replace hO := hO.call hb9; clear hb9)); (try simp only []); (refine hK _ _ ?_); clear hK K)))); (try simp only [Act.put]); (try simp only [List.setIfInBounds_toArray, List.set_cons_zero, List.set_cons_succ])
            refine wpList_done (qk_intro ?_)
          refine wpAny_all (rs := [5]) (by kernel_rfl) (by simp) (ord_cons ?_ ord_nil)
          rotate_left 1
          refine wpAny_all (rs := [5]) (by kernel_rfl) (by simp) (ord_cons ?_ ord_nil)
          rotate_left 1
          refine wpAny_all (rs := [5]) (by kernel_rfl) (by simp) (ord_cons ?_ ord_nil)
          rotate_left 1
          all_goals
            refine wpOp_of_listL rfl ?_
            (first | ((with_reducible refine is_load ?_); refine own_ld (h := ?_)) | ((with_reducible refine is_store ?_); (first | refine own_stR (hO := hO) (h := ?_) | refine own_st1 (hO := hO) (h := ?_)); clear hO; intro wv hO) | ((refine wpList_step (fun K hK => ?_)); go_simp; (first | ((refine hK _ _ ?_); clear hK K) | ((first | (go_at_call 15; (with_reducible refine (cg1 _ (hO.tops ht (by simp)) (hO.isB hf1 (by intro q hq; repeat (first | exact hq | exact List.mem_append_left _ hq | apply List.mem_append_right | apply List.mem_cons_of_mem)))).mono ?_); rintro e wv ⟨rfl, hb9⟩; replace hO := hO.call hb9; clear hb9) | (go_at_call 15; (with_reducible refine (cg2 _ (hO.tops ht (by simp)) (hO.isB hf2 (by intro q hq; repeat (first | exact hq | exact List.mem_append_left _ hq | apply List.mem_append_right | apply List.mem_cons_of_mem)))).mono ?_); rintro e wv ⟨rfl, hb9⟩; replace hO := hO.call hb9; clear hb9) | (go_at_call 19; (with_reducible refine (sane4_any _ (hO.tops ht (by simp))).mono ?_); rintro e wv ⟨rfl, hb9⟩; replace hO := hO.call hb9; clear hb9)); (try simp only []); (refine hK _ _ ?_); clear hK K)))); (try simp only [Act.put]); (try simp only [List.setIfInBounds_toArray, List.set_cons_zero, List.set_cons_succ])
            refine wpList_done (qk_intro ?_)
          have ix9 := Ix.mk [6, 7]
          iterate 2 (refine wpAny_tk ix9 ?_; replace ix9 := ix9.tail; (first | go_big_quiet_skip | (go_big_quiet_want; (go_big_quiet_op; (first | go_big_quiet_on | ((refine ⟨_, fun _ _ => rfl, ?_⟩); go_big_quiet_on))))); (refine wpQuiet_nil ?_); (try simp only [Act.put]); (try simp only [List.setIfInBounds_toArray, List.set_cons_zero, List.set_cons_succ]))
          clear ix9
          refine wpAny_all (rs := [8]) (by kernel_rfl) (by simp) (ord_cons ?_ ord_nil)
          rotate_left 1
          have ix9 := Ix.mk [6, 7]
          iterate 2 (refine wpAny_tk ix9 ?_; replace ix9 := ix9.tail; (first | go_big_quiet_skip | (go_big_quiet_want; (go_big_quiet_op; (first | go_big_quiet_on | ((refine ⟨_, fun _ _ => rfl, ?_⟩); go_big_quiet_on))))); (refine wpQuiet_nil ?_); (try simp only [Act.put]); (try simp only [List.setIfInBounds_toArray, List.set_cons_zero, List.set_cons_succ]))
          clear ix9
          refine wpAny_all (rs := [8]) (by kernel_rfl) (by simp) (ord_cons ?_ ord_nil)
          rotate_left 1
          have ix9 := Ix.mk [6, 7]
          iterate 2 (refine wpAny_tk ix9 ?_; replace ix9 := ix9.tail; (first | go_big_quiet_skip | (go_big_quiet_want; (go_big_quiet_op; (first | go_big_quiet_on | ((refine ⟨_, fun _ _ => rfl, ?_⟩); go_big_quiet_on))))); (refine wpQuiet_nil ?_); (try simp only [Act.put]); (try simp only [List.setIfInBounds_toArray, List.set_cons_zero, List.set_cons_succ]))
          clear ix9
          refine wpAny_all (rs := [8]) (by kernel_rfl) (by simp) (ord_cons ?_ ord_nil)
          rotate_left 1
          all_goals
            refine wpOp_of_listL rfl ?_
            (first | ((with_reducible refine is_load ?_); refine own_ld (h := ?_)) | ((with_reducible refine is_store ?_); (first | refine own_stR (hO := hO) (h := ?_) | refine own_st1 (hO := hO) (h := ?_)); clear hO; intro wv hO) | ((refine wpList_step (fun K hK => ?_)); go_simp; (first | ((refine hK _ _ ?_); clear hK K) | ((first | (go_at_call 15; (with_reducible refine (cg1 _ (hO.tops ht (by simp)) (hO.isB hf1 (by intro q hq; repeat (first | exact hq | exact List.mem_append_left _ hq | apply List.mem_append_right | apply List.mem_cons_of_mem)))).mono ?_); rintro e wv ⟨rfl, hb9⟩; replace hO := hO.call hb9; clear hb9) | (go_at_call 15; (with_reducible refine (cg2 _ (hO.tops ht (by simp)) (hO.isB hf2 (by intro q hq; repeat (first | exact hq | exact List.mem_append_left _ hq | apply List.mem_append_right | apply List.mem_cons_of_mem)))).mono ?_); rintro e wv ⟨rfl, hb9⟩; replace hO := hO.call hb9; clear hb9) | (go_at_call 19; (with_reducible refine (sane4_any _ (hO.tops ht (by simp))).mono ?_); rintro e wv ⟨rfl, hb9⟩; replace hO := hO.call hb9; clear hb9)); (try simp only []); (refine hK _ _ ?_); clear hK K)))); (try simp only [Act.put]); (try simp only [List.setIfInBounds_toArray, List.set_cons_zero, List.set_cons_succ])
            refine wpList_done (qk_intro ?_)
          refine wpAny_tk (Ix.mk [9]) ?_
          (first | go_big_quiet_skip | (go_big_quiet_want; (go_big_quiet_op; (first | go_big_quiet_on | ((refine ⟨_, fun _ _ => rfl, ?_⟩); go_big_quiet_on))))); (refine wpQuiet_nil ?_); (try simp only [Act.put]); (try simp only [List.setIfInBounds_toArray, List.set_cons_zero, List.set_cons_succ])
          refine wpAny_all (rs := [10]) (by kernel_rfl) (by simp) (ord_cons ?_ ord_nil)
          rotate_left 1
          refine wpAny_tk (Ix.mk [9]) ?_
          (first | go_big_quiet_skip | (go_big_quiet_want; (go_big_quiet_op; (first | go_big_quiet_on | ((refine ⟨_, fun _ _ => rfl, ?_⟩); go_big_quiet_on))))); (refine wpQuiet_nil ?_); (try simp only [Act.put]); (try simp only [List.setIfInBounds_toArray, List.set_cons_zero, List.set_cons_succ])
          refine wpAny_all (rs := [10]) (by kernel_rfl) (by simp) (ord_cons ?_ ord_nil)
          rotate_left 1
          refine wpAny_tk (Ix.mk [9]) ?_
          (first | go_big_quiet_skip | (go_big_quiet_want; (go_big_quiet_op; (first | go_big_quiet_on | ((refine ⟨_, fun _ _ => rfl, ?_⟩); go_big_quiet_on))))); (refine wpQuiet_nil ?_); (try simp only [Act.put]); (try simp only [List.setIfInBounds_toArray, List.set_cons_zero, List.set_cons_succ])
          refine wpAny_all (rs := [10]) (by kernel_rfl) (by simp) (ord_cons ?_ ord_nil)
          rotate_left 1
          all_goals
            refine wpOp_of_listL rfl ?_
            (first | ((with_reducible refine is_load ?_); refine own_ld (h := ?_)) | ((with_reducible refine is_store ?_); (first | refine own_stR (hO := hO) (h := ?_) | refine own_st1 (hO := hO) (h := ?_)); clear hO; intro wv hO) | ((refine wpList_step (fun K hK => ?_)); go_simp; (first | ((refine hK _ _ ?_); clear hK K) | ((first | (go_at_call 15; (with_reducible refine (cg1 _ (hO.tops ht (by simp)) (hO.isB hf1 (by intro q hq; repeat (first | exact hq | exact List.mem_append_left _ hq | apply List.mem_append_right | apply List.mem_cons_of_mem)))).mono ?_); rintro e wv ⟨rfl, hb9⟩; replace hO := hO.call hb9; clear hb9) | (go_at_call 15; (with_reducible refine (cg2 _ (hO.tops ht (by simp)) (hO.isB hf2 (by intro q hq; repeat (first | exact hq | exact List.mem_append_left _ hq | apply List.mem_append_right | apply List.mem_cons_of_mem)))).mono ?_); rintro e wv ⟨rfl, hb9⟩; replace hO := hO.call hb9; clear hb9) | (go_at_call 19; (with_reducible refine (sane4_any _ (hO.tops ht (by simp))).mono ?_); rintro e wv ⟨rfl, hb9⟩; replace hO := hO.call hb9; clear hb9)); (try simp only []); (refine hK _ _ ?_); clear hK K)))); (try simp only [Act.put]); (try simp only [List.setIfInBounds_toArray, List.set_cons_zero, List.set_cons_succ])
            refine wpList_done (qk_intro ?_)
          refine wpAny_done (by kernel_rfl) ?_ _
          rotate_left
          refine wpAny_done (by kernel_rfl) ?_ _
          rotate_left
          refine wpAny_done (by kernel_rfl) ?_ _
          rotate_left
          all_goals
            go_wp2_with (first | ((with_reducible refine is_load ?_); refine own_ld (h := ?_)) | ((with_reducible refine is_store ?_); (first | refine own_stR (hO := hO) (h := ?_) | refine own_st1 (hO := hO) (h := ?_)); clear hO; intro wv hO) | ((with_reducible refine is_box ?_); (first | (refine own_bx (o := ⟨some 7, _, _, _, _, _⟩) (hO := hO) (h := ?_); clear hO; intro n7 wv hO))) | ((with_reducible refine is_alloc ?_); (first | (refine own_al (o := ⟨some 10, _, _, _, _, _⟩) (hO := hO) (h := ?_); clear hO; intro n10 wv hO) | (refine own_al (o := ⟨some 12, _, _, _, _, _⟩) (hO := hO) (h := ?_); clear hO; intro n12 wv hO))))
            go_ret
            exact ⟨rfl, hO.keep.below⟩
      · have hE : (E1 && E2) = false := by rcases hneg with ⟨rfl, rfl⟩ | ⟨rfl, rfl⟩ | ⟨rfl, rfl⟩ <;> rfl
        obtain ⟨kf, hne, hle⟩ := F1 hE
        rw [hE, Bool.not_false] at hd1 hd2
        have ch1 := fun w ht hv => psContains_any (vl := .slice a1 l1.length c1) (l := l1) fH w ht kf hv (by omega)
        have ch2 := fun w ht hv => psContains_any (vl := .slice a2 l2.length c2) (l := l2) fH w ht kf hv (by omega)
        rw [any_inq] at ch1 ch2
        rw [hne] at ch1
        have ho3 := fun w => rorder_any g2 fH w kg kf
        have hO3 : cmpB (ofHd g2) (ofHd fH) < 0 → inq (valF l2) g2.at = inq (valF l1) g2.at := fun h => by
          by_cases e : inq (valF l2) g2.at = inq (valF l1) g2.at
          · exact e
          · have := order_ge (hle g2.at (okP_of kg) (fun e' => e e'.symm))
            omega
        generalize inq (valF l1) g2.at = C1 at *
        generalize inq (valF l2) g2.at = C2 at *
        generalize inq (valF l2) fH.at = H2 at *
        generalize cmpB (ofHd g2) (ofHd fH) = o at *
        clear F0 F1 hne hle vA vB hE
        have hc3 : (0 ≤ o) ∨ (o < 0 ∧ C2 = C1) := by
          rcases Int.lt_or_le o 0 with h | h
          · exact .inr ⟨h, hO3 h⟩
          · exact .inl h
        clear hO3
        rcases hneg with ⟨rfl, rfl⟩ | ⟨rfl, rfl⟩ | ⟨rfl, rfl⟩
        all_goals
          go_upto_region 11 with (first | ((with_reducible refine is_load ?_); refine own_ld (h := ?_)) | ((with_reducible refine is_store ?_); (first | refine own_stR (hO := hO) (h := ?_) | refine own_st1 (hO := hO) (h := ?_)); clear hO; intro wv hO) | ((with_reducible refine is_box ?_); (first | (refine own_bx (o := ⟨some 7, _, _, _, _, _⟩) (hO := hO) (h := ?_); clear hO; intro n7 wv hO))) | ((with_reducible refine is_alloc ?_); (first | (refine own_al (o := ⟨some 10, _, _, _, _, _⟩) (hO := hO) (h := ?_); clear hO; intro n10 wv hO) | (refine own_al (o := ⟨some 12, _, _, _, _, _⟩) (hO := hO) (h := ?_); clear hO; intro n12 wv hO))) | (go_at_call 32; (with_reducible refine (hd1 _ (hO.tops ht (by simp)) (hO.isB hf1 (by intro q hq; repeat (first | exact hq | exact List.mem_append_left _ hq | apply List.mem_append_right | apply List.mem_cons_of_mem))) (hO.isB hf2 (by intro q hq; repeat (first | exact hq | exact List.mem_append_left _ hq | apply List.mem_append_right | apply List.mem_cons_of_mem)))).mono ?_); rintro e wv ⟨rfl, hb9⟩; replace hO := hO.call hb9; clear hb9) | (go_at_call 33; (with_reducible refine (hd2 _ (hO.isB hf1 (by intro q hq; repeat (first | exact hq | exact List.mem_append_left _ hq | apply List.mem_append_right | apply List.mem_cons_of_mem))) (hO.isB hf2 (by intro q hq; repeat (first | exact hq | exact List.mem_append_left _ hq | apply List.mem_append_right | apply List.mem_cons_of_mem)))).mono ?_); rintro e wv ⟨rfl, hb9⟩; replace hO := hO.call hb9; clear hb9) | (go_at_call 31; (with_reducible refine (hu1 _ _ _ (hO.tops ht (by simp)) (hO.isB hf1 (by intro q hq; repeat (first | exact hq | exact List.mem_append_left _ hq | apply List.mem_append_right | apply List.mem_cons_of_mem))) (hO.isB hf2 (by intro q hq; repeat (first | exact hq | exact List.mem_append_left _ hq | apply List.mem_append_right | apply List.mem_cons_of_mem)))).mono ?_); rintro e wv ⟨rfl, hb9⟩; replace hO := hO.call hb9; clear hb9) | (go_at_call 31; (with_reducible refine (hu2 _ _ _ (hO.tops ht (by simp)) (hO.isB hf2 (by intro q hq; repeat (first | exact hq | exact List.mem_append_left _ hq | apply List.mem_append_right | apply List.mem_cons_of_mem))) (hO.isB hf1 (by intro q hq; repeat (first | exact hq | exact List.mem_append_left _ hq | apply List.mem_append_right | apply List.mem_cons_of_mem)))).mono ?_); rintro e wv ⟨rfl, hb9⟩; replace hO := hO.call hb9; clear hb9))
          go_cut [84] (fun q84 wx => q84 = .bool false ∧ Own [] w [⟨n12, hcs fH, 26⟩, ⟨n10, hcs fH, 26⟩, ⟨n7, hcs g2, 26⟩] [] (roS (.slice a2 l2.length c2) (cellsB l2) ++ roS (.slice a1 l1.length c1) (cellsB l1)) wx)
          case first =>
            cases H2
            all_goals
              (try simp only [Act.put]); (try simp only [List.setIfInBounds_toArray, List.set_cons_zero, List.set_cons_succ])
              refine wp_region_any (by kernel_rfl) ?_
              replace hO := hO.drew
              have ix9 := Ix.mk [0, 3]
              iterate 2 (refine wpAny_tk ix9 ?_; replace ix9 := ix9.tail; (first | go_big_quiet_skip | (go_big_quiet_want; (go_big_quiet_op; (first | go_big_quiet_on | ((refine ⟨_, fun _ _ => rfl, ?_⟩); go_big_quiet_on))))); (refine wpQuiet_nil ?_); (try simp only [Act.put]); (try simp only [List.setIfInBounds_toArray, List.set_cons_zero, List.set_cons_succ]))
              clear ix9
              refine wpAny_all (rs := [1, 4]) (by kernel_rfl) (by simp) (ord_cons ?_ (ord_cons ?_ ord_nil))
              rotate_left 2
              all_goals
                refine wpOp_of_listL rfl ?_
                (first | ((with_reducible refine is_load ?_); refine own_ld (h := ?_)) | ((with_reducible refine is_store ?_); (first | refine own_stR (hO := hO) (h := ?_) | refine own_st1 (hO := hO) (h := ?_)); clear hO; intro wv hO) | ((refine wpList_step (fun K hK => ?_)); go_simp; (first | ((refine hK _ _ ?_); clear hK K) | ((first | (go_at_call 15; (with_reducible refine (ch1 _ (hO.tops ht (by simp)) (hO.isB hf1 (by intro q hq; repeat (first | exact hq | exact List.mem_append_left _ hq | apply List.mem_append_right | apply List.mem_cons_of_mem)))).mono ?_); rintro e wv ⟨rfl, hb9⟩; replace hO := hO.call hb9; clear hb9) | (go_at_call 15; (with_reducible refine (ch2 _ (hO.tops ht (by simp)) (hO.isB hf2 (by intro q hq; repeat (first | exact hq | exact List.mem_append_left _ hq | apply List.mem_append_right | apply List.mem_cons_of_mem)))).mono ?_); rintro e wv ⟨rfl, hb9⟩; replace hO := hO.call hb9; clear hb9)); (try simp only []); (refine hK _ _ ?_); clear hK K)))); (try simp only [Act.put]); (try simp only [List.setIfInBounds_toArray, List.set_cons_zero, List.set_cons_succ])
                refine wpList_done (qk_intro ?_)
              refine wpAny_all (rs := [2, 4]) (by kernel_rfl) (by simp) (ord_cons ?_ (ord_cons ?_ ord_nil))
              rotate_left 2
              refine wpAny_all (rs := [1]) (by kernel_rfl) (by simp) (ord_cons ?_ ord_nil)
              rotate_left 1
              all_goals
                refine wpOp_of_listL rfl ?_
                (first | ((with_reducible refine is_load ?_); refine own_ld (h := ?_)) | ((with_reducible refine is_store ?_); (first | refine own_stR (hO := hO) (h := ?_) | refine own_st1 (hO := hO) (h := ?_)); clear hO; intro wv hO) | ((refine wpList_step (fun K hK => ?_)); go_simp; (first | ((refine hK _ _ ?_); clear hK K) | ((first | (go_at_call 15; (with_reducible refine (ch1 _ (hO.tops ht (by simp)) (hO.isB hf1 (by intro q hq; repeat (first | exact hq | exact List.mem_append_left _ hq | apply List.mem_append_right | apply List.mem_cons_of_mem)))).mono ?_); rintro e wv ⟨rfl, hb9⟩; replace hO := hO.call hb9; clear hb9) | (go_at_call 15; (with_reducible refine (ch2 _ (hO.tops ht (by simp)) (hO.isB hf2 (by intro q hq; repeat (first | exact hq | exact List.mem_append_left _ hq | apply List.mem_append_right | apply List.mem_cons_of_mem)))).mono ?_); rintro e wv ⟨rfl, hb9⟩; replace hO := hO.call hb9; clear hb9)); (try simp only []); (refine hK _ _ ?_); clear hK K)))); (try simp only [Act.put]); (try simp only [List.setIfInBounds_toArray, List.set_cons_zero, List.set_cons_succ])
                refine wpList_done (qk_intro ?_)
              refine wpAny_all (rs := [4]) (by kernel_rfl) (by simp) (ord_cons ?_ ord_nil)
              rotate_left 1
              refine wpAny_all (rs := [2]) (by kernel_rfl) (by simp) (ord_cons ?_ ord_nil)
              rotate_left 1
              refine wpAny_all (rs := [2]) (by kernel_rfl) (by simp) (ord_cons ?_ ord_nil)
              rotate_left 1
              all_goals
                refine wpOp_of_listL rfl ?_
                (first | ((with_reducible refine is_load ?_); refine own_ld (h := ?_)) | ((with_reducible refine is_store ?_); (first | refine own_stR (hO := hO) (h := ?_) | refine own_st1 (hO := hO) (h := ?_)); clear hO; intro wv hO) | ((refine wpList_step (fun K hK => ?_)); go_simp; (first | ((refine hK _ _ ?_); clear hK K) | ((first | (go_at_call 15; (with_reducible refine (ch1 _ (hO.tops ht (by simp)) (hO.isB hf1 (by intro q hq; repeat (first | exact hq | exact List.mem_append_left _ hq | apply List.mem_append_right | apply List.mem_cons_of_mem)))).mono ?_); rintro e wv ⟨rfl, hb9⟩; replace hO := hO.call hb9; clear hb9) | (go_at_call 15; (with_reducible refine (ch2 _ (hO.tops ht (by simp)) (hO.isB hf2 (by intro q hq; repeat (first | exact hq | exact List.mem_append_left _ hq | apply List.mem_append_right | apply List.mem_cons_of_mem)))).mono ?_); rintro e wv ⟨rfl, hb9⟩; replace hO := hO.call hb9; clear hb9)); (try simp only []); (refine hK _ _ ?_); clear hK K)))); (try simp only [Act.put]); (try simp only [List.setIfInBounds_toArray, List.set_cons_zero, List.set_cons_succ])
                refine wpList_done (qk_intro ?_)
              refine wpAny_all (rs := [5]) (by kernel_rfl) (by simp) (ord_cons ?_ ord_nil)
              rotate_left 1
              refine wpAny_all (rs := [5]) (by kernel_rfl) (by simp) (ord_cons ?_ ord_nil)
              rotate_left 1
              refine wpAny_all (rs := [5]) (by kernel_rfl) (by simp) (ord_cons ?_ ord_nil)
              rotate_left 1
              all_goals
                refine wpOp_of_listL rfl ?_
                (first | ((with_reducible refine is_load ?_); refine own_ld (h := ?_)) | ((with_reducible refine is_store ?_); (first | refine own_stR (hO := hO) (h := ?_) | refine own_st1 (hO := hO) (h := ?_)); clear hO; intro wv hO) | ((refine wpList_step (fun K hK => ?_)); go_simp; (first | ((refine hK _ _ ?_); clear hK K) | ((first | (go_at_call 15; (with_reducible refine (ch1 _ (hO.tops ht (by simp)) (hO.isB hf1 (by intro q hq; repeat (first | exact hq | exact List.mem_append_left _ hq | apply List.mem_append_right | apply List.mem_cons_of_mem)))).mono ?_); rintro e wv ⟨rfl, hb9⟩; replace hO := hO.call hb9; clear hb9) | (go_at_call 15; (with_reducible refine (ch2 _ (hO.tops ht (by simp)) (hO.isB hf2 (by intro q hq; repeat (first | exact hq | exact List.mem_append_left _ hq | apply List.mem_append_right | apply List.mem_cons_of_mem)))).mono ?_); rintro e wv ⟨rfl, hb9⟩; replace hO := hO.call hb9; clear hb9)); (try simp only []); (refine hK _ _ ?_); clear hK K)))); (try simp only [Act.put]); (try simp only [List.setIfInBounds_toArray, List.set_cons_zero, List.set_cons_succ])
                refine wpList_done (qk_intro ?_)
              refine wpAny_tk (Ix.mk [6]) ?_
              (first | go_big_quiet_skip | (go_big_quiet_want; (go_big_quiet_op; (first | go_big_quiet_on | ((refine ⟨_, fun _ _ => rfl, ?_⟩); go_big_quiet_on))))); (refine wpQuiet_nil ?_); (try simp only [Act.put]); (try simp only [List.setIfInBounds_toArray, List.set_cons_zero, List.set_cons_succ])
              refine wpAny_done (by kernel_rfl) ?_ _
              rotate_left
              refine wpAny_tk (Ix.mk [6]) ?_
              (first | go_big_quiet_skip | (go_big_quiet_want; (go_big_quiet_op; (first | go_big_quiet_on | ((refine ⟨_, fun _ _ => rfl, ?_⟩); go_big_quiet_on))))); (refine wpQuiet_nil ?_); (try simp only [Act.put]); (try simp only [List.setIfInBounds_toArray, List.set_cons_zero, List.set_cons_succ])
              refine wpAny_done (by kernel_rfl) ?_ _
              rotate_left
              refine wpAny_tk (Ix.mk [6]) ?_
              (first | go_big_quiet_skip | (go_big_quiet_want; (go_big_quiet_op; (first | go_big_quiet_on | ((refine ⟨_, fun _ _ => rfl, ?_⟩); go_big_quiet_on))))); (refine wpQuiet_nil ?_); (try simp only [Act.put]); (try simp only [List.setIfInBounds_toArray, List.set_cons_zero, List.set_cons_succ])
              refine wpAny_done (by kernel_rfl) ?_ _
              rotate_left
              all_goals
                go_wp2_with fail
                go_meet
                exact ⟨rfl, hO⟩
          case rest =>
            clear hO
            obtain ⟨rfl, hO⟩ := hcut
            rcases hc3 with h9 | ⟨h9, rfl⟩
            · have g8 : decide (0 ≤ o) = true := decide_eq_true h9
              go_upto_region 13 with (first | ((with_reducible refine is_load ?_); refine own_ld (h := ?_)) | ((with_reducible refine is_store ?_); (first | refine own_stR (hO := hO) (h := ?_) | refine own_st1 (hO := hO) (h := ?_)); clear hO; intro wv hO) | ((with_reducible refine is_box ?_); (first | (refine own_bx (o := ⟨some 7, _, _, _, _, _⟩) (hO := hO) (h := ?_); clear hO; intro n7 wv hO))) | ((with_reducible refine is_alloc ?_); (first | (refine own_al (o := ⟨some 10, _, _, _, _, _⟩) (hO := hO) (h := ?_); clear hO; intro n10 wv hO) | (refine own_al (o := ⟨some 12, _, _, _, _, _⟩) (hO := hO) (h := ?_); clear hO; intro n12 wv hO))))
              (try simp only [Act.put]); (try simp only [List.setIfInBounds_toArray, List.set_cons_zero, List.set_cons_succ])
              refine wp_region_any (by kernel_rfl) ?_
              replace hO := hO.drew
              refine wpAny_all (rs := [0, 1]) (by kernel_rfl) (by simp) (ord_cons ?_ (ord_cons ?_ ord_nil))
              rotate_left 2
              all_goals
                refine wpOp_of_listL rfl ?_
                (first | ((with_reducible refine is_load ?_); refine own_ld (h := ?_)) | ((with_reducible refine is_store ?_); (first | refine own_stR (hO := hO) (h := ?_) | refine own_st1 (hO := hO) (h := ?_)); clear hO; intro wv hO) | ((refine wpList_step (fun K hK => ?_)); go_simp; (first | ((refine hK _ _ ?_); clear hK K) | ((first | (go_at_call 34; (with_reducible refine (ho3 _).mono ?_); rintro e wv ⟨rfl, hb9⟩; replace hO := hO.call hb9; clear hb9) | (go_at_call 19; (with_reducible refine (sane4_any _ (hO.tops ht (by simp))).mono ?_); rintro e wv ⟨rfl, hb9⟩; replace hO := hO.call hb9; clear hb9)); (try simp only []); (refine hK _ _ ?_); clear hK K)))); (try simp only [Act.put]); (try simp only [List.setIfInBounds_toArray, List.set_cons_zero, List.set_cons_succ])
                refine wpList_done (qk_intro ?_)
              refine wpAny_all (rs := [1]) (by kernel_rfl) (by simp) (ord_cons ?_ ord_nil)
              rotate_left 1
              refine wpAny_all (rs := [0]) (by kernel_rfl) (by simp) (ord_cons ?_ ord_nil)
              rotate_left 1
              all_goals
                refine wpOp_of_listL rfl ?_
                (first | ((with_reducible refine is_load ?_); refine own_ld (h := ?_)) | ((with_reducible refine is_store ?_); (first | refine own_stR (hO := hO) (h := ?_) | refine own_st1 (hO := hO) (h := ?_)); clear hO; intro wv hO) | ((refine wpList_step (fun K hK => ?_)); go_simp; (first | ((refine hK _ _ ?_); clear hK K) | ((first | (go_at_call 34; (with_reducible refine (ho3 _).mono ?_); rintro e wv ⟨rfl, hb9⟩; replace hO := hO.call hb9; clear hb9) | (go_at_call 19; (with_reducible refine (sane4_any _ (hO.tops ht (by simp))).mono ?_); rintro e wv ⟨rfl, hb9⟩; replace hO := hO.call hb9; clear hb9)); (try simp only []); (refine hK _ _ ?_); clear hK K)))); (try simp only [Act.put]); (try simp only [List.setIfInBounds_toArray, List.set_cons_zero, List.set_cons_succ])
                refine wpList_done (qk_intro ?_)
              refine wpAny_all (rs := [2]) (by kernel_rfl) (by simp) (ord_cons ?_ ord_nil)
              rotate_left 1
              refine wpAny_all (rs := [2]) (by kernel_rfl) (by simp) (ord_cons ?_ ord_nil)
              rotate_left 1
              all_goals
                refine wpOp_of_listL rfl ?_
                (first | ((with_reducible refine is_load ?_); refine own_ld (h := ?_)) | ((with_reducible refine is_store ?_); (first | refine own_stR (hO := hO) (h := ?_) | refine own_st1 (hO := hO) (h := ?_)); clear hO; intro wv hO) | ((refine wpList_step (fun K hK => ?_)); go_simp; (first | ((refine hK _ _ ?_); clear hK K) | ((first | (go_at_call 34; (with_reducible refine (ho3 _).mono ?_); rintro e wv ⟨rfl, hb9⟩; replace hO := hO.call hb9; clear hb9) | (go_at_call 19; (with_reducible refine (sane4_any _ (hO.tops ht (by simp))).mono ?_); rintro e wv ⟨rfl, hb9⟩; replace hO := hO.call hb9; clear hb9)); (try simp only []); (refine hK _ _ ?_); clear hK K)))); (try simp only [Act.put]); (try simp only [List.setIfInBounds_toArray, List.set_cons_zero, List.set_cons_succ])
                refine wpList_done (qk_intro ?_)
              have ix9 := Ix.mk [3, 4, 5, 8]
              iterate 4 (refine wpAny_tk ix9 ?_; replace ix9 := ix9.tail; (first | go_big_quiet_skip | (go_big_quiet_want; (go_big_quiet_op; (first | go_big_quiet_on | ((refine ⟨_, fun _ _ => rfl, ?_⟩); go_big_quiet_on))))); (refine wpQuiet_nil ?_); (try simp only [Act.put]); (try simp only [List.setIfInBounds_toArray, List.set_cons_zero, List.set_cons_succ]))
              clear ix9
              refine wpAny_all (rs := [6, 9]) (by kernel_rfl) (by simp) (ord_cons ?_ (ord_cons ?_ ord_nil))
              rotate_left 2
              have ix9 := Ix.mk [3, 4, 5, 8]
              iterate 4 (refine wpAny_tk ix9 ?_; replace ix9 := ix9.tail; (first | go_big_quiet_skip | (go_big_quiet_want; (go_big_quiet_op; (first | go_big_quiet_on | ((refine ⟨_, fun _ _ => rfl, ?_⟩); go_big_quiet_on))))); (refine wpQuiet_nil ?_); (try simp only [Act.put]); (try simp only [List.setIfInBounds_toArray, List.set_cons_zero, List.set_cons_succ]))
              clear ix9
              refine wpAny_all (rs := [6, 9]) (by kernel_rfl) (by simp) (ord_cons ?_ (ord_cons ?_ ord_nil))
              rotate_left 2
              all_goals
                refine wpOp_of_listL rfl ?_
                (first | ((with_reducible refine is_load ?_); refine own_ld (h := ?_)) | ((with_reducible refine is_store ?_); (first | refine own_stR (hO := hO) (h := ?_) | refine own_st1 (hO := hO) (h := ?_)); clear hO; intro wv hO) | ((refine wpList_step (fun K hK => ?_)); go_simp; (first | ((refine hK _ _ ?_); clear hK K) | ((first | (go_at_call 34; (with_reducible refine (ho3 _).mono ?_); rintro e wv ⟨rfl, hb9⟩; replace hO := hO.call hb9; clear hb9) | (go_at_call 19; (with_reducible refine (sane4_any _ (hO.tops ht (by simp))).mono ?_); rintro e wv ⟨rfl, hb9⟩; replace hO := hO.call hb9; clear hb9)); (try simp only []); (refine hK _ _ ?_); clear hK K)))); (try simp only [Act.put]); (try simp only [List.setIfInBounds_toArray, List.set_cons_zero, List.set_cons_succ])
                refine wpList_done (qk_intro ?_)
              refine wpAny_all (rs := [7, 9]) (by kernel_rfl) (by simp) (ord_cons ?_ (ord_cons ?_ ord_nil))
              rotate_left 2
              refine wpAny_all (rs := [6]) (by kernel_rfl) (by simp) (ord_cons ?_ ord_nil)
              rotate_left 1
              refine wpAny_all (rs := [7, 9]) (by kernel_rfl) (by simp) (ord_cons ?_ (ord_cons ?_ ord_nil))
              rotate_left 2
              refine wpAny_all (rs := [6]) (by kernel_rfl) (by simp) (ord_cons ?_ ord_nil)
              rotate_left 1
              all_goals
                refine wpOp_of_listL rfl ?_
                (first | ((with_reducible refine is_load ?_); refine own_ld (h := ?_)) | ((with_reducible refine is_store ?_); (first | refine own_stR (hO := hO) (h := ?_) | refine own_st1 (hO := hO) (h := ?_)); clear hO; intro wv hO) | ((refine wpList_step (fun K hK => ?_)); go_simp; (first | ((refine hK _ _ ?_); clear hK K) | ((first | (go_at_call 34; (with_reducible refine (ho3 _).mono ?_); rintro e wv ⟨rfl, hb9⟩; replace hO := hO.call hb9; clear hb9) | (go_at_call 19; (with_reducible refine (sane4_any _ (hO.tops ht (by simp))).mono ?_); rintro e wv ⟨rfl, hb9⟩; replace hO := hO.call hb9; clear hb9)); (try simp only []); (refine hK _ _ ?_); clear hK K)))); (try simp only [Act.put]); (try simp only [List.setIfInBounds_toArray, List.set_cons_zero, List.set_cons_succ])
                refine wpList_done (qk_intro ?_)
              refine wpAny_all (rs := [9]) (by kernel_rfl) (by simp) (ord_cons ?_ ord_nil)
              rotate_left 1
              refine wpAny_all (rs := [7]) (by kernel_rfl) (by simp) (ord_cons ?_ ord_nil)
              rotate_left 1
              refine wpAny_all (rs := [7]) (by kernel_rfl) (by simp) (ord_cons ?_ ord_nil)
              rotate_left 1
              refine wpAny_all (rs := [9]) (by kernel_rfl) (by simp) (ord_cons ?_ ord_nil)
              rotate_left 1
              refine wpAny_all (rs := [7]) (by kernel_rfl) (by simp) (ord_cons ?_ ord_nil)
              rotate_left 1
              refine wpAny_all (rs := [7]) (by kernel_rfl) (by simp) (ord_cons ?_ ord_nil)
              rotate_left 1
              all_goals
                refine wpOp_of_listL rfl ?_
                (first | ((with_reducible refine is_load ?_); refine own_ld (h := ?_)) | ((with_reducible refine is_store ?_); (first | refine own_stR (hO := hO) (h := ?_) | refine own_st1 (hO := hO) (h := ?_)); clear hO; intro wv hO) | ((refine wpList_step (fun K hK => ?_)); go_simp; (first | ((refine hK _ _ ?_); clear hK K) | ((first | (go_at_call 34; (with_reducible refine (ho3 _).mono ?_); rintro e wv ⟨rfl, hb9⟩; replace hO := hO.call hb9; clear hb9) | (go_at_call 19; (with_reducible refine (sane4_any _ (hO.tops ht (by simp))).mono ?_); rintro e wv ⟨rfl, hb9⟩; replace hO := hO.call hb9; clear hb9)); (try simp only []); (refine hK _ _ ?_); clear hK K)))); (try simp only [Act.put]); (try simp only [List.setIfInBounds_toArray, List.set_cons_zero, List.set_cons_succ])
                refine wpList_done (qk_intro ?_)
              refine wpAny_all (rs := [10]) (by kernel_rfl) (by simp) (ord_cons ?_ ord_nil)
              rotate_left 1
              refine wpAny_all (rs := [10]) (by kernel_rfl) (by simp) (ord_cons ?_ ord_nil)
              rotate_left 1
              refine wpAny_all (rs := [10]) (by kernel_rfl) (by simp) (ord_cons ?_ ord_nil)
              rotate_left 1
              refine wpAny_all (rs := [10]) (by kernel_rfl) (by simp) (ord_cons ?_ ord_nil)
              rotate_left 1
              refine wpAny_all (rs := [10]) (by kernel_rfl) (by simp) (ord_cons ?_ ord_nil)
              rotate_left 1
              refine wpAny_all (rs := [10]) (by kernel_rfl) (by simp) (ord_cons ?_ ord_nil)
              rotate_left 1
              all_goals
                refine wpOp_of_listL rfl ?_
                (first | ((with_reducible refine is_load ?_); refine own_ld (h := ?_)) | ((with_reducible refine is_store ?_); (first | refine own_stR (hO := hO) (h := ?_) | refine own_st1 (hO := hO) (h := ?_)); clear hO; intro wv hO) | ((refine wpList_step (fun K hK => ?_)); go_simp; (first | ((refine hK _ _ ?_); clear hK K) | ((first | (go_at_call 34; (with_reducible refine (ho3 _).mono ?_); rintro e wv ⟨rfl, hb9⟩; replace hO := hO.call hb9; clear hb9) | (go_at_call 19; (with_reducible refine (sane4_any _ (hO.tops ht (by simp))).mono ?_); rintro e wv ⟨rfl, hb9⟩; replace hO := hO.call hb9; clear hb9)); (try simp only []); (refine hK _ _ ?_); clear hK K)))); (try simp only [Act.put]); (try simp only [List.setIfInBounds_toArray, List.set_cons_zero, List.set_cons_succ])
                refine wpList_done (qk_intro ?_)
              have ix9 := Ix.mk [11, 12, 13]
              iterate 3 (refine wpAny_tk ix9 ?_; replace ix9 := ix9.tail; (first | go_big_quiet_skip | (go_big_quiet_want; (go_big_quiet_op; (first | go_big_quiet_on | ((refine ⟨_, fun _ _ => rfl, ?_⟩); go_big_quiet_on))))); (refine wpQuiet_nil ?_); (try simp only [Act.put]); (try simp only [List.setIfInBounds_toArray, List.set_cons_zero, List.set_cons_succ]))
              clear ix9
              refine wpAny_all (rs := [14]) (by kernel_rfl) (by simp) (ord_cons ?_ ord_nil)
              rotate_left 1
              have ix9 := Ix.mk [11, 12, 13]
              iterate 3 (refine wpAny_tk ix9 ?_; replace ix9 := ix9.tail; (first | go_big_quiet_skip | (go_big_quiet_want; (go_big_quiet_op; (first | go_big_quiet_on | ((refine ⟨_, fun _ _ => rfl, ?_⟩); go_big_quiet_on))))); (refine wpQuiet_nil ?_); (try simp only [Act.put]); (try simp only [List.setIfInBounds_toArray, List.set_cons_zero, List.set_cons_succ]))
              clear ix9
              refine wpAny_all (rs := [14]) (by kernel_rfl) (by simp) (ord_cons ?_ ord_nil)
              rotate_left 1
              have ix9 := Ix.mk [11, 12, 13]
              iterate 3 (refine wpAny_tk ix9 ?_; replace ix9 := ix9.tail; (first | go_big_quiet_skip | (go_big_quiet_want; (go_big_quiet_op; (first | go_big_quiet_on | ((refine ⟨_, fun _ _ => rfl, ?_⟩); go_big_quiet_on))))); (refine wpQuiet_nil ?_); (try simp only [Act.put]); (try simp only [List.setIfInBounds_toArray, List.set_cons_zero, List.set_cons_succ]))
              clear ix9
              refine wpAny_all (rs := [14]) (by kernel_rfl) (by simp) (ord_cons ?_ ord_nil)
              rotate_left 1
              have ix9 := Ix.mk [11, 12, 13]
              iterate 3 (refine wpAny_tk ix9 ?_; replace ix9 := ix9.tail; (first | go_big_quiet_skip | (go_big_quiet_want; (go_big_quiet_op; (first | go_big_quiet_on | ((refine ⟨_, fun _ _ => rfl, ?_⟩); go_big_quiet_on))))); (refine wpQuiet_nil ?_); (try simp only [Act.put]); (try simp only [List.setIfInBounds_toArray, List.set_cons_zero, List.set_cons_succ]))
              clear ix9
              refine wpAny_all (rs := [14]) (by kernel_rfl) (by simp) (ord_cons ?_ ord_nil)
              rotate_left 1
              have ix9 := Ix.mk [11, 12, 13]
              iterate 3 (refine wpAny_tk ix9 ?_; replace ix9 := ix9.tail; (first | go_big_quiet_skip | (go_big_quiet_want; (go_big_quiet_op; (first | go_big_quiet_on | ((refine ⟨_, fun _ _ => rfl, ?_⟩); go_big_quiet_on))))); (refine wpQuiet_nil ?_); (try simp only [Act.put]); (try simp only [List.setIfInBounds_toArray, List.set_cons_zero, List.set_cons_succ]))
              clear ix9
              refine wpAny_all (rs := [14]) (by kernel_rfl) (by simp) (ord_cons ?_ ord_nil)
              rotate_left 1
              have ix9 := Ix.mk [11, 12, 13]
              iterate 3 (refine wpAny_tk ix9 ?_; replace ix9 := ix9.tail; (first | go_big_quiet_skip | (go_big_quiet_want; (go_big_quiet_op; (first | go_big_quiet_on | ((refine ⟨_, fun _ _ => rfl, ?_⟩); go_big_quiet_on))))); (refine wpQuiet_nil ?_); (try simp only [Act.put]); (try simp only [List.setIfInBounds_toArray, List.set_cons_zero, List.set_cons_succ]))
              clear ix9
              refine wpAny_all (rs := [14]) (by kernel_rfl) (by simp) (ord_cons ?_ ord_nil)
              rotate_left 1
              all_goals
                refine wpOp_of_listL rfl ?_
                (first | ((with_reducible refine is_load ?_); refine own_ld (h := ?_)) | ((with_reducible refine is_store ?_); (first | refine own_stR (hO := hO) (h := ?_) | refine own_st1 (hO := hO) (h := ?_)); clear hO; intro wv hO) | ((refine wpList_step (fun K hK => ?_)); go_simp; (first | ((refine hK _ _ ?_); clear hK K) | ((first | (go_at_call 34; (with_reducible refine (ho3 _).mono ?_); rintro e wv ⟨rfl, hb9⟩; replace hO := hO.call hb9; clear hb9) | (go_at_call 19; (with_reducible refine (sane4_any _ (hO.tops ht (by simp))).mono ?_); rintro e wv ⟨rfl, hb9⟩; replace hO := hO.call hb9; clear hb9)); (try simp only []); (refine hK _ _ ?_); clear hK K)))); (try simp only [Act.put]); (try simp only [List.setIfInBounds_toArray, List.set_cons_zero, List.set_cons_succ])
                refine wpList_done (qk_intro ?_)
              refine wpAny_tk (Ix.mk [15]) ?_
              (first | go_big_quiet_skip | (go_big_quiet_want; (go_big_quiet_op; (first | go_big_quiet_on | ((refine ⟨_, fun _ _ => rfl, ?_⟩); go_big_quiet_on))))); (refine wpQuiet_nil ?_); (try simp only [Act.put]); (try simp only [List.setIfInBounds_toArray, List.set_cons_zero, List.set_cons_succ])
              refine wpAny_all (rs := [16]) (by kernel_rfl) (by simp) (ord_cons ?_ ord_nil)
              rotate_left 1
              refine wpAny_tk (Ix.mk [15]) ?_
              (first | go_big_quiet_skip | (go_big_quiet_want; (go_big_quiet_op; (first | go_big_quiet_on | ((refine ⟨_, fun _ _ => rfl, ?_⟩); go_big_quiet_on))))); (refine wpQuiet_nil ?_); (try simp only [Act.put]); (try simp only [List.setIfInBounds_toArray, List.set_cons_zero, List.set_cons_succ])
              refine wpAny_all (rs := [16]) (by kernel_rfl) (by simp) (ord_cons ?_ ord_nil)
              rotate_left 1
              refine wpAny_tk (Ix.mk [15]) ?_
              (first | go_big_quiet_skip | (go_big_quiet_want; (go_big_quiet_op; (first | go_big_quiet_on | ((refine ⟨_, fun _ _ => rfl, ?_⟩); go_big_quiet_on))))); (refine wpQuiet_nil ?_); (try simp only [Act.put]); (try simp only [List.setIfInBounds_toArray, List.set_cons_zero, List.set_cons_succ])
              refine wpAny_all (rs := [16]) (by kernel_rfl) (by simp) (ord_cons ?_ ord_nil)
              rotate_left 1
              refine wpAny_tk (Ix.mk [15]) ?_
              (first | go_big_quiet_skip | (go_big_quiet_want; (go_big_quiet_op; (first | go_big_quiet_on | ((refine ⟨_, fun _ _ => rfl, ?_⟩); go_big_quiet_on))))); (refine wpQuiet_nil ?_); (try simp only [Act.put]); (try simp only [List.setIfInBounds_toArray, List.set_cons_zero, List.set_cons_succ])
              refine wpAny_all (rs := [16]) (by kernel_rfl) (by simp) (ord_cons ?_ ord_nil)
              rotate_left 1
              refine wpAny_tk (Ix.mk [15]) ?_
              (first | go_big_quiet_skip | (go_big_quiet_want; (go_big_quiet_op; (first | go_big_quiet_on | ((refine ⟨_, fun _ _ => rfl, ?_⟩); go_big_quiet_on))))); (refine wpQuiet_nil ?_); (try simp only [Act.put]); (try simp only [List.setIfInBounds_toArray, List.set_cons_zero, List.set_cons_succ])
              refine wpAny_all (rs := [16]) (by kernel_rfl) (by simp) (ord_cons ?_ ord_nil)
              rotate_left 1
              refine wpAny_tk (Ix.mk [15]) ?_
              (first | go_big_quiet_skip | (go_big_quiet_want; (go_big_quiet_op; (first | go_big_quiet_on | ((refine ⟨_, fun _ _ => rfl, ?_⟩); go_big_quiet_on))))); (refine wpQuiet_nil ?_); (try simp only [Act.put]); (try simp only [List.setIfInBounds_toArray, List.set_cons_zero, List.set_cons_succ])
              refine wpAny_all (rs := [16]) (by kernel_rfl) (by simp) (ord_cons ?_ ord_nil)
              rotate_left 1
              all_goals
                refine wpOp_of_listL rfl ?_
                (first | ((with_reducible refine is_load ?_); refine own_ld (h := ?_)) | ((with_reducible refine is_store ?_); (first | refine own_stR (hO := hO) (h := ?_) | refine own_st1 (hO := hO) (h := ?_)); clear hO; intro wv hO) | ((refine wpList_step (fun K hK => ?_)); go_simp; (first | ((refine hK _ _ ?_); clear hK K) | ((first | (go_at_call 34; (with_reducible refine (ho3 _).mono ?_); rintro e wv ⟨rfl, hb9⟩; replace hO := hO.call hb9; clear hb9) | (go_at_call 19; (with_reducible refine (sane4_any _ (hO.tops ht (by simp))).mono ?_); rintro e wv ⟨rfl, hb9⟩; replace hO := hO.call hb9; clear hb9)); (try simp only []); (refine hK _ _ ?_); clear hK K)))); (try simp only [Act.put]); (try simp only [List.setIfInBounds_toArray, List.set_cons_zero, List.set_cons_succ])
                refine wpList_done (qk_intro ?_)
              refine wpAny_done (by kernel_rfl) ?_ _
              rotate_left
              refine wpAny_done (by kernel_rfl) ?_ _
              rotate_left
              refine wpAny_done (by kernel_rfl) ?_ _
              rotate_left
              refine wpAny_done (by kernel_rfl) ?_ _
              rotate_left
              refine wpAny_done (by kernel_rfl) ?_ _
              rotate_left
              refine wpAny_done (by kernel_rfl) ?_ _
              rotate_left
              all_goals
                go_wp2_with (first | ((with_reducible refine is_load ?_); refine own_ld (h := ?_)) | ((with_reducible refine is_store ?_); (first | refine own_stR (hO := hO) (h := ?_) | refine own_st1 (hO := hO) (h := ?_)); clear hO; intro wv hO) | ((with_reducible refine is_box ?_); (first | (refine own_bx (o := ⟨some 7, _, _, _, _, _⟩) (hO := hO) (h := ?_); clear hO; intro n7 wv hO))) | ((with_reducible refine is_alloc ?_); (first | (refine own_al (o := ⟨some 10, _, _, _, _, _⟩) (hO := hO) (h := ?_); clear hO; intro n10 wv hO) | (refine own_al (o := ⟨some 12, _, _, _, _, _⟩) (hO := hO) (h := ?_); clear hO; intro n12 wv hO))))
                go_ret
                exact ⟨rfl, hO.keep.below⟩
            · have g8 : decide (0 ≤ o) = false := decide_eq_false (by omega)
              cases C2
              all_goals
                go_upto_region 13 with (first | ((with_reducible refine is_load ?_); refine own_ld (h := ?_)) | ((with_reducible refine is_store ?_); (first | refine own_stR (hO := hO) (h := ?_) | refine own_st1 (hO := hO) (h := ?_)); clear hO; intro wv hO) | ((with_reducible refine is_box ?_); (first | (refine own_bx (o := ⟨some 7, _, _, _, _, _⟩) (hO := hO) (h := ?_); clear hO; intro n7 wv hO))) | ((with_reducible refine is_alloc ?_); (first | (refine own_al (o := ⟨some 10, _, _, _, _, _⟩) (hO := hO) (h := ?_); clear hO; intro n10 wv hO) | (refine own_al (o := ⟨some 12, _, _, _, _, _⟩) (hO := hO) (h := ?_); clear hO; intro n12 wv hO))))
                (try simp only [Act.put]); (try simp only [List.setIfInBounds_toArray, List.set_cons_zero, List.set_cons_succ])
                refine wp_region_any (by kernel_rfl) ?_
                replace hO := hO.drew
                refine wpAny_all (rs := [0, 1]) (by kernel_rfl) (by simp) (ord_cons ?_ (ord_cons ?_ ord_nil))
                rotate_left 2
                all_goals
                  refine wpOp_of_listL rfl ?_
                  (first | ((with_reducible refine is_load ?_); refine own_ld (h := ?_)) | ((with_reducible refine is_store ?_); (first | refine own_stR (hO := hO) (h := ?_) | refine own_st1 (hO := hO) (h := ?_)); clear hO; intro wv hO) | ((refine wpList_step (fun K hK => ?_)); go_simp; (first | ((refine hK _ _ ?_); clear hK K) | ((first | (go_at_call 34; (with_reducible refine (ho3 _).mono ?_); rintro e wv ⟨rfl, hb9⟩; replace hO := hO.call hb9; clear hb9) | (go_at_call 15; (with_reducible refine (cg1 _ (hO.tops ht (by simp)) (hO.isB hf1 (by intro q hq; repeat (first | exact hq | exact List.mem_append_left _ hq | apply List.mem_append_right | apply List.mem_cons_of_mem)))).mono ?_); rintro e wv ⟨rfl, hb9⟩; replace hO := hO.call hb9; clear hb9) | (go_at_call 15; (with_reducible refine (cg2 _ (hO.tops ht (by simp)) (hO.isB hf2 (by intro q hq; repeat (first | exact hq | exact List.mem_append_left _ hq | apply List.mem_append_right | apply List.mem_cons_of_mem)))).mono ?_); rintro e wv ⟨rfl, hb9⟩; replace hO := hO.call hb9; clear hb9) | (go_at_call 19; (with_reducible refine (sane4_any _ (hO.tops ht (by simp))).mono ?_); rintro e wv ⟨rfl, hb9⟩; replace hO := hO.call hb9; clear hb9)); (try simp only []); (refine hK _ _ ?_); clear hK K)))); (try simp only [Act.put]); (try simp only [List.setIfInBounds_toArray, List.set_cons_zero, List.set_cons_succ])
                  refine wpList_done (qk_intro ?_)
                refine wpAny_all (rs := [1]) (by kernel_rfl) (by simp) (ord_cons ?_ ord_nil)
                rotate_left 1
                refine wpAny_all (rs := [0]) (by kernel_rfl) (by simp) (ord_cons ?_ ord_nil)
                rotate_left 1
                all_goals
                  refine wpOp_of_listL rfl ?_
                  (first | ((with_reducible refine is_load ?_); refine own_ld (h := ?_)) | ((with_reducible refine is_store ?_); (first | refine own_stR (hO := hO) (h := ?_) | refine own_st1 (hO := hO) (h := ?_)); clear hO; intro wv hO) | ((refine wpList_step (fun K hK => ?_)); go_simp; (first | ((refine hK _ _ ?_); clear hK K) | ((first | (go_at_call 34; (with_reducible refine (ho3 _).mono ?_); rintro e wv ⟨rfl, hb9⟩; replace hO := hO.call hb9; clear hb9) | (go_at_call 15; (with_reducible refine (cg1 _ (hO.tops ht (by simp)) (hO.isB hf1 (by intro q hq; repeat (first | exact hq | exact List.mem_append_left _ hq | apply List.mem_append_right | apply List.mem_cons_of_mem)))).mono ?_); rintro e wv ⟨rfl, hb9⟩; replace hO := hO.call hb9; clear hb9) | (go_at_call 15; (with_reducible refine (cg2 _ (hO.tops ht (by simp)) (hO.isB hf2 (by intro q hq; repeat (first | exact hq | exact List.mem_append_left _ hq | apply List.mem_append_right | apply List.mem_cons_of_mem)))).mono ?_); rintro e wv ⟨rfl, hb9⟩; replace hO := hO.call hb9; clear hb9) | (go_at_call 19; (with_reducible refine (sane4_any _ (hO.tops ht (by simp))).mono ?_); rintro e wv ⟨rfl, hb9⟩; replace hO := hO.call hb9; clear hb9)); (try simp only []); (refine hK _ _ ?_); clear hK K)))); (try simp only [Act.put]); (try simp only [List.setIfInBounds_toArray, List.set_cons_zero, List.set_cons_succ])
                  refine wpList_done (qk_intro ?_)
                refine wpAny_all (rs := [2]) (by kernel_rfl) (by simp) (ord_cons ?_ ord_nil)
                rotate_left 1
                refine wpAny_all (rs := [2]) (by kernel_rfl) (by simp) (ord_cons ?_ ord_nil)
                rotate_left 1
                all_goals
                  refine wpOp_of_listL rfl ?_
                  (first | ((with_reducible refine is_load ?_); refine own_ld (h := ?_)) | ((with_reducible refine is_store ?_); (first | refine own_stR (hO := hO) (h := ?_) | refine own_st1 (hO := hO) (h := ?_)); clear hO; intro wv hO) | ((refine wpList_step (fun K hK => ?_)); go_simp; (first | ((refine hK _ _ ?_); clear hK K) | ((first | (go_at_call 34; (with_reducible refine (ho3 _).mono ?_); rintro e wv ⟨rfl, hb9⟩; replace hO := hO.call hb9; clear hb9) | (go_at_call 15; (with_reducible refine (cg1 _ (hO.tops ht (by simp)) (hO.isB hf1 (by intro q hq; repeat (first | exact hq | exact List.mem_append_left _ hq | apply List.mem_append_right | apply List.mem_cons_of_mem)))).mono ?_); rintro e wv ⟨rfl, hb9⟩; replace hO := hO.call hb9; clear hb9) | (go_at_call 15; (with_reducible refine (cg2 _ (hO.tops ht (by simp)) (hO.isB hf2 (by intro q hq; repeat (first | exact hq | exact List.mem_append_left _ hq | apply List.mem_append_right | apply List.mem_cons_of_mem)))).mono ?_); rintro e wv ⟨rfl, hb9⟩; replace hO := hO.call hb9; clear hb9) | (go_at_call 19; (with_reducible refine (sane4_any _ (hO.tops ht (by simp))).mono ?_); rintro e wv ⟨rfl, hb9⟩; replace hO := hO.call hb9; clear hb9)); (try simp only []); (refine hK _ _ ?_); clear hK K)))); (try simp only [Act.put]); (try simp only [List.setIfInBounds_toArray, List.set_cons_zero, List.set_cons_succ])
                  refine wpList_done (qk_intro ?_)
                have ix9 := Ix.mk [3, 4, 5, 8]
                iterate 4 (refine wpAny_tk ix9 ?_; replace ix9 := ix9.tail; (first | go_big_quiet_skip | (go_big_quiet_want; (go_big_quiet_op; (first | go_big_quiet_on | ((refine ⟨_, fun _ _ => rfl, ?_⟩); go_big_quiet_on))))); (refine wpQuiet_nil ?_); (try simp only [Act.put]); (try simp only [List.setIfInBounds_toArray, List.set_cons_zero, List.set_cons_succ]))
                clear ix9
                refine wpAny_all (rs := [6, 9]) (by kernel_rfl) (by simp) (ord_cons ?_ (ord_cons ?_ ord_nil))
                rotate_left 2
                have ix9 := Ix.mk [3, 4, 5, 8]
                iterate 4 (refine wpAny_tk ix9 ?_; replace ix9 := ix9.tail; (first | go_big_quiet_skip | (go_big_quiet_want; (go_big_quiet_op; (first | go_big_quiet_on | ((refine ⟨_, fun _ _ => rfl, ?_⟩); go_big_quiet_on))))); (refine wpQuiet_nil ?_); (try simp only [Act.put]); (try simp only [List.setIfInBounds_toArray, List.set_cons_zero, List.set_cons_succ]))
                clear ix9
                refine wpAny_all (rs := [6, 9]) (by kernel_rfl) (by simp) (ord_cons ?_ (ord_cons ?_ ord_nil))
                rotate_left 2
                all_goals
                  refine wpOp_of_listL rfl ?_
                  (first | ((with_reducible refine is_load ?_); refine own_ld (h := ?_)) | ((with_reducible refine is_store ?_); (first | refine own_stR (hO := hO) (h := ?_) | refine own_st1 (hO := hO) (h := ?_)); clear hO; intro wv hO) | ((refine wpList_step (fun K hK => ?_)); go_simp; (first | ((refine hK _ _ ?_); clear hK K) | ((first | (go_at_call 34; (with_reducible refine (ho3 _).mono ?_); rintro e wv ⟨rfl, hb9⟩; replace hO := hO.call hb9; clear hb9) | (go_at_call 15; (with_reducible refine (cg1 _ (hO.tops ht (by simp)) (hO.isB hf1 (by intro q hq; repeat (first | exact hq | exact List.mem_append_left _ hq | apply List.mem_append_right | apply List.mem_cons_of_mem)))).mono ?_); rintro e wv ⟨rfl, hb9⟩; replace hO := hO.call hb9; clear hb9) | (go_at_call 15; (with_reducible refine (cg2 _ (hO.tops ht (by simp)) (hO.isB hf2 (by intro q hq; repeat (first | exact hq | exact List.mem_append_left _ hq | apply List.mem_append_right | apply List.mem_cons_of_mem)))).mono ?_); rintro e wv ⟨rfl, hb9⟩; replace hO := hO.call hb9; clear hb9) | (go_at_call 19; (with_reducible refine (sane4_any _ (hO.tops ht (by simp))).mono ?_); rintro e wv ⟨rfl, hb9⟩; replace hO := hO.call hb9; clear hb9)); (try simp only []); (refine hK _ _ ?_); clear hK K)))); (try simp only [Act.put]); (try simp only [List.setIfInBounds_toArray, List.set_cons_zero, List.set_cons_succ])
                  refine wpList_done (qk_intro ?_)
                refine wpAny_all (rs := [7, 9]) (by kernel_rfl) (by simp) (ord_cons ?_ (ord_cons ?_ ord_nil))
                rotate_left 2
                refine wpAny_all (rs := [6]) (by kernel_rfl) (by simp) (ord_cons ?_ ord_nil)
                rotate_left 1
                refine wpAny_all (rs := [7, 9]) (by kernel_rfl) (by simp) (ord_cons ?_ (ord_cons ?_ ord_nil))
                rotate_left 2
                refine wpAny_all (rs := [6]) (by kernel_rfl) (by simp) (ord_cons ?_ ord_nil)
                rotate_left 1
                all_goals
                  refine wpOp_of_listL rfl ?_
                  (first | ((with_reducible refine is_load ?_); refine own_ld (h := ?_)) | ((with_reducible refine is_store ?_); (first | refine own_stR (hO := hO) (h := ?_) | refine own_st1 (hO := hO) (h := ?_)); clear hO; intro wv hO) | ((refine wpList_step (fun K hK => ?_)); go_simp; (first | ((refine hK _ _ ?_); clear hK K) | ((first | (go_at_call 34; (with_reducible refine (ho3 _).mono ?_); rintro e wv ⟨rfl, hb9⟩; replace hO := hO.call hb9; clear hb9) | (go_at_call 15; (with_reducible refine (cg1 _ (hO.tops ht (by simp)) (hO.isB hf1 (by intro q hq; repeat (first | exact hq | exact List.mem_append_left _ hq | apply List.mem_append_right | apply List.mem_cons_of_mem)))).mono ?_); rintro e wv ⟨rfl, hb9⟩; replace hO := hO.call hb9; clear hb9) | (go_at_call 15; (with_reducible refine (cg2 _ (hO.tops ht (by simp)) (hO.isB hf2 (by intro q hq; repeat (first | exact hq | exact List.mem_append_left _ hq | apply List.mem_append_right | apply List.mem_cons_of_mem)))).mono ?_); rintro e wv ⟨rfl, hb9⟩; replace hO := hO.call hb9; clear hb9) | (go_at_call 19; (with_reducible refine (sane4_any _ (hO.tops ht (by simp))).mono ?_); rintro e wv ⟨rfl, hb9⟩; replace hO := hO.call hb9; clear hb9)); (try simp only []); (refine hK _ _ ?_); clear hK K)))); (try simp only [Act.put]); (try simp only [List.setIfInBounds_toArray, List.set_cons_zero, List.set_cons_succ])
                  refine wpList_done (qk_intro ?_)
                refine wpAny_all (rs := [9]) (by kernel_rfl) (by simp) (ord_cons ?_ ord_nil)
                rotate_left 1
                refine wpAny_all (rs := [7]) (by kernel_rfl) (by simp) (ord_cons ?_ ord_nil)
                rotate_left 1
                refine wpAny_all (rs := [7]) (by kernel_rfl) (by simp) (ord_cons ?_ ord_nil)
                rotate_left 1
                refine wpAny_all (rs := [9]) (by kernel_rfl) (by simp) (ord_cons ?_ ord_nil)
                rotate_left 1
                refine wpAny_all (rs := [7]) (by kernel_rfl) (by simp) (ord_cons ?_ ord_nil)
                rotate_left 1
                refine wpAny_all (rs := [7]) (by kernel_rfl) (by simp) (ord_cons ?_ ord_nil)
                rotate_left 1
                all_goals
                  refine wpOp_of_listL rfl ?_
                  (first | ((with_reducible refine is_load ?_); refine own_ld (h := ?_)) | ((with_reducible refine is_store ?_); (first | refine own_stR (hO := hO) (h := ?_) | refine own_st1 (hO := hO) (h := ?_)); clear hO; intro wv hO) | ((refine wpList_step (fun K hK => ?_)); go_simp; (first | ((refine hK _ _ ?_); clear hK K) | ((first | (go_at_call 34; (with_reducible refine (ho3 _).mono ?_); rintro e wv ⟨rfl, hb9⟩; replace hO := hO.call hb9; clear hb9) | (go_at_call 15; (with_reducible refine (cg1 _ (hO.tops ht (by simp)) (hO.isB hf1 (by intro q hq; repeat (first | exact hq | exact List.mem_append_left _ hq | apply List.mem_append_right | apply List.mem_cons_of_mem)))).mono ?_); rintro e wv ⟨rfl, hb9⟩; replace hO := hO.call hb9; clear hb9) | (go_at_call 15; (with_reducible refine (cg2 _ (hO.tops ht (by simp)) (hO.isB hf2 (by intro q hq; repeat (first | exact hq | exact List.mem_append_left _ hq | apply List.mem_append_right | apply List.mem_cons_of_mem)))).mono ?_); rintro e wv ⟨rfl, hb9⟩; replace hO := hO.call hb9; clear hb9) | (go_at_call 19; (with_reducible refine (sane4_any _ (hO.tops ht (by simp))).mono ?_); rintro e wv ⟨rfl, hb9⟩; replace hO := hO.call hb9; clear hb9)); (try simp only []); (refine hK _ _ ?_); clear hK K)))); (try simp only [Act.put]); (try simp only [List.setIfInBounds_toArray, List.set_cons_zero, List.set_cons_succ])
                  refine wpList_done (qk_intro ?_)
                refine wpAny_all (rs := [10]) (by kernel_rfl) (by simp) (ord_cons ?_ ord_nil)
                rotate_left 1
                refine wpAny_all (rs := [10]) (by kernel_rfl) (by simp) (ord_cons ?_ ord_nil)
                rotate_left 1
                refine wpAny_all (rs := [10]) (by kernel_rfl) (by simp) (ord_cons ?_ ord_nil)
                rotate_left 1
                refine wpAny_all (rs := [10]) (by kernel_rfl) (by simp) (ord_cons ?_ ord_nil)
                rotate_left 1
                refine wpAny_all (rs := [10]) (by kernel_rfl) (by simp) (ord_cons ?_ ord_nil)
                rotate_left 1
                refine wpAny_all (rs := [10]) (by kernel_rfl) (by simp) (ord_cons ?_ ord_nil)
                rotate_left 1
                all_goals
                  refine wpOp_of_listL rfl ?_
                  (first | ((with_reducible refine is_load ?_); refine own_ld (h := ?_)) | ((with_reducible refine is_store ?_); (first | refine own_stR (hO := hO) (h := ?_) | refine own_st1 (hO := hO) (h := ?_)); clear hO; intro wv hO) | ((refine wpList_step (fun K hK => ?_)); go_simp; (first | ((refine hK _ _ ?_); clear hK K) | ((first | (go_at_call 34; (with_reducible refine (ho3 _).mono ?_); rintro e wv ⟨rfl, hb9⟩; replace hO := hO.call hb9; clear hb9) | (go_at_call 15; (with_reducible refine (cg1 _ (hO.tops ht (by simp)) (hO.isB hf1 (by intro q hq; repeat (first | exact hq | exact List.mem_append_left _ hq | apply List.mem_append_right | apply List.mem_cons_of_mem)))).mono ?_); rintro e wv ⟨rfl, hb9⟩; replace hO := hO.call hb9; clear hb9) | (go_at_call 15; (with_reducible refine (cg2 _ (hO.tops ht (by simp)) (hO.isB hf2 (by intro q hq; repeat (first | exact hq | exact List.mem_append_left _ hq | apply List.mem_append_right | apply List.mem_cons_of_mem)))).mono ?_); rintro e wv ⟨rfl, hb9⟩; replace hO := hO.call hb9; clear hb9) | (go_at_call 19; (with_reducible refine (sane4_any _ (hO.tops ht (by simp))).mono ?_); rintro e wv ⟨rfl, hb9⟩; replace hO := hO.call hb9; clear hb9)); (try simp only []); (refine hK _ _ ?_); clear hK K)))); (try simp only [Act.put]); (try simp only [List.setIfInBounds_toArray, List.set_cons_zero, List.set_cons_succ])
                  refine wpList_done (qk_intro ?_)
                have ix9 := Ix.mk [11, 12, 13]
                iterate 3 (refine wpAny_tk ix9 ?_; replace ix9 := ix9.tail; (first | go_big_quiet_skip | (go_big_quiet_want; (go_big_quiet_op; (first | go_big_quiet_on | ((refine ⟨_, fun _ _ => rfl, ?_⟩); go_big_quiet_on))))); (refine wpQuiet_nil ?_); (try simp only [Act.put]); (try simp only [List.setIfInBounds_toArray, List.set_cons_zero, List.set_cons_succ]))
                clear ix9
                refine wpAny_all (rs := [14]) (by kernel_rfl) (by simp) (ord_cons ?_ ord_nil)
                rotate_left 1
                have ix9 := Ix.mk [11, 12, 13]
                iterate 3 (refine wpAny_tk ix9 ?_; replace ix9 := ix9.tail; (first | go_big_quiet_skip | (go_big_quiet_want; (go_big_quiet_op; (first | go_big_quiet_on | ((refine ⟨_, fun _ _ => rfl, ?_⟩); go_big_quiet_on))))); (refine wpQuiet_nil ?_); (try simp only [Act.put]); (try simp only [List.setIfInBounds_toArray, List.set_cons_zero, List.set_cons_succ]))
                clear ix9
                refine wpAny_all (rs := [14]) (by kernel_rfl) (by simp) (ord_cons ?_ ord_nil)
                rotate_left 1
                have ix9 := Ix.mk [11, 12, 13]
                iterate 3 (refine wpAny_tk ix9 ?_; replace ix9 := ix9.tail; (first | go_big_quiet_skip | (go_big_quiet_want; (go_big_quiet_op; (first | go_big_quiet_on | ((refine ⟨_, fun _ _ => rfl, ?_⟩); go_big_quiet_on))))); (refine wpQuiet_nil ?_); (try simp only [Act.put]); (try simp only [List.setIfInBounds_toArray, List.set_cons_zero, List.set_cons_succ]))
                clear ix9
                refine wpAny_all (rs := [14]) (by kernel_rfl) (by simp) (ord_cons ?_ ord_nil)
                rotate_left 1
                have ix9 := Ix.mk [11, 12, 13]
                iterate 3 (refine wpAny_tk ix9 ?_; replace ix9 := ix9.tail; (first | go_big_quiet_skip | (go_big_quiet_want; (go_big_quiet_op; (first | go_big_quiet_on | ((refine ⟨_, fun _ _ => rfl, ?_⟩); go_big_quiet_on))))); (refine wpQuiet_nil ?_); (try simp only [Act.put]); (try simp only [List.setIfInBounds_toArray, List.set_cons_zero, List.set_cons_succ]))
                clear ix9
                refine wpAny_all (rs := [14]) (by kernel_rfl) (by simp) (ord_cons ?_ ord_nil)
                rotate_left 1
                have ix9 := Ix.mk [11, 12, 13]
                iterate 3 (refine wpAny_tk ix9 ?_; replace ix9 := ix9.tail; (first | go_big_quiet_skip | (go_big_quiet_want; (go_big_quiet_op; (first | go_big_quiet_on | ((refine ⟨_, fun _ _ => rfl, ?_⟩); go_big_quiet_on))))); (refine wpQuiet_nil ?_); (try simp only [Act.put]); (try simp only [List.setIfInBounds_toArray, List.set_cons_zero, List.set_cons_succ]))
                clear ix9
                refine wpAny_all (rs := [14]) (by kernel_rfl) (by simp) (ord_cons ?_ ord_nil)
                rotate_left 1
                have ix9 := Ix.mk [11, 12, 13]
                iterate 3 (refine wpAny_tk ix9 ?_; replace ix9 := ix9.tail; (first | go_big_quiet_skip | (go_big_quiet_want; (go_big_quiet_op; (first | go_big_quiet_on | ((refine ⟨_, fun _ _ => rfl, ?_⟩); go_big_quiet_on))))); (refine wpQuiet_nil ?_); (try simp only [Act.put]); (try simp only [List.setIfInBounds_toArray, List.set_cons_zero, List.set_cons_succ]))
                clear ix9
                refine wpAny_all (rs := [14]) (by kernel_rfl) (by simp) (ord_cons ?_ ord_nil)
                rotate_left 1
                all_goals
                  refine wpOp_of_listL rfl ?_
                  (first | ((with_reducible refine is_load ?_); refine own_ld (h := ?_)) | ((with_reducible refine is_store ?_); (first | refine own_stR (hO := hO) (h := ?_) | refine own_st1 (hO := hO) (h := ?_)); clear hO; intro wv hO) | ((refine wpList_step (fun K hK => ?_)); go_simp; (first | ((refine hK _ _ ?_); clear hK K) | ((first | (go_at_call 34; (with_reducible refine (ho3 _).mono ?_); rintro e wv ⟨rfl, hb9⟩; replace hO := hO.call hb9; clear hb9) | (go_at_call 15; (with_reducible refine (cg1 _ (hO.tops ht (by simp)) (hO.isB hf1 (by intro q hq; repeat (first | exact hq | exact List.mem_append_left _ hq | apply List.mem_append_right | apply List.mem_cons_of_mem)))).mono ?_); rintro e wv ⟨rfl, hb9⟩; replace hO := hO.call hb9; clear hb9) | (go_at_call 15; (with_reducible refine (cg2 _ (hO.tops ht (by simp)) (hO.isB hf2 (by intro q hq; repeat (first | exact hq | exact List.mem_append_left _ hq | apply List.mem_append_right | apply List.mem_cons_of_mem)))).mono ?_); rintro e wv ⟨rfl, hb9⟩; replace hO := hO.call hb9; clear hb9) | (go_at_call 19; (with_reducible refine (sane4_any _ (hO.tops ht (by simp))).mono ?_); rintro e wv ⟨rfl, hb9⟩; replace hO := hO.call hb9; clear hb9)); (try simp only []); (refine hK _ _ ?_); clear hK K)))); (try simp only [Act.put]); (try simp only [List.setIfInBounds_toArray, List.set_cons_zero, List.set_cons_succ])
                  refine wpList_done (qk_intro ?_)
                refine wpAny_tk (Ix.mk [15]) ?_
                (first | go_big_quiet_skip | (go_big_quiet_want; (go_big_quiet_op; (first | go_big_quiet_on | ((refine ⟨_, fun _ _ => rfl, ?_⟩); go_big_quiet_on))))); (refine wpQuiet_nil ?_); (try simp only [Act.put]); (try simp only [List.setIfInBounds_toArray, List.set_cons_zero, List.set_cons_succ])
                refine wpAny_all (rs := [16]) (by kernel_rfl) (by simp) (ord_cons ?_ ord_nil)
                rotate_left 1
                refine wpAny_tk (Ix.mk [15]) ?_
                (first | go_big_quiet_skip | (go_big_quiet_want; (go_big_quiet_op; (first | go_big_quiet_on | ((refine ⟨_, fun _ _ => rfl, ?_⟩); go_big_quiet_on))))); (refine wpQuiet_nil ?_); (try simp only [Act.put]); (try simp only [List.setIfInBounds_toArray, List.set_cons_zero, List.set_cons_succ])
                refine wpAny_all (rs := [16]) (by kernel_rfl) (by simp) (ord_cons ?_ ord_nil)
                rotate_left 1
                refine wpAny_tk (Ix.mk [15]) ?_
                (first | go_big_quiet_skip | (go_big_quiet_want; (go_big_quiet_op; (first | go_big_quiet_on | ((refine ⟨_, fun _ _ => rfl, ?_⟩); go_big_quiet_on))))); (refine wpQuiet_nil ?_); (try simp only [Act.put]); (try simp only [List.setIfInBounds_toArray, List.set_cons_zero, List.set_cons_succ])
                refine wpAny_all (rs := [16]) (by kernel_rfl) (by simp) (ord_cons ?_ ord_nil)
                rotate_left 1
                refine wpAny_tk (Ix.mk [15]) ?_
                (first | go_big_quiet_skip | (go_big_quiet_want; (go_big_quiet_op; (first | go_big_quiet_on | ((refine ⟨_, fun _ _ => rfl, ?_⟩); go_big_quiet_on))))); (refine wpQuiet_nil ?_); (try simp only [Act.put]); (try simp only [List.setIfInBounds_toArray, List.set_cons_zero, List.set_cons_succ])
                refine wpAny_all (rs := [16]) (by kernel_rfl) (by simp) (ord_cons ?_ ord_nil)
                rotate_left 1
                refine wpAny_tk (Ix.mk [15]) ?_
                (first | go_big_quiet_skip | (go_big_quiet_want; (go_big_quiet_op; (first | go_big_quiet_on | ((refine ⟨_, fun _ _ => rfl, ?_⟩); go_big_quiet_on))))); (refine wpQuiet_nil ?_); (try simp only [Act.put]); (try simp only [List.setIfInBounds_toArray, List.set_cons_zero, List.set_cons_succ])
                refine wpAny_all (rs := [16]) (by kernel_rfl) (by simp) (ord_cons ?_ ord_nil)
                rotate_left 1
                refine wpAny_tk (Ix.mk [15]) ?_
                (first | go_big_quiet_skip | (go_big_quiet_want; (go_big_quiet_op; (first | go_big_quiet_on | ((refine ⟨_, fun _ _ => rfl, ?_⟩); go_big_quiet_on))))); (refine wpQuiet_nil ?_); (try simp only [Act.put]); (try simp only [List.setIfInBounds_toArray, List.set_cons_zero, List.set_cons_succ])
                refine wpAny_all (rs := [16]) (by kernel_rfl) (by simp) (ord_cons ?_ ord_nil)
                rotate_left 1
                all_goals
                  refine wpOp_of_listL rfl ?_
                  (first | ((with_reducible refine is_load ?_); refine own_ld (h := ?_)) | ((with_reducible refine is_store ?_); (first | refine own_stR (hO := hO) (h := ?_) | refine own_st1 (hO := hO) (h := ?_)); clear hO; intro wv hO) | ((refine wpList_step (fun K hK => ?_)); go_simp; (first | ((refine hK _ _ ?_); clear hK K) | ((first | (go_at_call 34; (with_reducible refine (ho3 _).mono ?_); rintro e wv ⟨rfl, hb9⟩; replace hO := hO.call hb9; clear hb9) | (go_at_call 15; (with_reducible refine (cg1 _ (hO.tops ht (by simp)) (hO.isB hf1 (by intro q hq; repeat (first | exact hq | exact List.mem_append_left _ hq | apply List.mem_append_right | apply List.mem_cons_of_mem)))).mono ?_); rintro e wv ⟨rfl, hb9⟩; replace hO := hO.call hb9; clear hb9) | (go_at_call 15; (with_reducible refine (cg2 _ (hO.tops ht (by simp)) (hO.isB hf2 (by intro q hq; repeat (first | exact hq | exact List.mem_append_left _ hq | apply List.mem_append_right | apply List.mem_cons_of_mem)))).mono ?_); rintro e wv ⟨rfl, hb9⟩; replace hO := hO.call hb9; clear hb9) | (go_at_call 19; (with_reducible refine (sane4_any _ (hO.tops ht (by simp))).mono ?_); rintro e wv ⟨rfl, hb9⟩; replace hO := hO.call hb9; clear hb9)); (try simp only []); (refine hK _ _ ?_); clear hK K)))); (try simp only [Act.put]); (try simp only [List.setIfInBounds_toArray, List.set_cons_zero, List.set_cons_succ])
                  refine wpList_done (qk_intro ?_)
                refine wpAny_done (by kernel_rfl) ?_ _
                rotate_left
                refine wpAny_done (by kernel_rfl) ?_ _
                rotate_left
                refine wpAny_done (by kernel_rfl) ?_ _
                rotate_left
                refine wpAny_done (by kernel_rfl) ?_ _
                rotate_left
                refine wpAny_done (by kernel_rfl) ?_ _
                rotate_left
                refine wpAny_done (by kernel_rfl) ?_ _
                rotate_left
                all_goals
                  go_wp2_with (first | ((with_reducible refine is_load ?_); refine own_ld (h := ?_)) | ((with_reducible refine is_store ?_); (first | refine own_stR (hO := hO) (h := ?_) | refine own_st1 (hO := hO) (h := ?_)); clear hO; intro wv hO) | ((with_reducible refine is_box ?_); (first | (refine own_bx (o := ⟨some 7, _, _, _, _, _⟩) (hO := hO) (h := ?_); clear hO; intro n7 wv hO))) | ((with_reducible refine is_alloc ?_); (first | (refine own_al (o := ⟨some 10, _, _, _, _, _⟩) (hO := hO) (h := ?_); clear hO; intro n10 wv hO) | (refine own_al (o := ⟨some 12, _, _, _, _, _⟩) (hO := hO) (h := ?_); clear hO; intro n12 wv hO))))
                  go_ret
                  exact ⟨rfl, hO.keep.below⟩
end Go.Proofs.YtdfihajngmgigaaDoor
