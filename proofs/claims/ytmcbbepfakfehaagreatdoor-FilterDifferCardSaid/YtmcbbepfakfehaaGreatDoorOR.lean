/- FilterDiffer: the walk. -/
import Derived.Deep.CutRange
import Derived.Deep.DeepCutAuto
import Derived.Test.YtmcbbepfakfehaaGreatDoorOQ
import Derived.Test.YtmcbbepfakfehaaGreatDoorOF
import Derived.Test.YtmcbbepfakfehaaGreatDoorOG
import Derived.Test.YtmcbbepfakfehaaGreatDoorMB
namespace Go.Proofs.YtmcbbepfakfehaaGreatDoor
open Go.RowKit
set_option maxRecDepth 100000
theorem dif_facts {x y : List Rul} (kx : okT x) (ky : okT y) : (difF x y).2.2 = 3 ∨ ((difF x y).2.2 = 0 ∧ (((difF x y).2.1 = false ∧ ∀ h : Hd, h.ok → decP x h = decP y h) ∨
  ((difF x y).2.1 = true ∧ (difF x y).1.ok ∧ decP x (difF x y).1 = !decP y (difF x y).1 ∧ ∀ g : Hd, g.ok → decP x g ≠ decP y g → 0 ≤ cmpB (ofHd g) (ofHd (difF x y).1)))) := by
 unfold difF
 split
 ·exact .inl rfl
 ·rename_i a ha
  split
  ·exact .inl rfl
  ·rename_i b hb
   refine .inr ⟨rfl, ?_⟩
   dsimp only
   cases h0 : (canonF xorB 0 5 (valF a) (valF b)).isEmpty
   ·exact .inr ⟨rfl, differ_some kx ky ha hb h0⟩
   ·exact .inl ⟨rfl, differ_none kx ky ha hb h0⟩
set_option maxHeartbeats 16000000 in
theorem fdiffer_law (sl : Value) (zs : List Int) (vx vy : Value) (x y : List Rul) (g : Hd) (w : World) (ht : Tops w) (hZ : ZsOk sl zs) (hr : ∀ s ∈ roS sl (ints zs), w.rangeAt s.g s.o s.xs) (hvx : IsTable w vx x) (hvy : IsTable w vy y) (kx : okT x) (ky : okT y) (kg : g.ok) :
  Calls Tryz.prog 3 #[sl, vx, vy, hv g] w fun e w' => e = .returned (.bool true) ∧ Below w.heap.size w w' := by
 have hO := ((own_law hr).addTable hvx).addTable hvy
 clear hr
 obtain ⟨sa, sc, rfl, -⟩ := hZ.view
 have hfx := hvx.form
 have hfy := hvy.form
 obtain ⟨ax, cx, rfl, -⟩ := hvx.view
 obtain ⟨ay, cy, rfl, -⟩ := hvy.view
 clear hvx hvy
 go_enter Tryz.func3, Tryz.ntmps3
 go_upto_region 2 with (first | ((with_reducible refine is_load ?_); refine own_ldT (h := ?_)) | ((with_reducible refine is_store ?_); (first | refine own_stRT (hO := hO) (h := ?_) | refine own_st1T (hO := hO) (h := ?_)); clear hO; intro wv hO) | ((with_reducible refine is_box ?_); refine own_bx (o := ⟨some 7, _, _, _, _, _⟩) (hO := hO) (h := ?_); clear hO; intro n7 wv hO) | ((with_reducible refine is_alloc ?_); (first | (refine own_alT (o := ⟨some 10, _, _, _, _, _⟩) (hO := hO) (h := ?_); clear hO; intro n10 wv hO) | (refine own_alT (o := ⟨some 13, _, _, _, _, _⟩) (hO := hO) (h := ?_); clear hO; intro n13 wv hO))) | (go_at_call 4; (with_reducible refine (new_any _ _ _).mono ?_); rintro e wv ⟨n, rfl, hB, hn, hb⟩; replace hO := hO.gain hb hB hn; have hT := hO.tapeIn List.mem_cons_self (by (intro s hs; repeat (first | exact hs | exact List.mem_append_left _ hs | apply List.mem_append_right | apply List.mem_cons_of_mem))) (Nat.zero_le _); clear hb hB hn))
 go_cut [38] (fun q38 wx => ∃ (c : Bool) (i1 : Nat), q38 = .bool c ∧ (c = false → x.length ≤ 4 ∧ y.length ≤ 4) ∧ i1 ≤ zs.length ∧ Own [] w [⟨n, tcs (.slice sa zs.length sc) i1, 45⟩, ⟨n7, hcs g, 28⟩] [] (roS (.slice ay y.length cy) (cellsR y) ++ (roS (.slice ax x.length cx) (cellsR x) ++ roS (.slice sa zs.length sc) (ints zs))) wx)
 case first =>
  by_cases h1 : 4 < x.length
  ·have g1 : decide ((4 : Int) < (x.length : Int)) = true := decide_eq_true (by omega)
   go_wp2_with (first | ((with_reducible refine is_load ?_); refine own_ldT (h := ?_)) | ((with_reducible refine is_store ?_); (first | refine own_stRT (hO := hO) (h := ?_) | refine own_st1T (hO := hO) (h := ?_)); clear hO; intro wv hO) | ((with_reducible refine is_box ?_); refine own_bx (o := ⟨some 7, _, _, _, _, _⟩) (hO := hO) (h := ?_); clear hO; intro n7 wv hO) | ((with_reducible refine is_alloc ?_); (first | (refine own_alT (o := ⟨some 10, _, _, _, _, _⟩) (hO := hO) (h := ?_); clear hO; intro n10 wv hO) | (refine own_alT (o := ⟨some 13, _, _, _, _, _⟩) (hO := hO) (h := ?_); clear hO; intro n13 wv hO))))
   go_meet
   exact ⟨true, _, rfl, fun h => absurd h (by decide), hT.le, hO⟩
  ·have g1 : decide ((4 : Int) < (x.length : Int)) = false := decide_eq_false (by omega)
   by_cases h2 : 4 < y.length
   ·have g2 : decide ((4 : Int) < (y.length : Int)) = true := decide_eq_true (by omega)
    go_wp2_with (first | ((with_reducible refine is_load ?_); refine own_ldT (h := ?_)) | ((with_reducible refine is_store ?_); (first | refine own_stRT (hO := hO) (h := ?_) | refine own_st1T (hO := hO) (h := ?_)); clear hO; intro wv hO) | ((with_reducible refine is_box ?_); refine own_bx (o := ⟨some 7, _, _, _, _, _⟩) (hO := hO) (h := ?_); clear hO; intro n7 wv hO) | ((with_reducible refine is_alloc ?_); (first | (refine own_alT (o := ⟨some 10, _, _, _, _, _⟩) (hO := hO) (h := ?_); clear hO; intro n10 wv hO) | (refine own_alT (o := ⟨some 13, _, _, _, _, _⟩) (hO := hO) (h := ?_); clear hO; intro n13 wv hO))))
    go_meet
    exact ⟨true, _, rfl, fun h => absurd h (by decide), hT.le, hO⟩
   ·have g2 : decide ((4 : Int) < (y.length : Int)) = false := decide_eq_false (by omega)
    go_wp2_with (first | ((with_reducible refine is_load ?_); refine own_ldT (h := ?_)) | ((with_reducible refine is_store ?_); (first | refine own_stRT (hO := hO) (h := ?_) | refine own_st1T (hO := hO) (h := ?_)); clear hO; intro wv hO) | ((with_reducible refine is_box ?_); refine own_bx (o := ⟨some 7, _, _, _, _, _⟩) (hO := hO) (h := ?_); clear hO; intro n7 wv hO) | ((with_reducible refine is_alloc ?_); (first | (refine own_alT (o := ⟨some 10, _, _, _, _, _⟩) (hO := hO) (h := ?_); clear hO; intro n10 wv hO) | (refine own_alT (o := ⟨some 13, _, _, _, _, _⟩) (hO := hO) (h := ?_); clear hO; intro n13 wv hO))) | (go_at_call 5; (with_reducible refine (next_pos 4 hZ (hO.tapeIn (by (repeat (first | exact List.mem_cons_self | refine List.mem_cons_of_mem _ ?_))) (by (intro s hs; repeat (first | exact hs | exact List.mem_append_left _ hs | apply List.mem_append_right | apply List.mem_cons_of_mem))) hT.le) (by omega) (by omega)).mono ?_); rintro e wv ⟨v, i1, rfl, ⟨r, rfl, hr0, hr1⟩, hk9, hT1⟩; replace hO := hO.after (by (repeat (first | exact Upd.here | apply Upd.there))) hk9 hT1.blk; replace hT := hT1; clear hT1 hk9))
    go_meet
    exact ⟨_, _, rfl, fun _ => ⟨by omega, by omega⟩, hT.le, hO⟩
 case rest =>
  clear hO hT
  obtain ⟨c, i1, rfl, hc, hi1, hO⟩ := hcut
  have hT := hO.tapeIn List.mem_cons_self (by intro s hs; repeat (first | exact hs | exact List.mem_append_left _ hs | apply List.mem_append_right | apply List.mem_cons_of_mem)) hi1
  go_upto_if 38 with (first | ((with_reducible refine is_load ?_); refine own_ldT (h := ?_)) | ((with_reducible refine is_store ?_); (first | refine own_stRT (hO := hO) (h := ?_) | refine own_st1T (hO := hO) (h := ?_)); clear hO; intro wv hO) | ((with_reducible refine is_box ?_); refine own_bx (o := ⟨some 7, _, _, _, _, _⟩) (hO := hO) (h := ?_); clear hO; intro n7 wv hO) | ((with_reducible refine is_alloc ?_); (first | (refine own_alT (o := ⟨some 10, _, _, _, _, _⟩) (hO := hO) (h := ?_); clear hO; intro n10 wv hO) | (refine own_alT (o := ⟨some 13, _, _, _, _, _⟩) (hO := hO) (h := ?_); clear hO; intro n13 wv hO))))
  go_cut [1, 2] (fun q1 q2 wx => ∃ (a1 a2 : Option Addr) (c1 c2 : Nat) (l1 l2 : List Rul) (g2 : Hd), q1 = .slice a1 l1.length c1 ∧ q2 = .slice a2 l2.length c2 ∧ okT l1 ∧ okT l2 ∧ l1.length ≤ 4 ∧ l2.length ≤ 4 ∧ FormR (.slice a1 l1.length c1) l1 ∧ FormR (.slice a2 l2.length c2) l2 ∧ g2.ok ∧ Own [] w [⟨n7, hcs g2, 28⟩] [] (roS (.slice a2 l2.length c2) (cellsR l2) ++ roS (.slice a1 l1.length c1) (cellsR l1)) wx)
  case first =>
   cases c
   ·obtain ⟨n1, n2⟩ := hc rfl
    go_wp2_with (first | ((with_reducible refine is_load ?_); refine own_ldT (h := ?_)) | ((with_reducible refine is_store ?_); (first | refine own_stRT (hO := hO) (h := ?_) | refine own_st1T (hO := hO) (h := ?_)); clear hO; intro wv hO) | ((with_reducible refine is_box ?_); refine own_bx (o := ⟨some 7, _, _, _, _, _⟩) (hO := hO) (h := ?_); clear hO; intro n7 wv hO) | ((with_reducible refine is_alloc ?_); (first | (refine own_alT (o := ⟨some 10, _, _, _, _, _⟩) (hO := hO) (h := ?_); clear hO; intro n10 wv hO) | (refine own_alT (o := ⟨some 13, _, _, _, _, _⟩) (hO := hO) (h := ?_); clear hO; intro n13 wv hO))))
    go_meet
    exact ⟨_, _, _, _, x, y, g, rfl, rfl, kx, ky, n1, n2, hfx, hfy, kg, hO.sub (.cons _ (.refl _)) (.refl _) (fun q hq => (List.mem_append.1 hq).elim (fun h => List.mem_append_left _ h) (fun h => List.mem_append_right _ (List.mem_append_left _ h)))⟩
   ·clear hc
    go_wp2_with (first | ((with_reducible refine is_load ?_); refine own_ldT (h := ?_)) | ((with_reducible refine is_store ?_); (first | refine own_stRT (hO := hO) (h := ?_) | refine own_st1T (hO := hO) (h := ?_)); clear hO; intro wv hO) | ((with_reducible refine is_box ?_); refine own_bx (o := ⟨some 7, _, _, _, _, _⟩) (hO := hO) (h := ?_); clear hO; intro n7 wv hO) | ((with_reducible refine is_alloc ?_); (first | (refine own_alT (o := ⟨some 10, _, _, _, _, _⟩) (hO := hO) (h := ?_); clear hO; intro n10 wv hO) | (refine own_alT (o := ⟨some 13, _, _, _, _, _⟩) (hO := hO) (h := ?_); clear hO; intro n13 wv hO))) | (go_at_call 6; (fail_if_success (have := kp)); (with_reducible refine (ttable_any 4 true hZ (hO.tapeIn (by (repeat (first | exact List.mem_cons_self | refine List.mem_cons_of_mem _ ?_))) (by (intro s hs; repeat (first | exact hs | exact List.mem_append_left _ hs | apply List.mem_append_right | apply List.mem_cons_of_mem))) hT.le) (by omega) (by omega)).mono ?_); rintro e wv ⟨vp, i1, rfl, ⟨p, hv9, hn9, kp, np⟩, hk9, hT1⟩; have hoff9 := off_of_new hO hn9; replace hO := hO.after (by (repeat (first | exact Upd.here | apply Upd.there))) hk9 hT1.blk; replace hT := hT1; clear hT1 hk9; have hfp := hv9.form; obtain ⟨ap, cp, rfl, hap, hO⟩ := own_offRS hO ⟨hv9, hoff9⟩; clear hv9 hn9 hoff9) | (go_at_call 6; (with_reducible refine (ttable_any 4 true hZ (hO.tapeIn (by (repeat (first | exact List.mem_cons_self | refine List.mem_cons_of_mem _ ?_))) (by (intro s hs; repeat (first | exact hs | exact List.mem_append_left _ hs | apply List.mem_append_right | apply List.mem_cons_of_mem))) hT.le) (by omega) (by omega)).mono ?_); rintro e wv ⟨vq, i1, rfl, ⟨q, hv9, hn9, kq, nq⟩, hk9, hT1⟩; have hoff9 := off_of_new hO hn9; replace hO := hO.after (by (repeat (first | exact Upd.here | apply Upd.there))) hk9 hT1.blk; replace hT := hT1; clear hT1 hk9; have hfq := hv9.form; obtain ⟨aq, cq, rfl, haq, hO⟩ := own_offRS hO ⟨hv9, hoff9⟩; clear hv9 hn9 hoff9) | (go_at_call 8; (with_reducible refine (lboxes_any (t := p) _ (hO.isR hfp (by intro q hq; repeat (first | exact hq | exact List.mem_append_left _ hq | apply List.mem_append_right | apply List.mem_cons_of_mem))) (by omega)).mono ?_); rintro e wv ⟨vb, rfl, ⟨hv9, hn9⟩, hb9⟩; have hfb := hv9.form; have hnb : vb.ownBlock ≠ some n := fun e9 => absurd (hn9 _ e9) (Nat.not_le_of_lt hT.blk.lt); have kb : ∀ b ∈ p.map (·.1), b.ok := okT_boxes kp; have nb : (p.map (·.1)).length ≤ 4611686018427387904 := (by rw [List.length_map]; omega); replace hO := hO.gainB hb9 hv9 hn9; replace hT := (hO.tapeIn (by (repeat (first | exact List.mem_cons_self | refine List.mem_cons_of_mem _ ?_))) (by (intro s hs; repeat (first | exact hs | exact List.mem_append_left _ hs | apply List.mem_append_right | apply List.mem_cons_of_mem))) hT.le); clear hb9 hv9 hn9) | (go_at_call 7; (with_reducible refine (near_any vb (p.map (·.1)) hZ (hO.tapeIn (by (repeat (first | exact List.mem_cons_self | refine List.mem_cons_of_mem _ ?_))) (by (intro s hs; repeat (first | exact hs | exact List.mem_append_left _ hs | apply List.mem_append_right | apply List.mem_cons_of_mem))) hT.le) (hO.isB hfb (by intro q hq; repeat (first | exact hq | exact List.mem_append_left _ hq | apply List.mem_append_right | apply List.mem_cons_of_mem))) hnb kb nb).mono ?_); rintro e wv ⟨v, i1, rfl, hv9, hk9, hT1⟩; replace hO := hO.after (by (repeat (first | exact Upd.here | apply Upd.there))) hk9 hT1.blk; replace hT := hT1; clear hT1 hk9; obtain ⟨h3, rfl, kh3⟩ := hv9))
    go_meet
    exact ⟨_, _, _, _, p, q, h3, rfl, rfl, kp, kq, by omega, by omega, hfp, hfq, kh3, hO.sub (.cons _ (.refl _)) (.refl _) (fun q hq => List.mem_append_right _ ((List.mem_append.1 hq).elim (fun h => List.mem_append_left _ h) (fun h => List.mem_append_right _ (List.mem_append_left _ h))))⟩
  case rest =>
   clear hO hT hc hfx hfy kx ky kg
   obtain ⟨a1, a2, c1, c2, l1, l2, g2, rfl, rfl, kx, ky, nx, ny, hf1, hf2, kg, hO⟩ := hcut
   have hs8 := sane8_any
   have hd1 := fun w ht hv hu => fDiffer_any (vt := .slice a1 l1.length c1) (vu := .slice a2 l2.length c2) (t := l1) (u := l2) w ht hv hu kx ky (by omega) (by omega)
   have hd2 := fun w hv hu => rDiffer8_any (vt := .slice a1 l1.length c1) (vu := .slice a2 l2.length c2) (t := l1) (u := l2) w hv hu kx ky (by omega) (by omega)
   have h4 := fun w ht hvt => fDecide_any (vt := .slice a1 l1.length c1) (t := l1) g2 w ht kg hvt (by omega)
   have h5 := fun w ht hvt => fDecide_any (vt := .slice a2 l2.length c2) (t := l2) g2 w ht kg hvt (by omega)
   have h6 := fun (f : Hd) (kf : f.ok) w ht hvt => fDecide_any (vt := .slice a1 l1.length c1) (t := l1) f w ht kf hvt (by omega)
   have h7 := fun (f : Hd) (kf : f.ok) w ht hvt => fDecide_any (vt := .slice a2 l2.length c2) (t := l2) f w ht kf hvt (by omega)
   have FF := dif_facts kx ky
   generalize difF l1 l2 = D at *
   obtain ⟨fH, db, dc⟩ := D
   dsimp only at hd1 hd2 FF
   have eH : (!decide (fH = fH)) = false := by simp
   rcases FF with rfl | ⟨rfl, ⟨rfl, hsame⟩ | ⟨rfl, kf, hne, hle⟩⟩
   ·have eb : (db != db) = false := bne_self_eq_false _
    go_wp2_with (first | ((with_reducible refine is_load ?_); refine own_ldT (h := ?_)) | ((with_reducible refine is_store ?_); (first | refine own_stRT (hO := hO) (h := ?_) | refine own_st1T (hO := hO) (h := ?_)); clear hO; intro wv hO) | ((with_reducible refine is_box ?_); refine own_bx (o := ⟨some 7, _, _, _, _, _⟩) (hO := hO) (h := ?_); clear hO; intro n7 wv hO) | ((with_reducible refine is_alloc ?_); (first | (refine own_alT (o := ⟨some 10, _, _, _, _, _⟩) (hO := hO) (h := ?_); clear hO; intro n10 wv hO) | (refine own_alT (o := ⟨some 13, _, _, _, _, _⟩) (hO := hO) (h := ?_); clear hO; intro n13 wv hO))) | (go_at_call 9; (with_reducible refine (hd1 _ (hO.tops ht (by simp)) (hO.isR hf1 (by intro q hq; repeat (first | exact hq | exact List.mem_append_left _ hq | apply List.mem_append_right | apply List.mem_cons_of_mem))) (hO.isR hf2 (by intro q hq; repeat (first | exact hq | exact List.mem_append_left _ hq | apply List.mem_append_right | apply List.mem_cons_of_mem)))).mono ?_); rintro e wv ⟨rfl, hb9⟩; replace hO := hO.call hb9; clear hb9) | (go_at_call 10; (with_reducible refine (hd2 _ (hO.isR hf1 (by intro q hq; repeat (first | exact hq | exact List.mem_append_left _ hq | apply List.mem_append_right | apply List.mem_cons_of_mem))) (hO.isR hf2 (by intro q hq; repeat (first | exact hq | exact List.mem_append_left _ hq | apply List.mem_append_right | apply List.mem_cons_of_mem)))).mono ?_); rintro e wv ⟨rfl, hb9⟩; replace hO := hO.call hb9; clear hb9) | (go_at_call 11; refine (hs8 _ (hO.tops ht (by simp))).mono ?_; rintro e wv ⟨rfl, hb⟩; replace hO := hO.call hb; clear hb))
    go_ret
    exact ⟨rfl, hO.keep.below⟩
   ·rw [← hsame g2 kg] at h5
    clear hsame h6 h7
    generalize decP l1 g2 = p at *
    generalize decI l1 g2 = q1 at *
    generalize decI l2 g2 = q2 at *
    have e1 : (p == p) = true := beq_self_eq_true p
    go_wp2_with (first | ((with_reducible refine is_load ?_); refine own_ldT (h := ?_)) | ((with_reducible refine is_store ?_); (first | refine own_stRT (hO := hO) (h := ?_) | refine own_st1T (hO := hO) (h := ?_)); clear hO; intro wv hO) | ((with_reducible refine is_box ?_); refine own_bx (o := ⟨some 7, _, _, _, _, _⟩) (hO := hO) (h := ?_); clear hO; intro n7 wv hO) | ((with_reducible refine is_alloc ?_); (first | (refine own_alT (o := ⟨some 10, _, _, _, _, _⟩) (hO := hO) (h := ?_); clear hO; intro n10 wv hO) | (refine own_alT (o := ⟨some 13, _, _, _, _, _⟩) (hO := hO) (h := ?_); clear hO; intro n13 wv hO))) | (go_at_call 9; (with_reducible refine (hd1 _ (hO.tops ht (by simp)) (hO.isR hf1 (by intro q hq; repeat (first | exact hq | exact List.mem_append_left _ hq | apply List.mem_append_right | apply List.mem_cons_of_mem))) (hO.isR hf2 (by intro q hq; repeat (first | exact hq | exact List.mem_append_left _ hq | apply List.mem_append_right | apply List.mem_cons_of_mem)))).mono ?_); rintro e wv ⟨rfl, hb9⟩; replace hO := hO.call hb9; clear hb9) | (go_at_call 10; (with_reducible refine (hd2 _ (hO.isR hf1 (by intro q hq; repeat (first | exact hq | exact List.mem_append_left _ hq | apply List.mem_append_right | apply List.mem_cons_of_mem))) (hO.isR hf2 (by intro q hq; repeat (first | exact hq | exact List.mem_append_left _ hq | apply List.mem_append_right | apply List.mem_cons_of_mem)))).mono ?_); rintro e wv ⟨rfl, hb9⟩; replace hO := hO.call hb9; clear hb9) | (go_at_call 12; (with_reducible refine (h4 _ (hO.tops ht (by simp)) (hO.isR hf1 (by intro q hq; repeat (first | exact hq | exact List.mem_append_left _ hq | apply List.mem_append_right | apply List.mem_cons_of_mem)))).mono ?_); rintro e wv ⟨rfl, hb9⟩; replace hO := hO.call hb9; clear hb9) | (go_at_call 12; (with_reducible refine (h5 _ (hO.tops ht (by simp)) (hO.isR hf2 (by intro q hq; repeat (first | exact hq | exact List.mem_append_left _ hq | apply List.mem_append_right | apply List.mem_cons_of_mem)))).mono ?_); rintro e wv ⟨rfl, hb9⟩; replace hO := hO.call hb9; clear hb9) | (go_at_call 11; refine (hs8 _ (hO.tops ht (by simp))).mono ?_; rintro e wv ⟨rfl, hb⟩; replace hO := hO.call hb; clear hb))
    go_ret
    exact ⟨rfl, hO.keep.below⟩
   ·have h8 := h6 fH kf
    have h9 := h7 fH kf
    rw [hne] at h8
    have ho3 := fun w => rorder_any g2 fH w kg kf
    have hle2 := hle g2 kg
    clear h6 h7 hne hle
    generalize decP l1 g2 = C1 at *
    generalize decP l2 g2 = C2 at *
    generalize decP l2 fH = H2 at *
    generalize decI l1 g2 = q1 at *
    generalize decI l2 g2 = q2 at *
    generalize decI l1 fH = q3 at *
    generalize decI l2 fH = q4 at *
    generalize cmpB (ofHd g2) (ofHd fH) = o at *
    by_cases hc : C1 = C2
    ·subst hc
     clear hle2
     cases H2 <;> cases C1
     all_goals
      go_wp2_with (first | ((with_reducible refine is_load ?_); refine own_ldT (h := ?_)) | ((with_reducible refine is_store ?_); (first | refine own_stRT (hO := hO) (h := ?_) | refine own_st1T (hO := hO) (h := ?_)); clear hO; intro wv hO) | ((with_reducible refine is_box ?_); refine own_bx (o := ⟨some 7, _, _, _, _, _⟩) (hO := hO) (h := ?_); clear hO; intro n7 wv hO) | ((with_reducible refine is_alloc ?_); (first | (refine own_alT (o := ⟨some 10, _, _, _, _, _⟩) (hO := hO) (h := ?_); clear hO; intro n10 wv hO) | (refine own_alT (o := ⟨some 13, _, _, _, _, _⟩) (hO := hO) (h := ?_); clear hO; intro n13 wv hO))) | (go_at_call 9; (with_reducible refine (hd1 _ (hO.tops ht (by simp)) (hO.isR hf1 (by intro q hq; repeat (first | exact hq | exact List.mem_append_left _ hq | apply List.mem_append_right | apply List.mem_cons_of_mem))) (hO.isR hf2 (by intro q hq; repeat (first | exact hq | exact List.mem_append_left _ hq | apply List.mem_append_right | apply List.mem_cons_of_mem)))).mono ?_); rintro e wv ⟨rfl, hb9⟩; replace hO := hO.call hb9; clear hb9) | (go_at_call 10; (with_reducible refine (hd2 _ (hO.isR hf1 (by intro q hq; repeat (first | exact hq | exact List.mem_append_left _ hq | apply List.mem_append_right | apply List.mem_cons_of_mem))) (hO.isR hf2 (by intro q hq; repeat (first | exact hq | exact List.mem_append_left _ hq | apply List.mem_append_right | apply List.mem_cons_of_mem)))).mono ?_); rintro e wv ⟨rfl, hb9⟩; replace hO := hO.call hb9; clear hb9) | (go_at_call 12; (with_reducible refine (h4 _ (hO.tops ht (by simp)) (hO.isR hf1 (by intro q hq; repeat (first | exact hq | exact List.mem_append_left _ hq | apply List.mem_append_right | apply List.mem_cons_of_mem)))).mono ?_); rintro e wv ⟨rfl, hb9⟩; replace hO := hO.call hb9; clear hb9) | (go_at_call 12; (with_reducible refine (h5 _ (hO.tops ht (by simp)) (hO.isR hf2 (by intro q hq; repeat (first | exact hq | exact List.mem_append_left _ hq | apply List.mem_append_right | apply List.mem_cons_of_mem)))).mono ?_); rintro e wv ⟨rfl, hb9⟩; replace hO := hO.call hb9; clear hb9) | (go_at_call 12; (with_reducible refine (h8 _ (hO.tops ht (by simp)) (hO.isR hf1 (by intro q hq; repeat (first | exact hq | exact List.mem_append_left _ hq | apply List.mem_append_right | apply List.mem_cons_of_mem)))).mono ?_); rintro e wv ⟨rfl, hb9⟩; replace hO := hO.call hb9; clear hb9) | (go_at_call 12; (with_reducible refine (h9 _ (hO.tops ht (by simp)) (hO.isR hf2 (by intro q hq; repeat (first | exact hq | exact List.mem_append_left _ hq | apply List.mem_append_right | apply List.mem_cons_of_mem)))).mono ?_); rintro e wv ⟨rfl, hb9⟩; replace hO := hO.call hb9; clear hb9) | (go_at_call 11; refine (hs8 _ (hO.tops ht (by simp))).mono ?_; rintro e wv ⟨rfl, hb⟩; replace hO := hO.call hb; clear hb))
      go_ret
      exact ⟨rfl, hO.keep.below⟩
    ·have g8 : decide ((0 : Int) ≤ o) = true := decide_eq_true (hle2 hc)
     clear hle2
     cases H2 <;> cases C1 <;> cases C2 <;> (try (exact absurd rfl hc))
     all_goals
      go_wp2_with (first | ((with_reducible refine is_load ?_); refine own_ldT (h := ?_)) | ((with_reducible refine is_store ?_); (first | refine own_stRT (hO := hO) (h := ?_) | refine own_st1T (hO := hO) (h := ?_)); clear hO; intro wv hO) | ((with_reducible refine is_box ?_); refine own_bx (o := ⟨some 7, _, _, _, _, _⟩) (hO := hO) (h := ?_); clear hO; intro n7 wv hO) | ((with_reducible refine is_alloc ?_); (first | (refine own_alT (o := ⟨some 10, _, _, _, _, _⟩) (hO := hO) (h := ?_); clear hO; intro n10 wv hO) | (refine own_alT (o := ⟨some 13, _, _, _, _, _⟩) (hO := hO) (h := ?_); clear hO; intro n13 wv hO))) | (go_at_call 9; (with_reducible refine (hd1 _ (hO.tops ht (by simp)) (hO.isR hf1 (by intro q hq; repeat (first | exact hq | exact List.mem_append_left _ hq | apply List.mem_append_right | apply List.mem_cons_of_mem))) (hO.isR hf2 (by intro q hq; repeat (first | exact hq | exact List.mem_append_left _ hq | apply List.mem_append_right | apply List.mem_cons_of_mem)))).mono ?_); rintro e wv ⟨rfl, hb9⟩; replace hO := hO.call hb9; clear hb9) | (go_at_call 10; (with_reducible refine (hd2 _ (hO.isR hf1 (by intro q hq; repeat (first | exact hq | exact List.mem_append_left _ hq | apply List.mem_append_right | apply List.mem_cons_of_mem))) (hO.isR hf2 (by intro q hq; repeat (first | exact hq | exact List.mem_append_left _ hq | apply List.mem_append_right | apply List.mem_cons_of_mem)))).mono ?_); rintro e wv ⟨rfl, hb9⟩; replace hO := hO.call hb9; clear hb9) | (go_at_call 12; (with_reducible refine (h4 _ (hO.tops ht (by simp)) (hO.isR hf1 (by intro q hq; repeat (first | exact hq | exact List.mem_append_left _ hq | apply List.mem_append_right | apply List.mem_cons_of_mem)))).mono ?_); rintro e wv ⟨rfl, hb9⟩; replace hO := hO.call hb9; clear hb9) | (go_at_call 12; (with_reducible refine (h5 _ (hO.tops ht (by simp)) (hO.isR hf2 (by intro q hq; repeat (first | exact hq | exact List.mem_append_left _ hq | apply List.mem_append_right | apply List.mem_cons_of_mem)))).mono ?_); rintro e wv ⟨rfl, hb9⟩; replace hO := hO.call hb9; clear hb9) | (go_at_call 12; (with_reducible refine (h8 _ (hO.tops ht (by simp)) (hO.isR hf1 (by intro q hq; repeat (first | exact hq | exact List.mem_append_left _ hq | apply List.mem_append_right | apply List.mem_cons_of_mem)))).mono ?_); rintro e wv ⟨rfl, hb9⟩; replace hO := hO.call hb9; clear hb9) | (go_at_call 12; (with_reducible refine (h9 _ (hO.tops ht (by simp)) (hO.isR hf2 (by intro q hq; repeat (first | exact hq | exact List.mem_append_left _ hq | apply List.mem_append_right | apply List.mem_cons_of_mem)))).mono ?_); rintro e wv ⟨rfl, hb9⟩; replace hO := hO.call hb9; clear hb9) | (go_at_call 13; refine (ho3 _).mono ?_; rintro e wv ⟨rfl, hb⟩; replace hO := hO.call hb; clear hb) | (go_at_call 11; refine (hs8 _ (hO.tops ht (by simp))).mono ?_; rintro e wv ⟨rfl, hb⟩; replace hO := hO.call hb; clear hb))
      go_ret
      exact ⟨rfl, hO.keep.below⟩
end Go.Proofs.YtmcbbepfakfehaaGreatDoor
