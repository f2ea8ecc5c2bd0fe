/- Differ, of the program and of the reference; the reference's lows, First, Order. -/
import Derived.Test.YtmcbbepfakfehaaGreatDoorMW
import Derived.Test.YtmcbbepfakfehaaGreatDoorMX
import Derived.Test.YtmcbbepfakfehaaGreatDoorNC
import Derived.Test.YtmcbbepfakfehaaGreatDoorMV
import Derived.Test.YtmcbbepfakfehaaGreatDoorMS
import Derived.Test.YtmcbbepfakfehaaGreatDoorMB
namespace Go.Proofs.YtmcbbepfakfehaaGreatDoor
open Go.RowKit
set_option maxRecDepth 100000
theorem psDiffer_any {va vb : Value} {la lb : List Bx} (w : World) (ht : Tops w) (hva : IsBoxes w va la) (hvb : IsBoxes w vb lb) (ka : okL la) (kb : okL lb) (na : la.length ≤ 1000000000000) (nb : lb.length ≤ 1000000000000) :
  Calls Tryz.prog 20 #[va, vb] w fun e w' => e = .returned (.tuple #[hv (firstH (canonF xorB 0 5 (valF la) (valF lb))), .bool (!(canonF xorB 0 5 (valF la) (valF lb)).isEmpty)]) ∧ Below w.heap.size w w' := by
 have hO := own_start [] w
 have h1 := fun w ht hva hvb => first_any op_different (va := va) (vb := vb) (la := la) (lb := lb) w ht hva hvb ka kb na nb
 generalize firstH (canonF xorB 0 5 (valF la) (valF lb)) = fh at *
 generalize (!(canonF xorB 0 5 (valF la) (valF lb)).isEmpty) = b at *
 go_enter Tryz.func20, Tryz.ntmps20
 go_wp2_with (first | ((with_reducible refine is_store ?_); (first | refine own_stR (hO := hO) (h := ?_) | refine own_st1 (hO := hO) (h := ?_)); clear hO; intro wv hO) | ((with_reducible refine is_alloc ?_); refine own_al (o := ⟨some 4, _, _, _, _, _⟩) (hO := hO) (h := ?_); clear hO; intro n4 wv hO) | (go_at_call 36; refine (h1 _ (hO.tops ht (by simp)) (hva.keep0 hO) (hvb.keep0 hO)).mono ?_; rintro e wv ⟨rfl, hb⟩; replace hO := hO.call hb; clear hb))
 exact bodyPost_ret (own_res_cell_tmp hO Tryz.results20 rfl (by (repeat (first | exact List.mem_cons_self | refine List.mem_cons_of_mem _ ?_))) (by (exact row_len (by (with_reducible (first | exact row_Box | exact row_Range | exact row_Header | exact row_Five | exact row_Tape | exact row_Prefix | exact row_Truths | exact row_Packet | exact row_Group))) (by rfl))) rfl rfl) rfl ⟨rfl, hO.keep.below⟩
theorem rlows_any (b : Bx) (w : World) : Calls Tryz.prog 60 #[bv b] w fun e w' => e = .returned (pv fun k => (b.at k).lo) ∧ Below w.heap.size w w' := by
 have hO := own_start [] w
 go_enter Tryz.func60, Tryz.ntmps60
 go_wp2_with (first | ((with_reducible refine is_load ?_); refine own_ld (h := ?_)) | ((with_reducible refine is_store ?_); (first | refine own_stR (hO := hO) (h := ?_) | refine own_st1 (hO := hO) (h := ?_)); clear hO; intro wv hO) | ((with_reducible refine is_box ?_); refine own_bx (o := ⟨some 1, _, _, _, _, _⟩) (hO := hO) (h := ?_); clear hO; intro n1 wv hO) | ((with_reducible refine is_alloc ?_); (first | (refine own_al (o := ⟨some 2, _, _, _, _, _⟩) (hO := hO) (h := ?_); clear hO; intro n2 wv hO) | (refine own_al (o := ⟨some 3, _, _, _, _, _⟩) (hO := hO) (h := ?_); clear hO; intro n3 wv hO))))
 go_loopw [4] (fun q4 wr => ∃ (k : Nat) (p : Nat → Int), k ≤ 5 ∧ q4 = .int .i64 k ∧ Hid (∀ i, i < k → p i = (b.at i).lo) ∧ Own [] w [⟨n3, fcs p, 55⟩, ⟨n2, fcs fun _ => 0, 55⟩, ⟨n1, bcs b, 51⟩] [] [] wr) (fun q4 _ => 5 - (intOf q4).toNat)
 case atStart => exact ⟨0, _, by omega, rfl, Lib.hid (fun i h => by omega), hO⟩
 case round =>
  clear hO
  obtain ⟨k, p, hk, rfl, HP, hO⟩ := hrel
  have s2 : IntKind.i64.wrap ((k : Int) + 1) = (k : Int) + 1 := IntWalk.i64_in _ (by omega)
  by_cases hlt : k < 5
  ·have g1 : decide ((k : Int) < 5) = true := decide_eq_true (by omega)
   have y1 : (0 : Int) ≤ (k : Int) := by omega
   have y2 : (k : Int) < 5 := by omega
   have c5 := bcs_lo b hlt
   go_wp2_with (first | ((with_reducible refine is_load ?_); refine own_ld (h := ?_)) | ((with_reducible refine is_store ?_); (first | refine own_stR (hO := hO) (h := ?_) | refine own_st1 (hO := hO) (h := ?_)); clear hO; intro wv hO) | ((with_reducible refine is_box ?_); refine own_bx (o := ⟨some 1, _, _, _, _, _⟩) (hO := hO) (h := ?_); clear hO; intro n1 wv hO) | ((with_reducible refine is_alloc ?_); (first | (refine own_al (o := ⟨some 2, _, _, _, _, _⟩) (hO := hO) (h := ?_); clear hO; intro n2 wv hO) | (refine own_al (o := ⟨some 3, _, _, _, _, _⟩) (hO := hO) (h := ?_); clear hO; intro n3 wv hO))))
   go_roundw
   case rel =>
    refine ⟨k + 1, _, by omega, by go_num, Lib.hid (fun i hi => ?_), hO⟩
    unfold fupd
    by_cases e : i = k
    ·subst e; rw [if_pos rfl]
    ·rw [if_neg e]; exact HP.out i (by omega)
   case measure => simp [intOf]; omega
  ·obtain rfl : k = 5 := by omega
   have g1 : decide (((5 : Nat) : Int) < 5) = false := by decide
   have he : fcs p = fcs fun k => (b.at k).lo := fcs_congr fun k hk => HP.out k hk
   rw [he] at hO
   clear he HP
   go_wp2_with (first | ((with_reducible refine is_load ?_); refine own_ld (h := ?_)) | ((with_reducible refine is_store ?_); (first | refine own_stR (hO := hO) (h := ?_) | refine own_st1 (hO := hO) (h := ?_)); clear hO; intro wv hO) | ((with_reducible refine is_box ?_); refine own_bx (o := ⟨some 1, _, _, _, _, _⟩) (hO := hO) (h := ?_); clear hO; intro n1 wv hO) | ((with_reducible refine is_alloc ?_); (first | (refine own_al (o := ⟨some 2, _, _, _, _, _⟩) (hO := hO) (h := ?_); clear hO; intro n2 wv hO) | (refine own_al (o := ⟨some 3, _, _, _, _, _⟩) (hO := hO) (h := ?_); clear hO; intro n3 wv hO))))
   exact bodyPost_ret (own_res_cell hO Tryz.results60 rfl (by (repeat (first | exact List.mem_cons_self | refine List.mem_cons_of_mem _ ?_))) (by (exact row_len (by (with_reducible (first | exact row_Box | exact row_Range | exact row_Header | exact row_Five | exact row_Tape | exact row_Prefix | exact row_Truths | exact row_Packet | exact row_Group))) (by rfl))) rfl) rfl ⟨rfl, hO.keep.below⟩
theorem canon_self {D : List Bx} (h : Cn 0 5 D) : canonF orB 0 5 D [] = D := by
 have hv := h.valid rfl
 refine Cn.extq (canonF_cn orB 5 0 rfl hv (fun b hb => by cases hb)) h fun p hp => ?_
 rw [inq_canon hp hv (fun b hb => by cases hb), inq_nil]
 simp [orB]
set_option maxHeartbeats 2000000 in
theorem rcanonG_any {vl : Value} {l : List Bx} (w : World) (hv : IsBoxes w vl l) (kl : okL l) (hl : l.length ≤ 10000000000) (hc : (canonF orB 0 5 (valF l) []).length ≤ 100000000000) :
  Calls Tryz.prog 59 #[vl] w (RetBoxes w (canonF orB 0 5 (valF l) [])) := by
 have hO := own_start [] w
 have h0 := fun w hv => rvals_any (vl := vl) (l := l) w hv (by omega)
 have nV := valF_le l
 have h1 : ∀ (v : Value) (w : World), IsBoxes w v (valF l) → Calls Tryz.prog 41 #[v, .slice none 0 0, .int .i64 0, .int .i64 0] w (RetBoxes w (canonF orB 0 5 (valF l) [])) := fun v w hv => rrests_any opr_or 5 0 rfl v (.slice none 0 0) (valF l) [] w hv (.inl ⟨rfl, rfl⟩) (valF_vL kl) (fun b hb => by cases hb) (by omega) (by simp) hc
 generalize canonF orB 0 5 (valF l) [] = D at *
 go_enter Tryz.func59, Tryz.ntmps59
 go_wp2_with (first | (go_at_call 42; (with_reducible refine (h0 _ (hv.keep0 hO)).mono ?_); rintro e wv ⟨v9, rfl, ⟨hv9, hn9⟩, hb9⟩; have hof := hv9.form; replace hO := hO.gainB hb9 hv9 hn9; clear hb9 hv9 hn9) | (go_at_call 41; (with_reducible refine (h1 v9 _ (hO.isB hof (fun q hq => List.mem_append_left _ hq))).mono ?_); rintro e wv ⟨v3, rfl, ⟨hv9, hn9⟩, hb9⟩; have hs9 := hO.keep.size; have hof3 := hv9.form; replace hO := hO.gainB hb9 hv9 hn9; clear hb9 hv9))
 go_ret
 exact ⟨v3, rfl, ⟨hO.isB hof3 (fun q hq => List.mem_append_left _ hq), fun g hg => Nat.le_trans hs9 (hn9 g hg)⟩, hO.keep.below⟩
set_option maxHeartbeats 4000000 in
theorem rfirst_any {vl : Value} {D : List Bx} (w : World) (hvl : IsBoxes w vl D) (hD : Cn 0 5 D) (hl : D.length ≤ 10000000000) :
  Calls Tryz.prog 40 #[vl] w fun e w' => e = .returned (.tuple #[hv (firstH D), .bool (!D.isEmpty)]) ∧ Below w.heap.size w w' := by
 have hO := own_start [] w
 have hvD := hD.valid rfl
 have hc := fun w hv => rcanonG_any (vl := vl) (l := D) w hv (vL.okL hvD) hl (by rw [valF_id hvD, canon_self hD]; omega)
 rw [valF_id hvD, canon_self hD] at hc
 by_cases hE : D = []
 ·subst hE
  go_enter Tryz.func40, Tryz.ntmps40
  go_wp2_with (first | ((with_reducible refine is_load ?_); refine own_ld (h := ?_)) | ((with_reducible refine is_store ?_); (first | refine own_stR (hO := hO) (h := ?_) | refine own_st1 (hO := hO) (h := ?_)); clear hO; intro wv hO) | ((with_reducible refine is_alloc ?_); refine own_al (o := ⟨some 2, _, _, _, _, _⟩) (hO := hO) (h := ?_); clear hO; intro n2 wv hO) | (go_at_call 59; (with_reducible refine (hc _ (hvl.keep0 hO)).mono ?_); rintro e wv ⟨v9, rfl, ⟨hv9, hn9⟩, hb9⟩; have hof := hv9.form; replace hO := hO.gainB hb9 hv9 hn9; clear hb9 hv9 hn9; obtain ⟨a9, c9, rfl, -⟩ := hof.view))
  exact bodyPost_ret (own_res_cell_tmp hO Tryz.results40 rfl (by (repeat (first | exact List.mem_cons_self | refine List.mem_cons_of_mem _ ?_))) (by (exact row_len (by (with_reducible (first | exact row_Box | exact row_Range | exact row_Header | exact row_Five | exact row_Tape | exact row_Prefix | exact row_Truths | exact row_Packet | exact row_Group))) (by rfl))) rfl rfl) rfl ⟨rfl, hO.keep.below⟩
 ·have h0 : 0 < D.length := List.length_pos_iff.2 hE
  have hok : (Hd.of fun k => (D[0].at k).lo).ok := by
   have hx := hvD D[0] (List.getElem_mem h0)
   have h0 := hx 0 (by omega)
   have h1 := hx 1 (by omega)
   have h2 := hx 2 (by omega)
   have h3 := hx 3 (by omega)
   have h4 := hx 4 (by omega)
   simp only [topOf] at h0 h1 h2 h3 h4
   simp only [Hd.of, Hd.ok]
   omega
  have hh := fun w => rheader_any (fun k => (D[0].at k).lo) w hok
  have hw := fun w => rlows_any D[0] w
  have hF : Hd.of (fun k => (D[0].at k).lo) = firstH D := by
   cases D with
   | nil => exact absurd rfl hE
   | cons x xs => rfl
  have hb : true = !D.isEmpty := by
   cases D with
   | nil => exact absurd rfl hE
   | cons x xs => rfl
  rw [hF] at hh
  have HB := Lib.hid hb
  have g1 : ((D.length : Int) == 0) = false := by simp; omega
  clear hF hb hE hok
  generalize firstH D = fH at *
  rw [← HB.out]
  go_enter Tryz.func40, Tryz.ntmps40
  go_wp2_with (first | ((with_reducible refine is_load ?_); refine own_ld (h := ?_)) | ((with_reducible refine is_store ?_); (first | refine own_stR (hO := hO) (h := ?_) | refine own_st1 (hO := hO) (h := ?_)); clear hO; intro wv hO) | ((with_reducible refine is_alloc ?_); refine own_al (o := ⟨some 2, _, _, _, _, _⟩) (hO := hO) (h := ?_); clear hO; intro n2 wv hO) | (go_at_call 59; (with_reducible refine (hc _ (hvl.keep0 hO)).mono ?_); rintro e wv ⟨v9, rfl, ⟨hv9, hn9⟩, hb9⟩; have hof := hv9.form; replace hO := hO.gainB hb9 hv9 hn9; clear hb9 hv9 hn9; obtain ⟨a9, c9, rfl, ha9⟩ := hof.view; obtain ⟨g9, o9, rfl⟩ := ha9 h0; simp only [roS, List.cons_append, List.nil_append] at hO) | (go_at_call 60; refine (hw _).mono ?_; rintro e wv ⟨rfl, hb⟩; replace hO := hO.call hb; clear hb) | (go_at_call 18; refine (hh _).mono ?_; rintro e wv ⟨rfl, hb⟩; replace hO := hO.call hb; clear hb))
  exact bodyPost_ret (own_res_cell_tmp hO Tryz.results40 rfl (by (repeat (first | exact List.mem_cons_self | refine List.mem_cons_of_mem _ ?_))) (by (exact row_len (by (with_reducible (first | exact row_Box | exact row_Range | exact row_Header | exact row_Five | exact row_Tape | exact row_Prefix | exact row_Truths | exact row_Packet | exact row_Group))) (by rfl))) rfl rfl) rfl ⟨rfl, hO.keep.below⟩
end Go.Proofs.YtmcbbepfakfehaaGreatDoor

/- The reference's Differ and Order; what they say. -/
namespace Go.Proofs.YtmcbbepfakfehaaGreatDoor
open Go.RowKit
set_option maxRecDepth 100000
theorem canon_small10 {op : Bool → Bool → Bool} {N M : Nat} {a b : List Bx} (ha : Ends N a) (hb : Ends M b) (h : N + M ≤ 90) : (canonF op 0 5 a b).length ≤ 10000000000 :=
 Nat.le_trans (canon_len ha hb (f := 0) rfl) (Nat.le_trans (Nat.pow_le_pow_left (show N + M + 2 ≤ 92 by omega) 5) (by decide))
set_option maxHeartbeats 1000000 in
theorem rorder_any (g h : Hd) (w : World) (kg : g.ok) (kh : h.ok) :
  Calls Tryz.prog 13 #[hv g, hv h] w fun e w' => e = .returned (.int .i64 (cmpB (ofHd g) (ofHd h))) ∧ Below w.heap.size w w' := by
 have hO := own_start [] w
 have h1 := fun w => rof_any g w kg
 have h2 := fun w => rof_any h w kh
 have h3 := fun w => rcompare_any (ofHd g) (ofHd h) w
 generalize cmpB (ofHd g) (ofHd h) = r at *
 generalize ofHd g = bg at *
 generalize ofHd h = bh at *
 go_enter Tryz.func13, Tryz.ntmps13
 go_wp2_with (first | ((with_reducible refine is_load ?_); refine own_ld (h := ?_)) | ((with_reducible refine is_box ?_); (first | (refine own_bx (o := ⟨some 2, _, _, _, _, _⟩) (hO := hO) (h := ?_); clear hO; intro n2 wv hO) | (refine own_bx (o := ⟨some 3, _, _, _, _, _⟩) (hO := hO) (h := ?_); clear hO; intro n3 wv hO))))
 (try simp only [Act.put]); (try simp only [List.setIfInBounds_toArray, List.set_cons_zero, List.set_cons_succ])
 refine wp_region_any (by kernel_rfl) ?_
 replace hO := hO.drew
 refine wpAny_all (rs := [0, 2]) (by kernel_rfl) (by simp) (ord_cons ?_ (ord_cons ?_ ord_nil))
 rotate_left 2
 all_goals
  refine wpOp_of_listL rfl ?_
  (first | ((with_reducible refine is_load ?_); refine own_ld (h := ?_)) | ((refine wpList_step (fun K hK => ?_)); go_simp; (first | ((refine hK _ _ ?_); clear hK K) | ((first | (go_at_call 29; (with_reducible refine (h1 _).mono ?_); rintro e wv ⟨rfl, hb9⟩; replace hO := hO.call hb9; clear hb9) | (go_at_call 29; (with_reducible refine (h2 _).mono ?_); rintro e wv ⟨rfl, hb9⟩; replace hO := hO.call hb9; clear hb9) | (go_at_call 28; (with_reducible refine (h3 _).mono ?_); rintro e wv ⟨rfl, hb9⟩; replace hO := hO.call hb9; clear hb9)); (try simp only []); (refine hK _ _ ?_); clear hK K)))); (try simp only [Act.put]); (try simp only [List.setIfInBounds_toArray, List.set_cons_zero, List.set_cons_succ])
  refine wpList_done (qk_intro ?_)
 refine wpAny_all (rs := [1, 2]) (by kernel_rfl) (by simp) (ord_cons ?_ (ord_cons ?_ ord_nil))
 rotate_left 2
 refine wpAny_all (rs := [0]) (by kernel_rfl) (by simp) (ord_cons ?_ ord_nil)
 rotate_left 1
 all_goals
  refine wpOp_of_listL rfl ?_
  (first | ((with_reducible refine is_load ?_); refine own_ld (h := ?_)) | ((refine wpList_step (fun K hK => ?_)); go_simp; (first | ((refine hK _ _ ?_); clear hK K) | ((first | (go_at_call 29; (with_reducible refine (h1 _).mono ?_); rintro e wv ⟨rfl, hb9⟩; replace hO := hO.call hb9; clear hb9) | (go_at_call 29; (with_reducible refine (h2 _).mono ?_); rintro e wv ⟨rfl, hb9⟩; replace hO := hO.call hb9; clear hb9) | (go_at_call 28; (with_reducible refine (h3 _).mono ?_); rintro e wv ⟨rfl, hb9⟩; replace hO := hO.call hb9; clear hb9)); (try simp only []); (refine hK _ _ ?_); clear hK K)))); (try simp only [Act.put]); (try simp only [List.setIfInBounds_toArray, List.set_cons_zero, List.set_cons_succ])
  refine wpList_done (qk_intro ?_)
 refine wpAny_all (rs := [2]) (by kernel_rfl) (by simp) (ord_cons ?_ ord_nil)
 rotate_left 1
 refine wpAny_all (rs := [1]) (by kernel_rfl) (by simp) (ord_cons ?_ ord_nil)
 rotate_left 1
 refine wpAny_all (rs := [1]) (by kernel_rfl) (by simp) (ord_cons ?_ ord_nil)
 rotate_left 1
 all_goals
  refine wpOp_of_listL rfl ?_
  (first | ((with_reducible refine is_load ?_); refine own_ld (h := ?_)) | ((refine wpList_step (fun K hK => ?_)); go_simp; (first | ((refine hK _ _ ?_); clear hK K) | ((first | (go_at_call 29; (with_reducible refine (h1 _).mono ?_); rintro e wv ⟨rfl, hb9⟩; replace hO := hO.call hb9; clear hb9) | (go_at_call 29; (with_reducible refine (h2 _).mono ?_); rintro e wv ⟨rfl, hb9⟩; replace hO := hO.call hb9; clear hb9) | (go_at_call 28; (with_reducible refine (h3 _).mono ?_); rintro e wv ⟨rfl, hb9⟩; replace hO := hO.call hb9; clear hb9)); (try simp only []); (refine hK _ _ ?_); clear hK K)))); (try simp only [Act.put]); (try simp only [List.setIfInBounds_toArray, List.set_cons_zero, List.set_cons_succ])
  refine wpList_done (qk_intro ?_)
 refine wpAny_all (rs := [3]) (by kernel_rfl) (by simp) (ord_cons ?_ ord_nil)
 rotate_left 1
 refine wpAny_all (rs := [3]) (by kernel_rfl) (by simp) (ord_cons ?_ ord_nil)
 rotate_left 1
 refine wpAny_all (rs := [3]) (by kernel_rfl) (by simp) (ord_cons ?_ ord_nil)
 rotate_left 1
 all_goals
  refine wpOp_of_listL rfl ?_
  (first | ((with_reducible refine is_load ?_); refine own_ld (h := ?_)) | ((refine wpList_step (fun K hK => ?_)); go_simp; (first | ((refine hK _ _ ?_); clear hK K) | ((first | (go_at_call 29; (with_reducible refine (h1 _).mono ?_); rintro e wv ⟨rfl, hb9⟩; replace hO := hO.call hb9; clear hb9) | (go_at_call 29; (with_reducible refine (h2 _).mono ?_); rintro e wv ⟨rfl, hb9⟩; replace hO := hO.call hb9; clear hb9) | (go_at_call 28; (with_reducible refine (h3 _).mono ?_); rintro e wv ⟨rfl, hb9⟩; replace hO := hO.call hb9; clear hb9)); (try simp only []); (refine hK _ _ ?_); clear hK K)))); (try simp only [Act.put]); (try simp only [List.setIfInBounds_toArray, List.set_cons_zero, List.set_cons_succ])
  refine wpList_done (qk_intro ?_)
 refine wpAny_all (rs := [4]) (by kernel_rfl) (by simp) (ord_cons ?_ ord_nil)
 rotate_left 1
 refine wpAny_all (rs := [4]) (by kernel_rfl) (by simp) (ord_cons ?_ ord_nil)
 rotate_left 1
 refine wpAny_all (rs := [4]) (by kernel_rfl) (by simp) (ord_cons ?_ ord_nil)
 rotate_left 1
 all_goals
  refine wpOp_of_listL rfl ?_
  (first | ((with_reducible refine is_load ?_); refine own_ld (h := ?_)) | ((refine wpList_step (fun K hK => ?_)); go_simp; (first | ((refine hK _ _ ?_); clear hK K) | ((first | (go_at_call 29; (with_reducible refine (h1 _).mono ?_); rintro e wv ⟨rfl, hb9⟩; replace hO := hO.call hb9; clear hb9) | (go_at_call 29; (with_reducible refine (h2 _).mono ?_); rintro e wv ⟨rfl, hb9⟩; replace hO := hO.call hb9; clear hb9) | (go_at_call 28; (with_reducible refine (h3 _).mono ?_); rintro e wv ⟨rfl, hb9⟩; replace hO := hO.call hb9; clear hb9)); (try simp only []); (refine hK _ _ ?_); clear hK K)))); (try simp only [Act.put]); (try simp only [List.setIfInBounds_toArray, List.set_cons_zero, List.set_cons_succ])
  refine wpList_done (qk_intro ?_)
 refine wpAny_all (rs := [5]) (by kernel_rfl) (by simp) (ord_cons ?_ ord_nil)
 rotate_left 1
 refine wpAny_all (rs := [5]) (by kernel_rfl) (by simp) (ord_cons ?_ ord_nil)
 rotate_left 1
 refine wpAny_all (rs := [5]) (by kernel_rfl) (by simp) (ord_cons ?_ ord_nil)
 rotate_left 1
 all_goals
  refine wpOp_of_listL rfl ?_
  (first | ((with_reducible refine is_load ?_); refine own_ld (h := ?_)) | ((refine wpList_step (fun K hK => ?_)); go_simp; (first | ((refine hK _ _ ?_); clear hK K) | ((first | (go_at_call 29; (with_reducible refine (h1 _).mono ?_); rintro e wv ⟨rfl, hb9⟩; replace hO := hO.call hb9; clear hb9) | (go_at_call 29; (with_reducible refine (h2 _).mono ?_); rintro e wv ⟨rfl, hb9⟩; replace hO := hO.call hb9; clear hb9) | (go_at_call 28; (with_reducible refine (h3 _).mono ?_); rintro e wv ⟨rfl, hb9⟩; replace hO := hO.call hb9; clear hb9)); (try simp only []); (refine hK _ _ ?_); clear hK K)))); (try simp only [Act.put]); (try simp only [List.setIfInBounds_toArray, List.set_cons_zero, List.set_cons_succ])
  refine wpList_done (qk_intro ?_)
 refine wpAny_done (by kernel_rfl) ?_ _
 rotate_left
 refine wpAny_done (by kernel_rfl) ?_ _
 rotate_left
 refine wpAny_done (by kernel_rfl) ?_ _
 rotate_left
 all_goals
  go_wp2_with (first | ((with_reducible refine is_load ?_); refine own_ld (h := ?_)) | ((with_reducible refine is_box ?_); (first | (refine own_bx (o := ⟨some 2, _, _, _, _, _⟩) (hO := hO) (h := ?_); clear hO; intro n2 wv hO) | (refine own_bx (o := ⟨some 3, _, _, _, _, _⟩) (hO := hO) (h := ?_); clear hO; intro n3 wv hO))))
  go_ret
  exact ⟨rfl, hO.keep.below⟩
theorem xor_same {a b : List Bx} (ka : vL a) (kb : vL b) (h0 : canonF xorB 0 5 a b = []) {h : Nat → Int} (hok : okP h) : inq a h = inq b h := by
 have h2 := inq_canon (op := xorB) hok ka kb
 rw [h0, inq_nil] at h2
 unfold xorB at h2
 revert h2; cases inq a h <;> cases inq b h <;> decide
theorem hd_at (p : Nat → Int) {k : Nat} (hk : k < 5) : (Hd.of p).at k = p k := by
 rcases five hk with rfl | rfl | rfl | rfl | rfl <;> rfl
theorem first_spec {a b : List Bx} (ka : vL a) (kb : vL b) (h0 : canonF xorB 0 5 a b ≠ []) :
  (firstH (canonF xorB 0 5 a b)).ok ∧ inq a (firstH (canonF xorB 0 5 a b)).at = !inq b (firstH (canonF xorB 0 5 a b)).at ∧
  ∀ g : Nat → Int, okP g → inq a g ≠ inq b g → lexLe 0 5 (firstH (canonF xorB 0 5 a b)).at g := by
 have hc := canonF_cn xorB 5 0 rfl ka kb
 have hv := hc.valid rfl
 cases hD : canonF xorB 0 5 a b with
 | nil => exact absurd hD h0
 | cons x xs =>
  rw [hD] at hv hc
  have hx := hv x (by simp)
  have hat : ∀ k, k < 5 → (firstH (x :: xs)).at k = (x.at k).lo := fun k hk => hd_at (fun k => (x.at k).lo) hk
  have hok : okP fun k => (x.at k).lo := fun k hk => by have := hx k hk; dsimp only; omega
  have hin : ∀ l : List Bx, inq l (firstH (x :: xs)).at = inq l fun k => (x.at k).lo := fun l => by
   rw [Bool.eq_iff_iff, inq_iff, inq_iff]
   exact inL_congr fun k _ hk => hat k hk
  refine ⟨?_, ?_, fun g hg hne => ?_⟩
  ·have h0 := hx 0 (by omega)
   have h1 := hx 1 (by omega)
   have h2 := hx 2 (by omega)
   have h3 := hx 3 (by omega)
   have h4 := hx 4 (by omega)
   simp only [topOf] at h0 h1 h2 h3 h4
   simp only [firstH, hdTo, Hd.ok]
   omega
  ·have h3 := inq_canon (op := xorB) hok ka kb
   rw [hD, inq_iff.2 (inL_lows hx)] at h3
   rw [hin, hin]
   unfold xorB at h3
   revert h3
   cases inq a fun k => (x.at k).lo <;> cases inq b fun k => (x.at k).lo <;> simp
  ·have h3 := inq_canon (op := xorB) hg ka kb
   have h4 : inq (x :: xs) g = true := by
    rw [← hD, h3]; unfold xorB
    revert hne; cases inq a g <;> cases inq b g <;> simp
   have := hc.least rfl g (inq_iff.1 h4)
   exact (lexLe_congr fun k _ hk => hat k (by omega)).2 this
theorem cmpI_pos {x y : Int} (h : y < x) : 0 < cmpI x y := by unfold cmpI; repeat' split <;> omega
theorem orI_pos {c d : Int} (h : 0 < c ∨ c = 0 ∧ 0 ≤ d) : 0 ≤ orI c d := by unfold orI; split <;> omega
theorem cmpR_pt {a b : Int} : cmpR ⟨a, a⟩ ⟨b, b⟩ = cmpI a b := by unfold cmpR orI; dsimp only; split <;> simp_all
/-- what is not below in the order of the fields compares as not less -/
theorem order_ge {g h : Hd} (hl : lexLe 0 5 h.at g.at) : 0 ≤ cmpB (ofHd g) (ofHd h) := by
 have e : ∀ x y : Int, x = y → cmpI x y = 0 := fun x y h => cmpI_zero.2 h
 have hc : cmpB (ofHd g) (ofHd h) = orI (cmpI (g.at 0) (h.at 0)) (orI (cmpI (g.at 1) (h.at 1)) (orI (cmpI (g.at 2) (h.at 2)) (orI (cmpI (g.at 3) (h.at 3)) (cmpI (g.at 4) (h.at 4))))) := by
  rw [← cmpR_pt, ← cmpR_pt, ← cmpR_pt, ← cmpR_pt, ← cmpR_pt]; rfl
 rw [hc]
 rcases hl with h0 | ⟨h0, hl⟩
 ·exact orI_pos (.inl (cmpI_pos h0))
 refine orI_pos (.inr ⟨e _ _ h0.symm, ?_⟩)
 rcases hl with h1 | ⟨h1, hl⟩
 ·exact orI_pos (.inl (cmpI_pos h1))
 refine orI_pos (.inr ⟨e _ _ h1.symm, ?_⟩)
 rcases hl with h2 | ⟨h2, hl⟩
 ·exact orI_pos (.inl (cmpI_pos h2))
 refine orI_pos (.inr ⟨e _ _ h2.symm, ?_⟩)
 rcases hl with h3 | ⟨h3, hl⟩
 ·exact orI_pos (.inl (cmpI_pos h3))
 refine orI_pos (.inr ⟨e _ _ h3.symm, ?_⟩)
 rcases hl with h4 | ⟨h4, _⟩
 ·exact Int.le_of_lt (cmpI_pos h4)
 ·rw [e _ _ h4.symm]; exact Int.le_refl 0
end Go.Proofs.YtmcbbepfakfehaaGreatDoor
