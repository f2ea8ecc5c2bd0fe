/- Contracts of the reference of layer 3 (third part): Subtract, Hull. -/
import Derived.Test.YtbdfblgdmappeaaGreatDoorMB
import Derived.Test.YtbdfblgdmappeaaGreatDoorQC
import Derived.Test.YtbdfblgdmappeaaGreatDoorPD
namespace Go.Proofs.YtbdfblgdmappeaaGreatDoor
open Go.RowKit
set_option maxRecDepth 100000
set_option maxHeartbeats 2000000 in
theorem rhull_any (v : Value) (l : List Bx) (w : World) (hv : IsBoxes w v l) (hm : l.length ≤ 9223372036854775807) :
  Calls Tryz.prog 109 #[v] w fun e w' => e = .returned (.tuple #[bv (hullL l).1, .bool (hullL l).2]) ∧ Below w.heap.size w w' := by
 have hO := own_arg hv
 obtain ⟨a, c, rfl, ha⟩ := hv.view
 clear hv
 go_enter Tryz.func109, Tryz.ntmps109
 go_wp2_with (first | (refine al9 2 hO ?_; clear hO; intro n2 wv hO) | (refine al9 4 hO ?_; clear hO; intro n4 wv hO))
 go_loopw [5, 6] (fun f i wr => ∃ k : Nat, k ≤ l.length ∧ i = .int .i64 k ∧ f = .bool (hullL (l.take k)).2 ∧ Own [] w [⟨n4, bcs (hullL (l.take k)).1, 98⟩, ⟨n2, bcs zeroBx, 98⟩] [] (roS (.slice a l.length c) (cellsB l)) wr) (fun _ i _ => l.length - (intOf i).toNat)
 case atStart => exact ⟨0, by omega, rfl, rfl, hO⟩
 case round =>
  clear hO
  obtain ⟨k, hk, rfl, rfl, hO⟩ := hrel
  by_cases hlt : k < l.length
  ·obtain ⟨g, o, rfl⟩ := ha (by omega)
   have HT := Lib.hid (hullL_take l hlt)
   simp only [roS] at hO
   have hvd := fun w => rvalid_any l[k] w
   cases hvb : vld l[k] <;> rw [hvb] at hvd
   ·have HV := Lib.hid (show hullStep (hullL (l.take k)) l[k] = hullL (l.take k) by simp [hullStep, hvb])
    clear hvb
    go_wp2_with (first | refine ldN ?_ | (go_at_call 105; refine (hvd _).mono ?_; rintro e wv ⟨rfl, hb⟩; replace hO := hO.call hb; clear hb))
    go_roundw
    case rel => exact ⟨k + 1, by omega, by go_num, by rw [HT.out, HV.out], by rw [HT.out, HV.out]; exact hO⟩
    case measure => simp [intOf]; omega
   ·have HS : ∃ cur, hullStep (hullL (l.take k)) l[k] = (hullTo cur l[k], true) ∧ cur = (if (hullL (l.take k)).2 then (hullL (l.take k)).1 else l[k]) := ⟨_, by simp [hullStep, hvb], rfl⟩
    obtain ⟨cur, HV, hcur⟩ := HS
    replace HV := Lib.hid HV
    generalize hullL (l.take k) = s at *
    obtain ⟨cu, f⟩ := s
    have hput : putAt (bcs cu) 0 (bcs l[k]) = bcs l[k] := bput_all
    cases f <;> simp only [Bool.false_eq_true, if_false, if_true] at hcur <;> subst hcur
    ·clear hvb
     go_wp2_with (first | refine ldN ?_ | (refine stN hO ?_; clear hO; intro wv hO) | (go_at_call 105; refine (hvd _).mono ?_; rintro e wv ⟨rfl, hb⟩; replace hO := hO.call hb; clear hb))
     go_loopw [7] (fun i wr => ∃ j : Nat, j ≤ 5 ∧ i = .int .i64 j ∧ Own [] w [⟨n4, bcs (hullK l[k] l[k] j), 98⟩, ⟨n2, bcs zeroBx, 98⟩] [] [⟨g, o, cellsB l⟩] wr) (fun i _ => 5 - (intOf i).toNat)
     case atStart => exact ⟨0, by omega, rfl, by rw [hullK_zero]; exact hO⟩
     case round =>
      clear hO
      obtain ⟨j, hj, rfl, hO⟩ := hrel
      by_cases hjl : j < 5
      ·have hat := hullK_at l[k] l[k] hjl
       have HK := Lib.hid (hullK_succ l[k] l[k] j)
       go_wp2_with fail
       (refine own_tail 27 hO (by kernel_rfl) (by kernel_rfl) (by repeat (first | exact Split.zero _ | apply Split.succ)) ?_; clear hO; intro wv hO; (repeat ((refine wpStill_step (fun K hK => ?_)); (first | ((rw [if_pos (by rfl)]); (with_reducible refine is_loadS ?_); (refine s_ld (h := ?_)); (try simp only [Act.put]); (try simp only [sI9, sZ9, sS9]); (refine hK _ ?_); clear hK K) | (go_simp; (refine hK _ ?_); clear hK K)))); (refine wpStill_nil ?_))
       go_wp2_with (refine stN hO ?_; clear hO; intro wv hO)
       go_roundw
       case rel =>
        refine ⟨j + 1, by omega, by go_num, ?_⟩
        rw [← HK.out]
        first
         | exact hO
         | (simp only [Int.min_self, Int.max_self]; exact hO)
       case measure => simp [intOf]; omega
      ·obtain rfl : j = 5 := by omega
       rw [hullK_five] at hO
       go_wp2_with fail
       go_roundw
       case rel => exact ⟨k + 1, by omega, by go_num, by rw [HT.out, HV.out], by rw [HT.out, HV.out]; exact hO⟩
       case measure => simp [intOf]; omega
    ·clear hvb
     go_wp2_with (first | refine ldN ?_ | (go_at_call 105; refine (hvd _).mono ?_; rintro e wv ⟨rfl, hb⟩; replace hO := hO.call hb; clear hb))
     go_loopw [7] (fun i wr => ∃ j : Nat, j ≤ 5 ∧ i = .int .i64 j ∧ Own [] w [⟨n4, bcs (hullK cur l[k] j), 98⟩, ⟨n2, bcs zeroBx, 98⟩] [] [⟨g, o, cellsB l⟩] wr) (fun i _ => 5 - (intOf i).toNat)
     case atStart => exact ⟨0, by omega, rfl, by rw [hullK_zero]; exact hO⟩
     case round =>
      clear hO
      obtain ⟨j, hj, rfl, hO⟩ := hrel
      by_cases hjl : j < 5
      ·have hat := hullK_at cur l[k] hjl
       have HK := Lib.hid (hullK_succ cur l[k] j)
       go_wp2_with fail
       (refine own_tail 27 hO (by kernel_rfl) (by kernel_rfl) (by repeat (first | exact Split.zero _ | apply Split.succ)) ?_; clear hO; intro wv hO; (repeat ((refine wpStill_step (fun K hK => ?_)); (first | ((rw [if_pos (by rfl)]); (with_reducible refine is_loadS ?_); (refine s_ld (h := ?_)); (try simp only [Act.put]); (try simp only [sI9, sZ9, sS9]); (refine hK _ ?_); clear hK K) | (go_simp; (refine hK _ ?_); clear hK K)))); (refine wpStill_nil ?_))
       go_wp2_with (refine stN hO ?_; clear hO; intro wv hO)
       go_roundw
       case rel =>
        refine ⟨j + 1, by omega, by go_num, ?_⟩
        rw [← HK.out]
        first
         | exact hO
         | (simp only [Int.min_self, Int.max_self]; exact hO)
       case measure => simp [intOf]; omega
      ·obtain rfl : j = 5 := by omega
       rw [hullK_five] at hO
       go_wp2_with fail
       go_roundw
       case rel => exact ⟨k + 1, by omega, by go_num, by rw [HT.out, HV.out], by rw [HT.out, HV.out]; exact hO⟩
       case measure => simp [intOf]; omega
  ·obtain rfl : k = l.length := by omega
   rw [List.take_length] at hO ⊢
   go_wp2_with (first | refine ldN ?_ | (refine stN hO ?_; clear hO; intro wv hO))
   refine bodyPost_ret (own_res_cell_tmp hO Tryz.results109 rfl (by (repeat (first | exact List.mem_cons_self | refine List.mem_cons_of_mem _ ?_))) (by (exact row_len (by (with_reducible (exact row_Box))) (by rfl))) rfl rfl) rfl ⟨rfl, hO.keep.below⟩
theorem cnR_same {a b : Bx} {k : Nat} (he : a.at k = b.at k) : cnR a b (k + 1) = cnR a b k := by rw [cnR, if_pos he]
theorem cnR_up {a b : Bx} {k : Nat} (he : a.at k ≠ b.at k) : cnR a b (k + 1) = (k, (cnR a b k).2 + 1) := by rw [cnR, if_neg he]
theorem cnR_le (a b : Bx) : ∀ k, (cnR a b k).2 ≤ k
 | 0 => Nat.le_refl _
 | k + 1 => by
  have := cnR_le a b k
  rw [cnR]
  split
  ·omega
  ·dsimp only; omega
set_option maxHeartbeats 8000000 in
theorem rjoined_any (a b : Bx) (w : World) (ka : a.ok) (kb : b.ok) (va : vld a = true) (vb : vld b = true) : Calls Tryz.prog 108 #[bv a, bv b] w fun e w' => e = .returned (.bool (jnB a b)) ∧ Below w.heap.size w w' := by
 have hO := own_start [] w
 have HJ := Lib.hid (show (if 1 < (cnR a b 5).2 then false else joinR (a.at (cnR a b 5).1) (b.at (cnR a b 5).1)) = jnB a b from (cnR_join va vb).trans (jnP_join va vb).symm)
 clear va vb
 go_enter Tryz.func108, Tryz.ntmps108
 go_wp2_with (first | (refine bx9 2 hO ?_; clear hO; intro n2 wv hO) | (refine bx9 3 hO ?_; clear hO; intro n3 wv hO))
 go_loopw [5, 6, 7] (fun v u q wr => ∃ k : Nat, k ≤ 5 ∧ q = .int .i64 k ∧ v = .int .i64 (cnR a b k).1 ∧ u = .int .i64 (cnR a b k).2 ∧ Own [] w [⟨n3, bcs b, 98⟩, ⟨n2, bcs a, 98⟩] [] [] wr) (fun _ _ q _ => 5 - (intOf q).toNat)
 case atStart => exact ⟨0, by omega, rfl, rfl, rfl, hO⟩
 case round =>
  clear hO
  obtain ⟨k, hk, rfl, rfl, rfl, hO⟩ := hrel
  have hle := cnR_le a b k
  by_cases hlt : k < 5
  ·by_cases he : a.at k = b.at k
   ·have g1 : decide (a.at k = b.at k) = true := decide_eq_true he
    have HN := Lib.hid (cnR_same he)
    clear he
    generalize cnR a b k = x at *
    go_wp2_with fail
    (refine own_quiet hO (by kernel_rfl) (by kernel_rfl) ?_; clear hO; (repeat (go_big_quiet_want; (first | ((with_reducible refine is_loadQ ?_); (refine q_ldQ (h := ?_)); (try simp only [Act.put]); (try simp only [sI9, sZ9, sS9]); go_big_quiet_on) | (go_big_quiet_op; (first | go_big_quiet_on | ((refine ⟨_, fun _ _ => rfl, ?_⟩); go_big_quiet_on)))))); (refine wpQuiet_nil ?_); intro wv hO)
    go_wp2_with fail
    go_roundw
    case rel => exact ⟨k + 1, by omega, by go_num, by rw [HN.out], by rw [HN.out], hO⟩
    case measure => simp [intOf]; omega
   ·have g1 : decide (a.at k = b.at k) = false := decide_eq_false he
    have HN := Lib.hid (cnR_up he)
    clear he
    generalize cnR a b k = x at *
    obtain ⟨x1, x2⟩ := x
    dsimp only at hle HN
    have s1 : IntKind.i64.wrap ((x2 : Int) + 1) = (x2 : Int) + 1 := IntWalk.i64_in _ (by omega)
    go_wp2_with fail
    (refine own_quiet hO (by kernel_rfl) (by kernel_rfl) ?_; clear hO; (repeat (go_big_quiet_want; (first | ((with_reducible refine is_loadQ ?_); (refine q_ldQ (h := ?_)); (try simp only [Act.put]); (try simp only [sI9, sZ9, sS9]); go_big_quiet_on) | (go_big_quiet_op; (first | go_big_quiet_on | ((refine ⟨_, fun _ _ => rfl, ?_⟩); go_big_quiet_on)))))); (refine wpQuiet_nil ?_); intro wv hO)
    go_wp2_with fail
    go_roundw
    case rel => exact ⟨k + 1, by omega, by go_num, by rw [HN.out], by rw [HN.out]; go_num, hO⟩
    case measure => simp [intOf]; omega
  ·obtain rfl : k = 5 := by omega
   have hf : (cnR a b 5).1 < 5 := by have := cnR_lt a b 5; omega
   generalize cnR a b 5 = x at *
   obtain ⟨f, n⟩ := x
   dsimp only at hf HJ hle
   by_cases h1 : 1 < n
   ·have g1 : decide ((1 : Int) < (n : Int)) = true := decide_eq_true (by omega)
    have HF := Lib.hid (by have h := HJ.out; rw [if_pos h1] at h; exact h)
    clear HJ
    go_wp2_with fail
    go_ret
    exact ⟨by rw [← HF.out]; rfl, hO.keep.below⟩
   ·have g1 : decide ((1 : Int) < (n : Int)) = false := decide_eq_false (by omega)
    have HF := Lib.hid (by have h := HJ.out; rw [if_neg h1] at h; unfold joinR at h; exact h)
    clear HJ
    have ka1 := ka f hf
    have kb1 := kb f hf
    have hix := fun w => ixb_at w a hf
    have hiy := fun w => ixb_at w b hf
    go_wp2_with fail
    refine wp_region_held (S := (Own [] w [⟨n3, bcs b, 98⟩, ⟨n2, bcs a, 98⟩] [] [])) (by kernel_rfl) ?_
    replace hO := hO.drew
    have hC : (Own [] w [⟨n3, bcs b, 98⟩, ⟨n2, bcs a, 98⟩] [] []) _ := hO.cls
    refine wpAnyH_tk 0 hC ?_
    (go_big_quiet_want; (go_big_quiet_op; (go_big_quiet_on))); (refine wpQuiet_nil ?_)
    refine wpAnyH_tk 1 hC ?_
    (go_big_quiet_want; (go_big_quiet_op; ((refine ⟨_, fun _ _ => rfl, ?_⟩); go_big_quiet_on))); (refine wpQuiet_nil ?_)
    refine wpAnyH_tk 2 hC ?_
    (go_big_quiet_want; ((with_reducible refine is_loadQ ?_); (refine q_ldQ (h := ?_)); (try simp only [Act.put]); (try simp only [sI9, sZ9, sS9]); go_big_quiet_on)); (refine wpQuiet_nil ?_)
    refine wpAnyH_tk 3 hC ?_
    (go_big_quiet_want; (go_big_quiet_op; (go_big_quiet_on))); (refine wpQuiet_nil ?_)
    refine wpAnyH_tk 4 hC ?_
    (go_big_quiet_want; (go_big_quiet_op; ((refine ⟨_, fun _ _ => rfl, ?_⟩); go_big_quiet_on))); (refine wpQuiet_nil ?_)
    refine wpAnyH_tk 5 hC ?_
    (go_big_quiet_want; ((with_reducible refine is_loadQ ?_); (refine q_ldQ (h := ?_)); (try simp only [Act.put]); (try simp only [sI9, sZ9, sS9]); go_big_quiet_on)); (refine wpQuiet_nil ?_)
    refine wpAnyH_all (rs := [6, 7]) (by kernel_rfl) (by simp) (ord_cons ?_ (ord_cons ?_ ord_nil))
    rotate_left 2
    all_goals
     refine wpOp_of_listL rfl ?_
     ((with_reducible refine is_alloc ?_); (first | (refine own_alQ (o := ⟨some 8, _, _, _, _, _⟩) (hO := hO) (h := ?_); clear hO; intro n8 wv hO) | (refine own_alQ (o := ⟨some 9, _, _, _, _, _⟩) (hO := hO) (h := ?_); clear hO; intro n9 wv hO))); (try simp only [Act.put]); (try simp only [sI9, sZ9, sS9])
     refine wpList_done (qk_intro ?_)
     replace hC : (Own [] w [⟨n3, bcs b, 98⟩, ⟨n2, bcs a, 98⟩] [] []) _ := hO.cls
     refine ⟨hC, ?_⟩
    refine wpAnyH_1 7 ?_
    rotate_left 1
    refine wpAnyH_1 6 ?_
    rotate_left 1
    all_goals
     refine wpOp_of_listL rfl ?_
     ((with_reducible refine is_alloc ?_); (first | (refine own_alQ (o := ⟨some 8, _, _, _, _, _⟩) (hO := hO) (h := ?_); clear hO; intro n8 wv hO) | (refine own_alQ (o := ⟨some 9, _, _, _, _, _⟩) (hO := hO) (h := ?_); clear hO; intro n9 wv hO))); (try simp only [Act.put]); (try simp only [sI9, sZ9, sS9])
     refine wpList_done (qk_intro ?_)
     replace hC : (Own [] w [⟨n3, bcs b, 98⟩, ⟨n2, bcs a, 98⟩] [] []) _ := hO.cls
     refine ⟨hC, ?_⟩
    refine wpAnyH_1 8 ?_
    rotate_left 1
    refine wpAnyH_1 8 ?_
    rotate_left 1
    all_goals
     refine wpOp_of_listL rfl ?_
     ((with_reducible refine is_store ?_); (refine own_stRQ (hO := hO) (h := ?_); clear hO; intro wv hO)); (try simp only [Act.put])
     refine wpList_done (qk_intro ?_)
     replace hC : (Own [] w [⟨n3, bcs b, 98⟩, ⟨n2, bcs a, 98⟩] [] []) _ := hO.cls
     refine ⟨hC, ?_⟩
    refine wpAnyH_1 9 ?_
    rotate_left 1
    refine wpAnyH_1 9 ?_
    rotate_left 1
    all_goals
     refine wpOp_of_listL rfl ?_
     ((with_reducible refine is_store ?_); (refine own_stRQ (hO := hO) (h := ?_); clear hO; intro wv hO)); (try simp only [Act.put])
     refine wpList_done (qk_intro ?_)
     replace hC : (Own [] w [⟨n3, bcs b, 98⟩, ⟨n2, bcs a, 98⟩] [] []) _ := hO.cls
     refine ⟨hC, ?_⟩
    refine wpAnyH_done (by kernel_rfl) ?_ _
    rotate_left
    refine wpAnyH_done (by kernel_rfl) ?_ _
    rotate_left
    all_goals clear hC
    all_goals
     clear hix hiy
     generalize a.at f = x at *
     generalize b.at f = y at *
     obtain ⟨x0, x1⟩ := x
     obtain ⟨y0, y1⟩ := y
     dsimp only at ka1 kb1 HF hO
     have c0 : wv.cell? ⟨n8, 0, none⟩ = some (.int .u32 x0) := (hO.chunk ⟨n8, [.int .u32 x0, .int .u32 x1], 96⟩ (by (repeat (first | exact List.mem_cons_self | refine List.mem_cons_of_mem _ ?_)))).cell 0
     have c1 : wv.cell? ⟨n8, 1, none⟩ = some (.int .u32 x1) := (hO.chunk ⟨n8, [.int .u32 x0, .int .u32 x1], 96⟩ (by (repeat (first | exact List.mem_cons_self | refine List.mem_cons_of_mem _ ?_)))).cell 1
     have c2 : wv.cell? ⟨n9, 0, none⟩ = some (.int .u32 y0) := (hO.chunk ⟨n9, [.int .u32 y0, .int .u32 y1], 96⟩ (by (repeat (first | exact List.mem_cons_self | refine List.mem_cons_of_mem _ ?_)))).cell 0
     have c3 : wv.cell? ⟨n9, 1, none⟩ = some (.int .u32 y1) := (hO.chunk ⟨n9, [.int .u32 y0, .int .u32 y1], 96⟩ (by (repeat (first | exact List.mem_cons_self | refine List.mem_cons_of_mem _ ?_)))).cell 1
     have s1 : IntKind.u64.wrap (y1 + 1) = y1 + 1 := by rw [IntKind.wrap_u64]; omega
     have s2 : IntKind.u64.wrap (x1 + 1) = x1 + 1 := by rw [IntKind.wrap_u64]; omega
     have s3 : IntKind.u64.wrap x0 = x0 := by rw [IntKind.wrap_u64]; omega
     have s4 : IntKind.u64.wrap x1 = x1 := by rw [IntKind.wrap_u64]; omega
     have s5 : IntKind.u64.wrap y0 = y0 := by rw [IntKind.wrap_u64]; omega
     have s6 : IntKind.u64.wrap y1 = y1 := by rw [IntKind.wrap_u64]; omega
     cases d1 : decide (x0 ≤ y1 + 1)
     all_goals
      cases d2 : decide (y0 ≤ x1 + 1)
      all_goals
       go_wp2_with ((with_reducible refine is_load ?_); (refine own_ldQ (h := ?_)))
       go_ret
       exact ⟨by rw [← HF.out, d1, d2]; rfl, hO.keep.below⟩
theorem rapart_any (a b : Bx) (w : World) : Calls Tryz.prog 51 #[bv a, bv b] w fun e w' => e = .returned (.bool (!meetB a b)) ∧ Below w.heap.size w w' := by
 have hO := own_start [] w
 have h1 := rintersect_any a b
 unfold meetB
 generalize interB a b = p at *
 go_enter Tryz.func51, Tryz.ntmps51
 go_wp2_with (first | ((with_reducible refine is_load ?_); (refine own_ldQ (h := ?_))) | ((with_reducible refine is_store ?_); (refine own_stRQ (hO := hO) (h := ?_); clear hO; intro wv hO)) | (refine bx9 2 hO ?_; clear hO; intro n2 wv hO) | (refine bx9 3 hO ?_; clear hO; intro n3 wv hO) | ((with_reducible refine is_alloc ?_); refine own_alQ (o := ⟨some 5, _, _, _, _, _⟩) (hO := hO) (h := ?_); clear hO; intro n5 wv hO) | (go_at_call 110; (with_reducible refine (h1 _).mono ?_); rintro e wv ⟨rfl, hb9⟩; replace hO := hO.call hb9; clear hb9))
 go_ret
 exact ⟨rfl, hO.keep.below⟩
theorem range_all {t : List Rul} {F : Rul → Bool} {i j : Nat} (hj : j ≤ t.length) (h : ∀ m (hm : m < t.length), i < m → m < j → F t[m] = true) : ((t.drop (i + 1)).take (j - (i + 1))).all F = true := by
 rw [List.all_eq_true]
 intro x hx
 obtain ⟨m, hm, rfl⟩ := List.getElem_of_mem hx
 rw [List.length_take, List.length_drop] at hm
 rw [List.getElem_take, List.getElem_drop]
 exact h _ _ (by omega) (by omega)
theorem range_not {t : List Rul} {F : Rul → Bool} {i j m : Nat} (hm : m < t.length) (h1 : i < m) (h2 : m < j) (h : F t[m] = false) : ((t.drop (i + 1)).take (j - (i + 1))).all F = false := by
 rw [List.all_eq_false]
 refine ⟨t[m], ?_, by rw [h]; simp⟩
 rw [List.mem_iff_getElem]
 refine ⟨m - (i + 1), by rw [List.length_take, List.length_drop]; omega, ?_⟩
 rw [List.getElem_take, List.getElem_drop]
 congr 1
 omega
set_option maxHeartbeats 16000000 in
theorem rmergeable_any {vt : Value} {t : List Rul} {i j : Nat} (w : World) (hv : IsTable w vt t) (kt : okT t) (kv : ∀ r ∈ t, vld r.1 = true) (hl : t.length ≤ 1000000000000) (hij : i < j) (hj : j < t.length) :
  Calls Tryz.prog 49 #[vt, .int .i64 i, .int .i64 j] w fun e w' => e = .returned (.bool (mergB t i j)) ∧ Below w.heap.size w w' := by
 have hO := own_argR hv
 obtain ⟨a, c, rfl, ha⟩ := hv.view
 obtain ⟨g, o, rfl⟩ := ha (by omega)
 clear ha
 have hi : i < t.length := by omega
 have s1 : IntKind.i64.wrap ((i : Int) + 1) = (i : Int) + 1 := IntWalk.i64_in _ (by omega)
 rw [mergB_at hi hj kv]
 have t1 := tk_match t hi
 have t2 := tk_match t hj
 have t3 := cr_permit t hi
 have t4 := cr_permit t hj
 have h1 := fun w => rjoined_any t[i].1 t[j].1 w (kt _ (List.getElem_mem hi)) (kt _ (List.getElem_mem hj)) (kv _ (List.getElem_mem hi)) (kv _ (List.getElem_mem hj))
 generalize t[i] = p at *
 generalize hq9 : t[j] = q at *
 clear hv kv hq9
 simp only [roS] at hO
 obtain ⟨b0, p0⟩ := p
 obtain ⟨b1, p1⟩ := q
 dsimp only at t1 t2 t3 t4 h1 ⊢
 by_cases hp : p0 = p1
 ·subst hp
  rw [show (p0 == p0) = true by cases p0 <;> rfl, Bool.true_and]
  obtain ⟨F, hF⟩ : ∃ F : Rul → Bool, F = fun r => r.2 == p0 || !meetB r.1 b1 := ⟨_, rfl⟩
  rw [← hF]
  have HF := Lib.hid (fun r : Rul => congrFun hF r)
  clear hF
  generalize jnB b0 b1 = m at *
  cases p0
  all_goals
   cases m
   ·rw [Bool.false_and]
    go_enter Tryz.func49, Tryz.ntmps49
    go_wp2_with fail
    (refine own_quiet hO (by kernel_rfl) (by kernel_rfl) ?_; clear hO; (repeat (go_big_quiet_want; (first | ((with_reducible refine is_loadQ ?_); (refine q_ldQ (h := ?_)); (try simp only [Act.put]); (try simp only [sI9, sZ9, sS9]); go_big_quiet_on) | (go_big_quiet_op; (first | go_big_quiet_on | ((refine ⟨_, fun _ _ => rfl, ?_⟩); go_big_quiet_on) | go_big_quiet_call ((intro hq; go_at_call 108; exact q_call (h1 _) hq))))))); (refine wpQuiet_nil ?_); intro wv hO)
    go_wp2_with fail
    go_ret
    exact ⟨rfl, hO.keep.below⟩
   ·rw [Bool.true_and]
    go_enter Tryz.func49, Tryz.ntmps49
    go_wp2_with fail
    (refine own_quiet hO (by kernel_rfl) (by kernel_rfl) ?_; clear hO; (repeat (go_big_quiet_want; (first | ((with_reducible refine is_loadQ ?_); (refine q_ldQ (h := ?_)); (try simp only [Act.put]); (try simp only [sI9, sZ9, sS9]); go_big_quiet_on) | (go_big_quiet_op; (first | go_big_quiet_on | ((refine ⟨_, fun _ _ => rfl, ?_⟩); go_big_quiet_on) | go_big_quiet_call ((intro hq; go_at_call 108; exact q_call (h1 _) hq))))))); (refine wpQuiet_nil ?_); intro wv hO)
    go_wp2_with fail
    go_loopw [7] (fun q wr => ∃ k : Nat, i < k ∧ k ≤ j ∧ q = .int .i64 k ∧ Hid (∀ m (hm : m < t.length), i < m → m < k → F t[m] = true) ∧ Own [] w [] [] [⟨g, o, cellsR t⟩] wr) (fun q _ => j - (intOf q).toNat)
    case atStart => exact ⟨i + 1, by omega, by omega, by go_num, Lib.hid (fun m hm h1 h2 => absurd h2 (by omega)), hO⟩
    case round =>
     clear hO
     obtain ⟨k, hk0, hk, rfl, HA, hO⟩ := hrel
     have s2 : IntKind.i64.wrap ((k : Int) + 1) = (k : Int) + 1 := IntWalk.i64_in _ (by omega)
     by_cases hlt : k < j
     ·have g1 : decide ((k : Int) < (j : Int)) = true := decide_eq_true (by omega)
      have hkt : k < t.length := by omega
      have t5 := tk_match t hkt
      have t6 := cr_permit t hkt
      have HT := Lib.hid (fun (h : F t[k] = true) => show ∀ m (hm : m < t.length), i < m → m < k + 1 → F t[m] = true from fun m hm h1 h2 => by
       by_cases e : m = k
       ·subst e; exact h
       ·exact HA.out m hm h1 (by omega))
      have HN := Lib.hid (range_not (F := F) hkt hk0 hlt)
      have HR := Lib.hid (HF.out t[k])
      have h2 := rapart_any t[k].1 b1
      clear HA
      generalize t[k] = r at *
      obtain ⟨b2, p2⟩ := r
      dsimp only at h2 HR t5 t6
      generalize meetB b2 b1 = x at *
      cases x
      all_goals
       cases p2
       all_goals
        go_wp2_with fail
        (refine own_quiet hO (by kernel_rfl) (by kernel_rfl) ?_; clear hO; (repeat (first | go_big_quiet_skip | (go_big_quiet_want; (first | ((with_reducible refine is_loadQ ?_); (refine q_ldQ (h := ?_)); (try simp only [Act.put]); (try simp only [sI9, sZ9, sS9]); go_big_quiet_on) | (go_big_quiet_op; (first | go_big_quiet_on | ((refine ⟨_, fun _ _ => rfl, ?_⟩); go_big_quiet_on) | go_big_quiet_call ((intro hq; go_at_call 51; exact q_call (h2 _) hq)))))))); (refine wpQuiet_nil ?_); intro wv hO)
        go_wp2_with fail
        first
         | (go_ret; exact ⟨by rw [HN.out (HR.out.trans rfl)]; rfl, hO.keep.below⟩)
         | (go_roundw; (case rel => exact ⟨k + 1, by omega, by omega, by go_num, Lib.hid (HT.out (HR.out.trans rfl)), hO⟩); (case measure => simp [intOf]; omega))
     ·obtain rfl : k = j := by omega
      have g1 : decide ((k : Int) < (k : Int)) = false := decide_eq_false (by omega)
      have HE := Lib.hid (range_all (F := F) (by omega) HA.out)
      clear HA
      go_wp2_with fail
      go_ret
      exact ⟨by rw [HE.out]; rfl, hO.keep.below⟩
 ·have g4 : (p0 != p1) = true := by simpa using hp
  have g5 : (p0 == p1) = false := beq_eq_false_iff_ne.2 hp
  rw [g5, Bool.false_and, Bool.false_and]
  clear hp
  go_enter Tryz.func49, Tryz.ntmps49
  go_wp2_with fail
  (refine own_quiet hO (by kernel_rfl) (by kernel_rfl) ?_; clear hO; (repeat (first | go_big_quiet_skip | (go_big_quiet_want; (first | ((with_reducible refine is_loadQ ?_); (refine q_ldQ (h := ?_)); (try simp only [Act.put]); (try simp only [sI9, sZ9, sS9]); go_big_quiet_on) | (go_big_quiet_op; (first | go_big_quiet_on | ((refine ⟨_, fun _ _ => rfl, ?_⟩); go_big_quiet_on))))))); (refine wpQuiet_nil ?_); intro wv hO)
  go_wp2_with fail
  go_ret
  exact ⟨rfl, hO.keep.below⟩
set_option maxHeartbeats 4000000 in
theorem rWithoutM_any {vt : Value} {t : List Rul} {i : Nat} (w : World) (hv : IsTable w vt t) (hi : i < t.length) (hl : t.length ≤ 1000000000000) :
  Calls Tryz.prog 48 #[vt, .int .i64 i] w (MkTable w (woF t i)) := by
 have hO := own_argR hv
 obtain ⟨a, c, rfl, ha⟩ := hv.view
 have hcap := hv.cap
 obtain ⟨g, o, rfl⟩ := ha (by omega)
 have s1 : IntKind.i64.wrap ((i : Int) + 1) = (i : Int) + 1 := IntWalk.i64_in _ (by omega)
 clear ha
 have E := Lib.hid (wo_cells t i (t.length - (i + 1)) (by omega))
 have HL := Lib.hid (woF_length hi)
 go_enter Tryz.func48, Tryz.ntmps48
 go_wp2_with fail
 refine wp_region_any (by kernel_rfl) ?_
 replace hO := hO.drew
 have ix9 := Ix.mk [1, 2, 3, 5, 6, 7, 8]
 iterate 7 (refine wpAny_tk ix9 ?_; replace ix9 := ix9.tail; (first | go_big_quiet_skip | (go_big_quiet_want; (go_big_quiet_op; (first | go_big_quiet_on | ((refine ⟨_, fun _ _ => rfl, ?_⟩); go_big_quiet_on))))); (refine wpQuiet_nil ?_); (try simp only [Act.put]); (try simp only [sI9, sZ9, sS9]))
 clear ix9
 refine wpAny_1 0 ?_
 rotate_left 1
 all_goals
  refine wpOp_of_listL rfl ?_
  ((with_reducible refine is_build ?_); (refine own_build0 (o := ⟨some 5, _, _, _, _, _⟩) hO (by rfl) rfl slice_Table ?_); clear hO; intro n5 wv hO); (try simp only [Act.put]); (try simp only [sI9, sZ9, sS9])
  refine wpList_done (qk_intro ?_)
 refine wpAny_1 4 ?_
 rotate_left 1
 all_goals
  refine wpOp_of_listL rfl ?_
  ((with_reducible refine is_append ?_); (refine own_appendA (o := ⟨some 9, _, _, _, _, _⟩) hO rfl rfl slice_Table rfl rfl (src_table (hv.keep0 hO) (m := i) (by omega)) (cellsR_one' _) (fun _ => by repeat (exact UpdR.here)) (by (omega)) (by unfold maxLen; (omega)) ?_); clear hO; intro g9 c9 wv hO); (try simp only [Act.put]); (try simp only [sI9, sZ9, sS9])
  refine wpList_done (qk_intro ?_)
 refine wpAny_1 9 ?_
 rotate_left 1
 all_goals
  refine wpOp_of_listL rfl ?_
  ((with_reducible refine is_append ?_); (refine own_appendA (o := ⟨some 14, _, _, _, _, _⟩) hO rfl rfl slice_Table rfl rfl (src_part (hv.keep0 hO) (i := i + 1) (n := t.length - (i + 1)) (by omega)) (cellsR_one' _) (fun _ => by repeat (exact UpdR.here)) (by (omega)) (by unfold maxLen; (omega)) ?_); clear hO; intro g14 c14 wv hO); (try simp only [Act.put]); (try simp only [sI9, sZ9, sS9])
  refine wpList_done (qk_intro ?_)
 refine wpAny_1 10 ?_
 rotate_left 1
 all_goals
  refine wpOp_of_listL rfl ?_
  ((refine wpList_step (fun K hK => ?_)); go_simp; ((refine hK _ _ ?_); clear hK K))
  refine wpList_done (qk_intro ?_)
 refine wpAny_done (by kernel_rfl) ?_ _
 rotate_left
 all_goals go_wp2_with fail
 all_goals
  go_ret
  simp only [Nat.zero_add, List.nil_append] at hO
  rw [E.out] at hO
  refine ⟨_, rfl, ?_, hO.keep.below⟩
  rw [HL.out, show t.length - 1 = i + (t.length - (i + 1)) by omega]
  exact hO.newRow List.mem_cons_self
theorem woF_set {t : List Rul} {i j : Nat} (hij : i < j) (r : Rul) : (woF t j).set i r = woF (t.set i r) j := by
 unfold woF
 by_cases hj : i < (t.take j).length
 ·rw [List.set_append_left _ _ hj, List.take_set, List.drop_set_of_lt (by omega)]
 ·have hl : t.length ≤ i := by
   rw [List.length_take] at hj; omega
  rw [List.set_eq_of_length_le (by simp; omega), List.set_eq_of_length_le hl]
theorem woF_lt {t : List Rul} {i j : Nat} (hij : i < j) (hj : j < t.length) (h : i < (woF t j).length) : (woF t j)[i] = t[i]'(by omega) := by
 have h1 : (woF t j)[i]? = t[i]? := by
  unfold woF
  rw [List.getElem?_append_left (by rw [List.length_take]; omega), List.getElem?_take, if_pos hij]
 rw [List.getElem?_eq_getElem h, List.getElem?_eq_getElem (by omega)] at h1
 exact Option.some.inj h1
set_option maxHeartbeats 8000000 in
theorem rmerge_any {vt : Value} {t : List Rul} {i j : Nat} (w : World) (hv : IsTable w vt t) (kv : ∀ r ∈ t, vld r.1 = true) (hl : t.length ≤ 1000000000000) (hij : i < j) (hj : j < t.length) :
  Calls Tryz.prog 50 #[vt, .int .i64 i, .int .i64 j] w (RetTable w (mergT t i j)) := by
 have hO := own_argR hv
 have hi : i < t.length := by omega
 have h1 := fun w hv => rWithoutM_any (vt := vt) (t := t) (i := j) w hv hj hl
 have hwl := woF_length hj
 obtain ⟨a, c, rfl, ha⟩ := hv.view
 obtain ⟨g, o, rfl⟩ := ha (by omega)
 clear ha
 rw [mergT_at hi hj]
 have vi := kv _ (List.getElem_mem hi)
 have vj := kv _ (List.getElem_mem hj)
 have hiw : i < (woF t j).length := by omega
 have hn := cellsR_setM hiw (hullTo t[i].1 t[j].1)
 rw [woF_lt hij hj hiw, woF_set hij] at hn
 have t1 := tk_match t hi
 have t2 := tk_match t hj
 have z1 : i * 11 + 10 ≤ (cellsR (woF t j)).length := by rw [cellsR_length]; omega
 generalize woF (t.set i (hullTo t[i].1 t[j].1, t[i].2)) j = u at *
 generalize woF t j = x at *
 generalize t[i] = p at *
 generalize t[j] = q at *
 have h3 := fun v w hv => rhull_any v [p.1, q.1] w hv (by simp)
 rw [hullL_two vi vj] at h3
 clear vi vj
 generalize hullTo p.1 q.1 = b at *
 simp only [roS] at hO
 clear kv hwl
 obtain ⟨b0, p0⟩ := p
 obtain ⟨b1, p1⟩ := q
 dsimp only at t1 t2 h3
 go_enter Tryz.func50, Tryz.ntmps50
 go_wp2_with (go_at_call 48; (with_reducible refine (h1 _ (hv.keep0 hO)).mono ?_); rintro e wv ⟨v, rfl, hrow, hb9⟩; replace hO := hO.gainRow hb9 hrow; have hvw := rowview11 hrow; clear hb9 hrow h1; obtain ⟨a9, c9, rfl, hg9⟩ := hvw; (have hg8 := hg9 (by omega)); obtain ⟨g9, rfl⟩ := hg8; clear hg9)
 refine wp_region_held (S := (Own [] w [] [] [⟨g, o, cellsR t⟩])) (by kernel_rfl) ?_
 replace hO := hO.drew
 have hC : (Own [] w [] [] [⟨g, o, cellsR t⟩]) _ := hO.cls
 refine wpAnyH_tk 0 hC ?_
 (go_big_quiet_want; (go_big_quiet_op; (go_big_quiet_on))); (refine wpQuiet_nil ?_)
 refine wpAnyH_tk 1 hC ?_
 (go_big_quiet_want; (go_big_quiet_op; (go_big_quiet_on))); (refine wpQuiet_nil ?_)
 refine wpAnyH_tk 2 hC ?_
 (go_big_quiet_want; (go_big_quiet_op; (go_big_quiet_on))); (refine wpQuiet_nil ?_)
 refine wpAnyH_tk 3 hC ?_
 (go_big_quiet_want; (go_big_quiet_op; (go_big_quiet_on))); (refine wpQuiet_nil ?_)
 refine wpAnyH_tk 4 hC ?_
 (go_big_quiet_want; (go_big_quiet_op; ((refine ⟨_, fun _ _ => rfl, ?_⟩); go_big_quiet_on))); (refine wpQuiet_nil ?_)
 refine wpAnyH_tk 5 hC ?_
 (go_big_quiet_want; (go_big_quiet_op; ((refine ⟨_, fun _ _ => rfl, ?_⟩); go_big_quiet_on))); (refine wpQuiet_nil ?_)
 refine wpAnyH_tk 6 hC ?_
 (go_big_quiet_want; ((with_reducible refine is_loadQ ?_); (refine q_ldQ (h := ?_)); (try simp only [Act.put]); (try simp only [sI9, sZ9, sS9]); go_big_quiet_on)); (refine wpQuiet_nil ?_)
 refine wpAnyH_tk 7 hC ?_
 (go_big_quiet_want; (go_big_quiet_op; (go_big_quiet_on))); (refine wpQuiet_nil ?_)
 refine wpAnyH_tk 8 hC ?_
 (go_big_quiet_want; (go_big_quiet_op; (go_big_quiet_on))); (refine wpQuiet_nil ?_)
 refine wpAnyH_tk 9 hC ?_
 (go_big_quiet_want; (go_big_quiet_op; ((refine ⟨_, fun _ _ => rfl, ?_⟩); go_big_quiet_on))); (refine wpQuiet_nil ?_)
 refine wpAnyH_tk 10 hC ?_
 (go_big_quiet_want; (go_big_quiet_op; ((refine ⟨_, fun _ _ => rfl, ?_⟩); go_big_quiet_on))); (refine wpQuiet_nil ?_)
 refine wpAnyH_tk 11 hC ?_
 (go_big_quiet_want; ((with_reducible refine is_loadQ ?_); (refine q_ldQ (h := ?_)); (try simp only [Act.put]); (try simp only [sI9, sZ9, sS9]); go_big_quiet_on)); (refine wpQuiet_nil ?_)
 refine wpAnyH_1 12 ?_
 rotate_left 1
 all_goals
  refine wpOp_of_listL rfl ?_
  ((with_reducible refine is_build ?_); (refine' own_buildN (o := ⟨some 24, _, _, _, _, _⟩) [bv b0, bv b1] hO (by rfl) rfl slice_Boxes rfl rfl (by rfl) (by decide) (by decide) ?_); clear hO; intro n24 wv hO); (try simp only [Act.put]); (try simp only [sI9, sZ9, sS9])
  refine wpList_done (qk_intro ?_)
  replace hC : (Own [] w [] [] [⟨g, o, cellsR t⟩]) _ := hO.cls
  refine ⟨hC, ?_⟩
 refine wpAnyH_1 13 ?_
 rotate_left 1
 all_goals
  refine wpOp_of_listL rfl ?_
  ((refine wpList_step (fun K hK => ?_)); go_simp; ((go_at_call 109; (with_reducible refine (h3 _ _ (two_boxesC hO List.mem_cons_self)).mono ?_); rintro e wv ⟨rfl, hb9⟩; replace hO := hO.call hb9; clear hb9); (try simp only []); (refine hK _ _ ?_); clear hK K))
  refine wpList_done (qk_intro ?_)
  replace hC : (Own [] w [] [] [⟨g, o, cellsR t⟩]) _ := hO.cls
  refine ⟨hC, ?_⟩
 refine wpAnyH_tk 14 hC ?_
 (go_big_quiet_want; (go_big_quiet_op; (go_big_quiet_on))); (refine wpQuiet_nil ?_)
 refine wpAnyH_tk 15 hC ?_
 (go_big_quiet_want; (go_big_quiet_op; ((refine ⟨_, fun _ _ => rfl, ?_⟩); go_big_quiet_on))); (refine wpQuiet_nil ?_)
 refine wpAnyH_tk 16 hC ?_
 (go_big_quiet_want; (go_big_quiet_op; ((refine ⟨_, fun _ _ => rfl, ?_⟩); go_big_quiet_on))); (refine wpQuiet_nil ?_)
 refine wpAnyH_tk 17 hC ?_
 (go_big_quiet_want; (go_big_quiet_op; ((refine ⟨_, fun _ _ => rfl, ?_⟩); go_big_quiet_on))); (refine wpQuiet_nil ?_)
 refine wpAnyH_tk 18 hC ?_
 (go_big_quiet_want; (go_big_quiet_op; ((refine ⟨_, fun _ _ => rfl, ?_⟩); go_big_quiet_on))); (refine wpQuiet_nil ?_)
 refine wpAnyH_1 19 ?_
 rotate_left 1
 all_goals
  refine wpOp_of_listL rfl ?_
  ((with_reducible refine is_store ?_); (refine own_stRw hO (h := ?_); clear hO; intro wv hO)); (try simp only [Act.put])
  refine wpList_done (qk_intro ?_)
  replace hC : (Own [] w [] [] [⟨g, o, cellsR t⟩]) _ := hO.cls
  refine ⟨hC, ?_⟩
 refine wpAnyH_done (by kernel_rfl) ?_ _
 rotate_left
 all_goals clear hC
 all_goals
  go_wp2_with fail
  go_ret
  exact ⟨_, rfl, ⟨own_table hO List.mem_cons_self, own_new hO List.mem_cons_self⟩, hO.keep.below⟩
end Go.Proofs.YtbdfblgdmappeaaGreatDoor
