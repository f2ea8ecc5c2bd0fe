/- The reference of findings: Without, Removable, meet, overlap, dead, redundant. -/
import Derived.Test.YtjoionnnpjajmaaGreatDoorPB
import Derived.Test.YtjoionnnpjajmaaGreatDoorOE
import Derived.Test.YtjoionnnpjajmaaGreatDoorMV
import Derived.Test.YtjoionnnpjajmaaGreatDoorMB
namespace Go.Proofs.YtjoionnnpjajmaaGreatDoor
open Go.RowKit
set_option maxRecDepth 100000
set_option maxHeartbeats 4000000 in
theorem rWithout_any {vt : Value} {t : List Rul} {i : Nat} (w : World) (hv : IsTable w vt t) (hi : i < t.length) (hl : t.length ≤ 1000000000000) :
  Calls Tryz.prog 28 #[vt, .int .i64 i] w (RetTable w (woF t i)) := by
 have hO := own_argR hv
 obtain ⟨a, c, rfl, ha⟩ := hv.view
 have hcap := hv.cap
 obtain ⟨g, o, rfl⟩ := ha (by omega)
 have s1 : IntKind.i64.wrap ((i : Int) + 1) = (i : Int) + 1 := IntWalk.i64_in _ (by omega)
 clear ha
 have E := Lib.hid (wo_cells t i (t.length - (i + 1)) (by omega))
 go_enter Tryz.func28, Tryz.ntmps28
 go_wp2_with (first | refine ldNT ?_ | ((first | refine stNT hO ?_ | refine st1NT hO ?_); clear hO; intro wv hO) | (refine ap9T 9 hO ?_; clear hO; intro g9 c9 wv hO) | (refine ap9T 14 hO ?_; clear hO; intro g14 c14 wv hO))
 (try simp only [Act.put]); (try simp only [sI9, sZ9, sS9])
 refine wp_region_any (by kernel_rfl) ?_
 replace hO := hO.drew
 have ix9 := Ix.mk [1, 2, 3, 5, 6, 7, 8]
 iterate 7 (refine wpAny_tk ix9 ?_; replace ix9 := ix9.tail; (first | go_big_quiet_skip | (go_big_quiet_want; (go_big_quiet_op; (first | go_big_quiet_on | ((refine ⟨_, fun _ _ => rfl, ?_⟩); go_big_quiet_on))))); (refine wpQuiet_nil ?_); (try simp only [Act.put]); (try simp only [sI9, sZ9, sS9]))
 clear ix9
 refine wpAny_1 0 ?_
 rotate_left 1
 all_goals
  refine wpOp_of_listL rfl ?_
  (first | refine ldNT ?_ | ((first | refine stNT hO ?_ | refine st1NT hO ?_); clear hO; intro wv hO) | (refine ap9T 9 hO ?_; clear hO; intro g9 c9 wv hO) | (refine ap9T 14 hO ?_; clear hO; intro g14 c14 wv hO) | ((with_reducible refine is_build ?_); (refine own_build0 (o := ⟨some 5, _, _, _, _, _⟩) hO (by rfl) rfl slice_Table ?_); clear hO; intro n5 wv hO) | ((with_reducible refine is_append ?_); (refine own_appendA (o := ⟨some 9, _, _, _, _, _⟩) hO rfl rfl slice_Table rfl rfl (src_table (hv.keep0 hO) (m := i) (by omega)) (cellsR_one' _) (fun _ => by repeat (first | exact UpdR.here | apply UpdR.there)) (by first | omega | (simp; omega)) (by unfold maxLen; first | omega | (simp; omega)) ?_); clear hO; intro g9 c9 wv hO) | ((with_reducible refine is_append ?_); (refine own_appendA (o := ⟨some 14, _, _, _, _, _⟩) hO rfl rfl slice_Table rfl rfl (src_part (hv.keep0 hO) (i := i + 1) (n := t.length - (i + 1)) (by omega)) (cellsR_one' _) (fun _ => by repeat (first | exact UpdR.here | apply UpdR.there)) (by first | omega | (simp; omega)) (by unfold maxLen; first | omega | (simp; omega)) ?_); clear hO; intro g14 c14 wv hO) | ((refine wpList_step (fun K hK => ?_)); go_simp; (first | ((refine hK _ _ ?_); clear hK K)))); (try simp only [Act.put]); (try simp only [sI9, sZ9, sS9])
  refine wpList_done (qk_intro ?_)
 refine wpAny_1 4 ?_
 rotate_left 1
 all_goals
  refine wpOp_of_listL rfl ?_
  (first | refine ldNT ?_ | ((first | refine stNT hO ?_ | refine st1NT hO ?_); clear hO; intro wv hO) | (refine ap9T 9 hO ?_; clear hO; intro g9 c9 wv hO) | (refine ap9T 14 hO ?_; clear hO; intro g14 c14 wv hO) | ((with_reducible refine is_build ?_); (refine own_build0 (o := ⟨some 5, _, _, _, _, _⟩) hO (by rfl) rfl slice_Table ?_); clear hO; intro n5 wv hO) | ((with_reducible refine is_append ?_); (refine own_appendA (o := ⟨some 9, _, _, _, _, _⟩) hO rfl rfl slice_Table rfl rfl (src_table (hv.keep0 hO) (m := i) (by omega)) (cellsR_one' _) (fun _ => by repeat (first | exact UpdR.here | apply UpdR.there)) (by first | omega | (simp; omega)) (by unfold maxLen; first | omega | (simp; omega)) ?_); clear hO; intro g9 c9 wv hO) | ((with_reducible refine is_append ?_); (refine own_appendA (o := ⟨some 14, _, _, _, _, _⟩) hO rfl rfl slice_Table rfl rfl (src_part (hv.keep0 hO) (i := i + 1) (n := t.length - (i + 1)) (by omega)) (cellsR_one' _) (fun _ => by repeat (first | exact UpdR.here | apply UpdR.there)) (by first | omega | (simp; omega)) (by unfold maxLen; first | omega | (simp; omega)) ?_); clear hO; intro g14 c14 wv hO) | ((refine wpList_step (fun K hK => ?_)); go_simp; (first | ((refine hK _ _ ?_); clear hK K)))); (try simp only [Act.put]); (try simp only [sI9, sZ9, sS9])
  refine wpList_done (qk_intro ?_)
 refine wpAny_1 9 ?_
 rotate_left 1
 all_goals
  refine wpOp_of_listL rfl ?_
  (first | refine ldNT ?_ | ((first | refine stNT hO ?_ | refine st1NT hO ?_); clear hO; intro wv hO) | (refine ap9T 9 hO ?_; clear hO; intro g9 c9 wv hO) | (refine ap9T 14 hO ?_; clear hO; intro g14 c14 wv hO) | ((with_reducible refine is_build ?_); (refine own_build0 (o := ⟨some 5, _, _, _, _, _⟩) hO (by rfl) rfl slice_Table ?_); clear hO; intro n5 wv hO) | ((with_reducible refine is_append ?_); (refine own_appendA (o := ⟨some 9, _, _, _, _, _⟩) hO rfl rfl slice_Table rfl rfl (src_table (hv.keep0 hO) (m := i) (by omega)) (cellsR_one' _) (fun _ => by repeat (first | exact UpdR.here | apply UpdR.there)) (by first | omega | (simp; omega)) (by unfold maxLen; first | omega | (simp; omega)) ?_); clear hO; intro g9 c9 wv hO) | ((with_reducible refine is_append ?_); (refine own_appendA (o := ⟨some 14, _, _, _, _, _⟩) hO rfl rfl slice_Table rfl rfl (src_part (hv.keep0 hO) (i := i + 1) (n := t.length - (i + 1)) (by omega)) (cellsR_one' _) (fun _ => by repeat (first | exact UpdR.here | apply UpdR.there)) (by first | omega | (simp; omega)) (by unfold maxLen; first | omega | (simp; omega)) ?_); clear hO; intro g14 c14 wv hO) | ((refine wpList_step (fun K hK => ?_)); go_simp; (first | ((refine hK _ _ ?_); clear hK K)))); (try simp only [Act.put]); (try simp only [sI9, sZ9, sS9])
  refine wpList_done (qk_intro ?_)
 refine wpAny_1 10 ?_
 rotate_left 1
 all_goals
  refine wpOp_of_listL rfl ?_
  (first | refine ldNT ?_ | ((first | refine stNT hO ?_ | refine st1NT hO ?_); clear hO; intro wv hO) | (refine ap9T 9 hO ?_; clear hO; intro g9 c9 wv hO) | (refine ap9T 14 hO ?_; clear hO; intro g14 c14 wv hO) | ((with_reducible refine is_build ?_); (refine own_build0 (o := ⟨some 5, _, _, _, _, _⟩) hO (by rfl) rfl slice_Table ?_); clear hO; intro n5 wv hO) | ((with_reducible refine is_append ?_); (refine own_appendA (o := ⟨some 9, _, _, _, _, _⟩) hO rfl rfl slice_Table rfl rfl (src_table (hv.keep0 hO) (m := i) (by omega)) (cellsR_one' _) (fun _ => by repeat (first | exact UpdR.here | apply UpdR.there)) (by first | omega | (simp; omega)) (by unfold maxLen; first | omega | (simp; omega)) ?_); clear hO; intro g9 c9 wv hO) | ((with_reducible refine is_append ?_); (refine own_appendA (o := ⟨some 14, _, _, _, _, _⟩) hO rfl rfl slice_Table rfl rfl (src_part (hv.keep0 hO) (i := i + 1) (n := t.length - (i + 1)) (by omega)) (cellsR_one' _) (fun _ => by repeat (first | exact UpdR.here | apply UpdR.there)) (by first | omega | (simp; omega)) (by unfold maxLen; first | omega | (simp; omega)) ?_); clear hO; intro g14 c14 wv hO) | ((refine wpList_step (fun K hK => ?_)); go_simp; (first | ((refine hK _ _ ?_); clear hK K)))); (try simp only [Act.put]); (try simp only [sI9, sZ9, sS9])
  refine wpList_done (qk_intro ?_)
 refine wpAny_done (by kernel_rfl) ?_ _
 rotate_left
 all_goals go_wp2_with fail
 all_goals
  go_ret
  simp only [Nat.zero_add, List.nil_append] at hO
  rw [E.out] at hO
  exact ⟨_, rfl, ⟨own_table hO List.mem_cons_self, own_new hO List.mem_cons_self⟩, hO.keep.below⟩
set_option maxHeartbeats 1000000 in
theorem rmeet_any (a b : Bx) (w : World) : Calls Tryz.prog 51 #[bv a, bv b] w fun e w' => e = .returned (.bool (meetB a b)) ∧ Below w.heap.size w w' := by
 have hO := own_start [] w
 have h1 := rintersect_any a b
 unfold meetB
 generalize interB a b = p at *
 go_enter Tryz.func51, Tryz.ntmps51
 go_wp2_with (first | refine ldNT ?_ | ((first | refine stNT hO ?_ | refine st1NT hO ?_); clear hO; intro wv hO) | (refine bx9 2 hO ?_; clear hO; intro n2 wv hO) | (refine bx9 3 hO ?_; clear hO; intro n3 wv hO) | (refine al9T 5 hO ?_; clear hO; intro n5 wv hO) | (go_at_call 63; (with_reducible refine (h1 _).mono ?_); rintro e wv ⟨rfl, hb9⟩; replace hO := hO.call hb9; clear hb9))
 go_ret
 exact ⟨rfl, hO.keep.below⟩
set_option maxHeartbeats 8000000 in
theorem roverlap_any {va vb : Value} {la lb : List Bx} (w : World) (hva : IsBoxes w va la) (hvb : IsBoxes w vb lb) (na : la.length ≤ 1000000000000) (nb : lb.length ≤ 1000000000000) :
  Calls Tryz.prog 52 #[va, vb] w fun e w' => e = .returned (.bool (commonF la lb)) ∧ Below w.heap.size w w' := by
 have hO := roS_arg2 hva hvb
 obtain ⟨a, c, rfl, ha⟩ := hva.view
 obtain ⟨b, d, rfl, hb⟩ := hvb.view
 clear hva hvb
 go_enter Tryz.func52, Tryz.ntmps52
 go_wp2_with (first | refine ldNT ?_ | ((first | refine stNT hO ?_ | refine st1NT hO ?_); clear hO; intro wv hO))
 go_loopw [5] (fun q wr => ∃ k : Nat, k ≤ la.length ∧ q = .int .i64 k ∧ commonF (la.take k) lb = false ∧ Own [] w [] [] (roS (.slice a la.length c) (cellsB la) ++ roS (.slice b lb.length d) (cellsB lb)) wr) (fun q _ => la.length - (intOf q).toNat)
 case atStart => exact ⟨0, by omega, rfl, rfl, hO⟩
 case round =>
  clear hO
  obtain ⟨k, hk, rfl, hE, hO⟩ := hrel
  have s1 : IntKind.i64.wrap ((k : Int) + 1) = (k : Int) + 1 := IntWalk.i64_in _ (by omega)
  by_cases hlt : k < la.length
  ·obtain ⟨g, o, rfl⟩ := ha (by omega)
   replace hO := hO.sub (S' := ⟨g, o, cellsB la⟩ :: roS (.slice b lb.length d) (cellsB lb)) (.refl _) (.refl _) (fun q hq => hq)
   have t1 := tk_box la hlt
   have HH := Lib.hid (fun (j : Nat) (hj : j < lb.length) (h : meetB la[k] lb[j] = true) => commonF_here hlt hj h)
   have HT := Lib.hid (commonF_take (b := lb) hlt hE)
   clear hE
   generalize la[k] = x at *
   go_wp2_with (first | refine ldNT ?_ | ((first | refine stNT hO ?_ | refine st1NT hO ?_); clear hO; intro wv hO))
   go_loopw [6] (fun q wr => ∃ j : Nat, j ≤ lb.length ∧ q = .int .i64 j ∧ (lb.take j).any (meetB x) = false ∧ Own [] w [] [] (⟨g, o, cellsB la⟩ :: roS (.slice b lb.length d) (cellsB lb)) wr) (fun q _ => lb.length - (intOf q).toNat)
   case atStart => exact ⟨0, by omega, rfl, rfl, hO⟩
   case round =>
    clear hO
    obtain ⟨j, hj, rfl, hF, hO⟩ := hrel
    have s2 : IntKind.i64.wrap ((j : Int) + 1) = (j : Int) + 1 := IntWalk.i64_in _ (by omega)
    by_cases hjl : j < lb.length
    ·obtain ⟨g2, o2, rfl⟩ := hb (by omega)
     simp only [roS] at hO
     have t2 := tk_box lb hjl
     have HH2 := Lib.hid (HH.out j hjl)
     have HT2 := Lib.hid (any_takeH (p := meetB x) hjl hF)
     clear hF
     generalize lb[j] = y at *
     have h1 := rmeet_any x y
     generalize meetB x y = m at *
     cases m
     ·go_wp2_with (first | refine ldNT ?_ | ((first | refine stNT hO ?_ | refine st1NT hO ?_); clear hO; intro wv hO))
      (try simp only [Act.put]); (refine own_quiet hO (by kernel_rfl) (by kernel_rfl) ?_; clear hO; (repeat (first | go_big_quiet_skip | (go_big_quiet_want; (first | ((with_reducible refine is_loadQ ?_); (first | (refine q_ldT (h := ?_))); (try simp only [Act.put]); (try simp only [sI9, sZ9, sS9]); go_big_quiet_on) | (go_big_quiet_op; (first | go_big_quiet_on | ((refine ⟨_, fun _ _ => rfl, ?_⟩); go_big_quiet_on) | go_big_quiet_call ((intro hq; go_at_call 51; exact q_call (h1 _) hq)))))))); (refine wpQuiet_nil ?_); intro wv hO)
      go_wp2_with (first | refine ldNT ?_ | ((first | refine stNT hO ?_ | refine st1NT hO ?_); clear hO; intro wv hO))
      go_roundw
      case rel => exact ⟨j + 1, by omega, by go_num, HT2.out (by trivial), hO⟩
      case measure => simp [intOf]; omega
     ·go_wp2_with (first | refine ldNT ?_ | ((first | refine stNT hO ?_ | refine st1NT hO ?_); clear hO; intro wv hO))
      (try simp only [Act.put]); (refine own_quiet hO (by kernel_rfl) (by kernel_rfl) ?_; clear hO; (repeat (first | go_big_quiet_skip | (go_big_quiet_want; (first | ((with_reducible refine is_loadQ ?_); (first | (refine q_ldT (h := ?_))); (try simp only [Act.put]); (try simp only [sI9, sZ9, sS9]); go_big_quiet_on) | (go_big_quiet_op; (first | go_big_quiet_on | ((refine ⟨_, fun _ _ => rfl, ?_⟩); go_big_quiet_on) | go_big_quiet_call ((intro hq; go_at_call 51; exact q_call (h1 _) hq)))))))); (refine wpQuiet_nil ?_); intro wv hO)
      go_wp2_with (first | refine ldNT ?_ | ((first | refine stNT hO ?_ | refine st1NT hO ?_); clear hO; intro wv hO))
      go_ret
      exact ⟨by rw [HH2.out (by trivial)]; rfl, hO.keep.below⟩
    ·obtain rfl : j = lb.length := by omega
     have HT3 := Lib.hid (HT.out hF)
     clear hF
     go_wp2_with (first | refine ldNT ?_ | ((first | refine stNT hO ?_ | refine st1NT hO ?_); clear hO; intro wv hO))
     go_roundw
     case rel => exact ⟨k + 1, by omega, by go_num, HT3.out, hO.sub (.refl _) (.refl _) (fun q hq => by simpa [roS] using hq)⟩
     case measure => simp [intOf]; omega
  ·obtain rfl : k = la.length := by omega
   rw [List.take_length] at hE
   have HE := Lib.hid hE
   clear hE
   go_wp2_with (first | refine ldNT ?_ | ((first | refine stNT hO ?_ | refine st1NT hO ?_); clear hO; intro wv hO))
   go_ret
   exact ⟨by rw [HE.out]; rfl, hO.keep.below⟩
set_option maxHeartbeats 8000000 in
theorem rdead_any {vt : Value} {t : List Rul} {i : Nat} (w : World) (hv : IsTable w vt t) (hl : t.length ≤ 1000000000000) (hi : i < t.length) :
  Calls Tryz.prog 33 #[vt, .int .i64 i] w (RetNums w (befT t[i].1 t i)) := by
 have hO := own_argR hv
 obtain ⟨a, c, rfl, ha⟩ := hv.view
 have hcap := hv.cap
 obtain ⟨g, o, rfl⟩ := ha (by omega)
 clear ha hv
 simp only [roS] at hO
 have t2 := tk_match t hi
 replace hO := hO.nilRow 3 1
 generalize t[i] = q0 at *
 obtain ⟨b, pb⟩ := q0
 dsimp only at t2
 go_enter Tryz.func33, Tryz.ntmps33
 go_wp2_with (first | refine ldNT ?_ | ((first | refine stNT hO ?_ | refine st1NT hO ?_); clear hO; intro wv hO) | (refine bl9T 25 hO ?_; clear hO; intro n25 wv hO) | (refine ap9T 26 hO ?_; clear hO; intro g26 c26 wv hO))
 go_loopw [5, 6] (fun v q wr => ∃ k : Nat, k ≤ i ∧ q = .int .i64 k ∧ Own [] w [] [⟨v, (befT b t k).length, ints (befT b t k), 3, 1⟩] [⟨g, o, cellsR t⟩] wr) (fun _ q _ => i - (intOf q).toNat)
 case atStart => exact ⟨0, by omega, rfl, hO⟩
 case round =>
  clear hO
  obtain ⟨k, hk, rfl, hO⟩ := hrel
  have s1 : IntKind.i64.wrap ((k : Int) + 1) = (k : Int) + 1 := IntWalk.i64_in _ (by omega)
  by_cases hlt : k < i
  ·have hkt : k < t.length := by omega
   have t1 := tk_match t hkt
   have hs := befT_succ hkt b
   have hn := befT_len b t k
   generalize t[k] = r at *
   obtain ⟨br, pr⟩ := r
   dsimp only at t1 hs
   have h1 := rmeet_any br b
   generalize meetB br b = m at *
   cases m
   ·rw [if_neg Bool.false_ne_true] at hs
    go_wp2_with (first | refine ldNT ?_ | ((first | refine stNT hO ?_ | refine st1NT hO ?_); clear hO; intro wv hO) | (refine bl9T 25 hO ?_; clear hO; intro n25 wv hO) | (refine ap9T 26 hO ?_; clear hO; intro g26 c26 wv hO))
    (try simp only [Act.put]); (refine own_quiet hO (by kernel_rfl) (by kernel_rfl) ?_; clear hO; (repeat (first | go_big_quiet_skip | (go_big_quiet_want; (first | ((with_reducible refine is_loadQ ?_); (first | (refine q_ldT (h := ?_))); (try simp only [Act.put]); (try simp only [sI9, sZ9, sS9]); go_big_quiet_on) | (go_big_quiet_op; (first | go_big_quiet_on | ((refine ⟨_, fun _ _ => rfl, ?_⟩); go_big_quiet_on) | go_big_quiet_call ((intro hq; go_at_call 51; exact q_call (h1 _) hq)))))))); (refine wpQuiet_nil ?_); intro wv hO)
    go_wp2_with (first | refine ldNT ?_ | ((first | refine stNT hO ?_ | refine st1NT hO ?_); clear hO; intro wv hO) | (refine bl9T 25 hO ?_; clear hO; intro n25 wv hO) | (refine ap9T 26 hO ?_; clear hO; intro g26 c26 wv hO))
    go_roundw
    case rel => exact ⟨k + 1, by omega, by go_num, by rw [hs]; exact hO⟩
    case measure => simp [intOf]; omega
   ·rw [if_pos rfl] at hs
    go_wp2_with (first | refine ldNT ?_ | ((first | refine stNT hO ?_ | refine st1NT hO ?_); clear hO; intro wv hO) | (refine bl9T 25 hO ?_; clear hO; intro n25 wv hO) | (refine ap9T 26 hO ?_; clear hO; intro g26 c26 wv hO))
    (try simp only [Act.put]); (refine own_quiet hO (by kernel_rfl) (by kernel_rfl) ?_; clear hO; (repeat (first | go_big_quiet_skip | (go_big_quiet_want; (first | ((with_reducible refine is_loadQ ?_); (first | (refine q_ldT (h := ?_))); (try simp only [Act.put]); (try simp only [sI9, sZ9, sS9]); go_big_quiet_on) | (go_big_quiet_op; (first | go_big_quiet_on | ((refine ⟨_, fun _ _ => rfl, ?_⟩); go_big_quiet_on) | go_big_quiet_call ((intro hq; go_at_call 51; exact q_call (h1 _) hq)))))))); (refine wpQuiet_nil ?_); intro wv hO)
    go_wp2_with (first | refine ldNT ?_ | ((first | refine stNT hO ?_ | refine st1NT hO ?_); clear hO; intro wv hO) | (refine bl9T 25 hO ?_; clear hO; intro n25 wv hO) | (refine ap9T 26 hO ?_; clear hO; intro g26 c26 wv hO) | ((with_reducible refine is_build ?_); (refine' own_buildP (o := ⟨some 25, _, _, _, _, _⟩) [.int .i64 k] hO (by rfl) rfl slice_Ints rfl rfl (by rfl) (by decide) (by decide) ?_); clear hO; intro n25 wv hO) | ((with_reducible refine is_append ?_); (refine own_append (o := ⟨some 26, _, _, _, _, _⟩) hO rfl rfl slice_Ints rfl rfl (by (repeat (first | exact List.mem_cons_self | refine List.mem_cons_of_mem _ ?_))) rfl (by omega) rfl (fun _ _ => by repeat (first | exact UpdR.here | apply UpdR.there)) (by first | omega | (simp; omega)) (by unfold maxLen; first | omega | (simp; omega)) ?_); clear hO; intro g26 c26 wv hO))
    go_roundw
    case rel =>
     refine ⟨k + 1, by omega, by go_num, ?_⟩
     rw [hs, List.length_append, ints_app]
     exact hO.sub (.cons _ (.refl _)) (.refl _) (fun _ h => h)
    case measure => simp [intOf]; omega
  ·obtain rfl : k = i := by omega
   go_wp2_with (first | refine ldNT ?_ | ((first | refine stNT hO ?_ | refine st1NT hO ?_); clear hO; intro wv hO) | (refine bl9T 25 hO ?_; clear hO; intro n25 wv hO) | (refine ap9T 26 hO ?_; clear hO; intro g26 c26 wv hO))
   go_ret
   exact ⟨_, rfl, ⟨hO.rowNums rfl List.mem_cons_self, own_new hO List.mem_cons_self⟩, hO.keep.below⟩
set_option maxHeartbeats 16000000 in
theorem rredundant_any {vt : Value} {t : List Rul} {e : List Bx} {i : Nat} (w : World) (hv : IsTable w vt t) (kt : okT t) (hl : t.length ≤ 20) (hi : i < t.length) (he0 : effF t i = some e) :
  Calls Tryz.prog 34 #[vt, .int .i64 i] w (NumPost w (heirN (woF t i) e i (t.length - 1 - i))) := by
 have hO := own_start [] w
 have h0 : ∀ w, IsTable w vt t → Calls Tryz.prog 26 #[vt, .int .i64 i] w (SetPost w (some e)) := fun w hv => he0 ▸ rEff_any w hv kt hl hi
 have h1 : ∀ w, IsTable w vt t → Calls Tryz.prog 28 #[vt, .int .i64 i] w (RetTable w (woF t i)) := fun w hv => rWithout_any w hv hi (by omega)
 have ne : e.length ≤ 1000000000000 := (effF_spec kt hi he0).1.le
 have hu : (woF t i).length = t.length - 1 := woF_length hi
 have ku := okT_wo kt i
 rw [← hu]
 have hiu : i ≤ (woF t i).length := by omega
 have hlu : (woF t i).length ≤ 20 := by omega
 clear hu kt hl hi he0
 generalize woF t i = u at *
 go_enter Tryz.func34, Tryz.ntmps34
 go_wp2_with (first | refine ldNT ?_ | ((first | refine stNT hO ?_ | refine st1NT hO ?_); clear hO; intro wv hO) | (refine bl9T 44 hO ?_; clear hO; intro n44 wv hO) | (refine ap9T 45 hO ?_; clear hO; intro g45 c45 wv hO) | (go_at_call 26; (with_reducible refine (h0 _ (hv.keep0 hO)).mono ?_); rintro e wv hpo; obtain ⟨v3, rfl, hv9, hn9, hb9⟩ := hpo.yes; have hf3 := hv9.form; replace hO := hO.gainB hb9 hv9 hn9; clear hb9 hpo hv9 hn9 h0) | (go_at_call 28; (with_reducible refine (h1 _ (hv.keep0 hO)).mono ?_); rintro e wv ⟨v5, rfl, ⟨hv9, hn9⟩, hb9⟩; have hf5 := hv9.form; obtain ⟨a5, c5, rfl, -⟩ := hv9.form.view; replace hO := hO.gainR hb9 hv9 hn9; clear hb9 hv9 hn9 h1))
 replace hO := hO.nilRow 3 1
 go_loopw [9, 10] (fun v q wr => ∃ (k : Nat) (l : List Int), i ≤ k ∧ k ≤ u.length ∧ q = .int .i64 k ∧ Hid (heirN u e i (k - i) = some l) ∧ Own [] w [] [⟨v, l.length, ints l, 3, 1⟩] (roS (.slice a5 u.length c5) (cellsR u) ++ roS v3 (cellsB e)) wr) (fun _ q _ => u.length - (intOf q).toNat)
 case atStart => exact ⟨i, [], by omega, hiu, rfl, Lib.hid (by rw [Nat.sub_self]; rfl), hO.sub (.refl _) (.refl _) (fun q hq => by simpa using hq)⟩
 case round =>
  clear hO
  obtain ⟨k, l, hik, hk, rfl, HE, hO⟩ := hrel
  have s1 : IntKind.i64.wrap ((k : Int) + 1) = (k : Int) + 1 := IntWalk.i64_in _ (by omega)
  by_cases hlt : k < u.length
  ·have hst := heirN_step hik HE.out
   have hn := heirN_len HE.out
   have h2 : ∀ w, IsTable w (.slice a5 u.length c5) u → Calls Tryz.prog 26 #[.slice a5 u.length c5, .int .i64 k] w (SetPost w (effF u k)) := fun w hv => rEff_any w hv ku hlu hlt
   have hS0 := fun s (hs : effF u k = some s) => (effF_spec ku hlt hs).1.le
   cases he : effF u k with
   | none =>
    rw [he] at h2 hst
    have HR := Lib.hid (heirN_up (m := u.length) hst (by omega))
    clear hst he HE hS0
    go_wp2_with (first | refine ldNT ?_ | ((first | refine stNT hO ?_ | refine st1NT hO ?_); clear hO; intro wv hO) | (refine bl9T 44 hO ?_; clear hO; intro n44 wv hO) | (refine ap9T 45 hO ?_; clear hO; intro g45 c45 wv hO) | (go_at_call 26; (with_reducible refine (h2 _ (hO.isRm hf5)).mono ?_); rintro e wv hpo; obtain ⟨rfl, hb9⟩ := hpo.no; replace hO := hO.call hb9; clear hb9 hpo))
    go_ret2
    exact ⟨_, by rw [HR.out]; rfl, by rw [HR.out]; exact nums_nil _, new_nilS _, hO.keep.below⟩
   | some s =>
    rw [he] at h2 hst
    have ns := hS0 s he
    have h3 := fun va vb w hva hvb => roverlap_any (va := va) (vb := vb) (la := e) (lb := s) w hva hvb ne ns
    clear he HE hS0
    dsimp only at hst
    generalize commonF e s = m at *
    cases m
    ·rw [if_neg Bool.false_ne_true] at hst
     have HS := Lib.hid hst
     clear hst
     go_wp2_with (first | refine ldNT ?_ | ((first | refine stNT hO ?_ | refine st1NT hO ?_); clear hO; intro wv hO) | (refine bl9T 44 hO ?_; clear hO; intro n44 wv hO) | (refine ap9T 45 hO ?_; clear hO; intro g45 c45 wv hO) | (go_at_call 26; (with_reducible refine (h2 _ (hO.isRm hf5)).mono ?_); rintro e wv hpo; obtain ⟨v6, rfl, hv9, hn9, hb9⟩ := hpo.yes; have hf6 := hv9.form; obtain ⟨a6, c6, rfl, -⟩ := hv9.form.view; replace hO := hO.gainB hb9 hv9 hn9; clear hn9 hb9 hpo hv9) | (go_at_call 52; (with_reducible refine (h3 _ _ _ (hO.isBm hf3) (hO.isBm hf6)).mono ?_); rintro e wv ⟨rfl, hb9⟩; replace hO := hO.call hb9; clear hb9))
     go_roundw
     case rel => exact ⟨k + 1, l, by omega, by omega, by go_num, HS, hO.sub (.refl _) (.refl _) (fun q hq => List.mem_append_right _ hq)⟩
     case measure => simp [intOf]; omega
    ·rw [if_pos rfl] at hst
     have HS := Lib.hid hst
     clear hst
     go_wp2_with (first | refine ldNT ?_ | ((first | refine stNT hO ?_ | refine st1NT hO ?_); clear hO; intro wv hO) | (refine bl9T 44 hO ?_; clear hO; intro n44 wv hO) | (refine ap9T 45 hO ?_; clear hO; intro g45 c45 wv hO) | (go_at_call 26; (with_reducible refine (h2 _ (hO.isRm hf5)).mono ?_); rintro e wv hpo; obtain ⟨v6, rfl, hv9, hn9, hb9⟩ := hpo.yes; have hf6 := hv9.form; obtain ⟨a6, c6, rfl, -⟩ := hv9.form.view; replace hO := hO.gainB hb9 hv9 hn9; clear hn9 hb9 hpo hv9) | (go_at_call 52; (with_reducible refine (h3 _ _ _ (hO.isBm hf3) (hO.isBm hf6)).mono ?_); rintro e wv ⟨rfl, hb9⟩; replace hO := hO.call hb9; clear hb9) | ((with_reducible refine is_build ?_); (refine' own_buildP (o := ⟨some 44, _, _, _, _, _⟩) [.int .i64 ((k : Int) + 1)] hO (by rfl) rfl slice_Ints rfl rfl (by rfl) (by decide) (by decide) ?_); clear hO; intro n44 wv hO) | ((with_reducible refine is_append ?_); (refine own_append (o := ⟨some 45, _, _, _, _, _⟩) hO rfl rfl slice_Ints rfl rfl (by (repeat (first | exact List.mem_cons_self | refine List.mem_cons_of_mem _ ?_))) rfl (by omega) rfl (fun _ _ => by repeat (first | exact UpdR.here | apply UpdR.there)) (by first | omega | (simp; omega)) (by unfold maxLen; first | omega | (simp; omega)) ?_); clear hO; intro g45 c45 wv hO))
     go_roundw
     case rel =>
      refine ⟨k + 1, l ++ [((k + 1 : Nat) : Int)], by omega, by omega, by go_num, HS, ?_⟩
      rw [List.length_append, ints_app]
      exact hO.sub (.cons _ (.refl _)) (.refl _) (fun q hq => List.mem_append_right _ hq)
     case measure => simp [intOf]; omega
  ·obtain rfl : k = u.length := by omega
   have HR := HE
   clear HE
   go_wp2_with (first | refine ldNT ?_ | ((first | refine stNT hO ?_ | refine st1NT hO ?_); clear hO; intro wv hO) | (refine bl9T 44 hO ?_; clear hO; intro n44 wv hO) | (refine ap9T 45 hO ?_; clear hO; intro g45 c45 wv hO))
   go_ret2
   exact ⟨_, by rw [HR.out]; rfl, by rw [HR.out]; exact hO.rowNums rfl List.mem_cons_self, own_new hO List.mem_cons_self, hO.keep.below⟩
set_option maxHeartbeats 16000000 in
theorem rRemovable_any {vt : Value} {t : List Rul} {i : Int} (w : World) (hv : IsTable w vt t) (kt : okT t) (hl : t.length ≤ 20) :
  Calls Tryz.prog 12 #[vt, .int .i64 i] w fun e w' => e = .returned (.tuple #[.bool (rmP t i).1, .int .i64 (rmP t i).2]) ∧ Below w.heap.size w w' := by
 have hO := own_start [] w
 have h0 : ∀ w, IsTable w vt t → Calls Tryz.prog 25 #[vt] w fun e w' => e = .returned (.bool (validT t)) ∧ Below w.heap.size w w' := fun w hv => rValid8_any w hv (by omega)
 obtain ⟨a, c, rfl, -⟩ := hv.view
 unfold rmP
 cases hV : validT t with
 | false =>
  rw [hV] at h0
  rw [if_neg Bool.false_ne_true]
  clear hV
  go_enter Tryz.func12, Tryz.ntmps12
  go_wp2_with (first | refine ldNT ?_ | ((first | refine stNT hO ?_ | refine st1NT hO ?_); clear hO; intro wv hO) | (go_at_call 25; (with_reducible refine (h0 _ (hv.keep0 hO)).mono ?_); rintro e wv ⟨rfl, hb9⟩; replace hO := hO.call hb9; clear hb9; clear h0))
  go_ret2
  exact ⟨rfl, hO.keep.below⟩
 | true =>
  rw [hV] at h0
  rw [if_pos rfl]
  clear hV
  by_cases hlo : i < 0
  ·rw [if_pos (.inl hlo)]
   have g1 : decide (i < 0) = true := decide_eq_true hlo
   go_enter Tryz.func12, Tryz.ntmps12
   go_wp2_with (first | refine ldNT ?_ | ((first | refine stNT hO ?_ | refine st1NT hO ?_); clear hO; intro wv hO) | (go_at_call 25; (with_reducible refine (h0 _ (hv.keep0 hO)).mono ?_); rintro e wv ⟨rfl, hb9⟩; replace hO := hO.call hb9; clear hb9; clear h0))
   go_ret2
   exact ⟨rfl, hO.keep.below⟩
  ·have g1 : decide (i < 0) = false := decide_eq_false hlo
   by_cases hhi : (t.length : Int) ≤ i
   ·rw [if_pos (.inr hhi)]
    have g2 : decide ((t.length : Int) ≤ i) = true := decide_eq_true hhi
    go_enter Tryz.func12, Tryz.ntmps12
    go_wp2_with (first | refine ldNT ?_ | ((first | refine stNT hO ?_ | refine st1NT hO ?_); clear hO; intro wv hO) | (go_at_call 25; (with_reducible refine (h0 _ (hv.keep0 hO)).mono ?_); rintro e wv ⟨rfl, hb9⟩; replace hO := hO.call hb9; clear hb9; clear h0))
    go_ret2
    exact ⟨rfl, hO.keep.below⟩
   ·rw [if_neg (by omega)]
    obtain ⟨k, rfl⟩ : ∃ k : Nat, i = (k : Int) := ⟨i.toNat, by omega⟩
    have g2 : decide ((t.length : Int) ≤ (k : Int)) = false := decide_eq_false hhi
    have hi : k < t.length := by omega
    rw [Int.toNat_natCast]
    have h1 : ∀ w, IsTable w (.slice a t.length c) t → Calls Tryz.prog 26 #[.slice a t.length c, .int .i64 k] w (SetPost w (effF t k)) := fun w hv => rEff_any w hv kt hl hi
    have h2 : ∀ w, IsTable w (.slice a t.length c) t → Calls Tryz.prog 27 #[.slice a t.length c] w (SetPost w (permF t)) := fun w hv => rPermitted_any w hv kt hl
    have h3 : ∀ w, IsTable w (.slice a t.length c) t → Calls Tryz.prog 28 #[.slice a t.length c, .int .i64 k] w (RetTable w (woF t k)) := fun w hv => rWithout_any w hv hi (by omega)
    have h4 : ∀ v w, IsTable w v (woF t k) → Calls Tryz.prog 27 #[v] w (SetPost w (permF (woF t k))) := fun v w hv => rPermitted_any w hv (okT_wo kt k) (by rw [woF_length hi]; omega)
    have hS0 := fun p hp => (permF_spec (t := t) (s := p) kt hp).1.le
    have hS1 := fun q hq => (permF_spec (t := woF t k) (s := q) (okT_wo kt k) hq).1.le
    cases he : effF t k with
    | none =>
     rw [he] at h1
     rw [stF_none he]
     clear he h2 h3 h4 hS0 hS1
     go_enter Tryz.func12, Tryz.ntmps12
     go_wp2_with (first | refine ldNT ?_ | ((first | refine stNT hO ?_ | refine st1NT hO ?_); clear hO; intro wv hO) | (go_at_call 25; (with_reducible refine (h0 _ (hv.keep0 hO)).mono ?_); rintro e wv ⟨rfl, hb9⟩; replace hO := hO.call hb9; clear hb9; clear h0) | (go_at_call 26; (with_reducible refine (h1 _ (hv.keep0 hO)).mono ?_); rintro e wv hpo; obtain ⟨rfl, hb9⟩ := hpo.no; replace hO := hO.call hb9; clear hb9 hpo))
     go_ret2
     exact ⟨rfl, hO.keep.below⟩
    | some e =>
     rw [he] at h1
     cases h9 : e.isEmpty with
     | true =>
      obtain rfl : e = [] := List.isEmpty_iff.1 h9
      rw [stF_dead he]
      clear he h9 h2 h3 h4 hS0 hS1
      go_enter Tryz.func12, Tryz.ntmps12
      go_wp2_with (first | refine ldNT ?_ | ((first | refine stNT hO ?_ | refine st1NT hO ?_); clear hO; intro wv hO) | (go_at_call 25; (with_reducible refine (h0 _ (hv.keep0 hO)).mono ?_); rintro e wv ⟨rfl, hb9⟩; replace hO := hO.call hb9; clear hb9; clear h0) | (go_at_call 26; (with_reducible refine (h1 _ (hv.keep0 hO)).mono ?_); rintro e wv hpo; obtain ⟨v3, rfl, hv9, hn9, hb9⟩ := hpo.yes; have hf3 := hv9.form; obtain ⟨a3, c3, rfl, -⟩ := hv9.form.view; replace hO := hO.gainB hb9 hv9 hn9; clear hb9 hpo hv9))
      go_ret2
      exact ⟨rfl, hO.keep.below⟩
     | false =>
      have hn : 0 < e.length := List.length_pos_iff.2 (fun e => by rw [e] at h9; cases h9)
      have g3 : ((e.length : Int) == 0) = false := beq_eq_false_iff_ne.2 (by omega)
      clear hn
      cases hp : permF t with
      | none =>
       rw [hp] at h2
       rw [stF_perm he h9 hp]
       clear he h9 hp h3 h4 hS0 hS1
       go_enter Tryz.func12, Tryz.ntmps12
       go_wp2_with (first | refine ldNT ?_ | ((first | refine stNT hO ?_ | refine st1NT hO ?_); clear hO; intro wv hO) | (go_at_call 25; (with_reducible refine (h0 _ (hv.keep0 hO)).mono ?_); rintro e wv ⟨rfl, hb9⟩; replace hO := hO.call hb9; clear hb9; clear h0) | (go_at_call 26; (with_reducible refine (h1 _ (hv.keep0 hO)).mono ?_); rintro e wv hpo; obtain ⟨v3, rfl, hv9, hn9, hb9⟩ := hpo.yes; have hf3 := hv9.form; obtain ⟨a3, c3, rfl, -⟩ := hv9.form.view; replace hO := hO.gainB hb9 hv9 hn9; clear hb9 hpo hv9) | (go_at_call 27; (with_reducible refine (h2 _ (hv.keep0 hO)).mono ?_); rintro e wv hpo; obtain ⟨rfl, hb9⟩ := hpo.no; replace hO := hO.call hb9; clear hb9 hpo))
       go_ret2
       exact ⟨rfl, hO.keep.below⟩
      | some p =>
       rw [hp] at h2
       have np := hS0 p hp
       cases hq : permF (woF t k) with
       | none =>
        rw [hq] at h4
        rw [stF_wo he h9 hp hq]
        clear he h9 hp hq np hS0 hS1
        generalize woF t k = u at *
        go_enter Tryz.func12, Tryz.ntmps12
        go_wp2_with (first | refine ldNT ?_ | ((first | refine stNT hO ?_ | refine st1NT hO ?_); clear hO; intro wv hO) | (go_at_call 25; (with_reducible refine (h0 _ (hv.keep0 hO)).mono ?_); rintro e wv ⟨rfl, hb9⟩; replace hO := hO.call hb9; clear hb9; clear h0) | (go_at_call 26; (with_reducible refine (h1 _ (hv.keep0 hO)).mono ?_); rintro e wv hpo; obtain ⟨v3, rfl, hv9, hn9, hb9⟩ := hpo.yes; have hf3 := hv9.form; obtain ⟨a3, c3, rfl, -⟩ := hv9.form.view; replace hO := hO.gainB hb9 hv9 hn9; clear hb9 hpo hv9) | (go_at_call 27; (with_reducible refine (h2 _ (hv.keep0 hO)).mono ?_); rintro e wv hpo; obtain ⟨v4, rfl, hv9, hn9, hb9⟩ := hpo.yes; have hf4 := hv9.form; obtain ⟨a4, c4, rfl, -⟩ := hv9.form.view; replace hO := hO.gainB hb9 hv9 hn9; clear hb9 hpo hv9; clear h2) | (go_at_call 28; (with_reducible refine (h3 _ (hv.keep0 hO)).mono ?_); rintro e wv ⟨v5, rfl, ⟨hv9, hn9⟩, hb9⟩; have hf5 := hv9.form; replace hO := hO.gainR hb9 hv9 hn9; clear hb9 hv9 h3) | (go_at_call 27; (with_reducible refine (h4 _ _ (hO.isRm hf5)).mono ?_); rintro e wv hpo; obtain ⟨rfl, hb9⟩ := hpo.no; replace hO := hO.call hb9; clear hb9 hpo))
        go_ret2
        exact ⟨rfl, hO.keep.below⟩
       | some q =>
        rw [hq] at h4
        rw [stF_some he h9 hp hq]
        have nq := hS1 q hq
        clear he h9 hp hq hS0 hS1
        generalize woF t k = u at *
        have h5 := fun va vb w ha hb => rsame4g_any va vb p q w ha hb (by omega) (by omega)
        generalize decide (p = q) = r at *
        go_enter Tryz.func12, Tryz.ntmps12
        go_wp2_with (first | refine ldNT ?_ | ((first | refine stNT hO ?_ | refine st1NT hO ?_); clear hO; intro wv hO) | (go_at_call 25; (with_reducible refine (h0 _ (hv.keep0 hO)).mono ?_); rintro e wv ⟨rfl, hb9⟩; replace hO := hO.call hb9; clear hb9; clear h0) | (go_at_call 26; (with_reducible refine (h1 _ (hv.keep0 hO)).mono ?_); rintro e wv hpo; obtain ⟨v3, rfl, hv9, hn9, hb9⟩ := hpo.yes; have hf3 := hv9.form; obtain ⟨a3, c3, rfl, -⟩ := hv9.form.view; replace hO := hO.gainB hb9 hv9 hn9; clear hb9 hpo hv9) | (go_at_call 27; (with_reducible refine (h2 _ (hv.keep0 hO)).mono ?_); rintro e wv hpo; obtain ⟨v4, rfl, hv9, hn9, hb9⟩ := hpo.yes; have hf4 := hv9.form; obtain ⟨a4, c4, rfl, -⟩ := hv9.form.view; replace hO := hO.gainB hb9 hv9 hn9; clear hb9 hpo hv9; clear h2) | (go_at_call 28; (with_reducible refine (h3 _ (hv.keep0 hO)).mono ?_); rintro e wv ⟨v5, rfl, ⟨hv9, hn9⟩, hb9⟩; have hf5 := hv9.form; replace hO := hO.gainR hb9 hv9 hn9; clear hb9 hv9 h3) | (go_at_call 27; (with_reducible refine (h4 _ _ (hO.isRm hf5)).mono ?_); rintro e wv hpo; obtain ⟨v6, rfl, hv9, hn9, hb9⟩ := hpo.yes; have hf6 := hv9.form; obtain ⟨a6, c6, rfl, -⟩ := hv9.form.view; replace hO := hO.gainB hb9 hv9 hn9; clear hb9 hpo hv9) | (go_at_call 29; (with_reducible refine (h5 _ _ _ (hO.isBm hf4) (hO.isBm hf6)).mono ?_); rintro e wv ⟨rfl, hb9⟩; replace hO := hO.call hb9; clear hb9))
        go_ret2
        exact ⟨rfl, hO.keep.below⟩
end Go.Proofs.YtjoionnnpjajmaaGreatDoor
