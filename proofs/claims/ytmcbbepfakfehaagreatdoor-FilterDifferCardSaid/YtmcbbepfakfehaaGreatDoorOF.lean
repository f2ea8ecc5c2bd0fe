/- The tape: Table. -/
import Derived.Test.YtmcbbepfakfehaaGreatDoorOC
import Derived.Test.YtmcbbepfakfehaaGreatDoorMB
namespace Go.Proofs.YtmcbbepfakfehaaGreatDoor
open Go.RowKit
set_option maxRecDepth 100000
set_option maxHeartbeats 4000000 in
theorem ttable_any {w : World} {n : Nat} {sl : Value} {zs : List Int} {i : Nat} (m : Int) (wild : Bool) (hZ : ZsOk sl zs) (hT : TapeIn w n sl zs i) (h0 : 0 ≤ m) (hm : m ≤ 50) :
  Calls Tryz.prog 6 #[.pointer (some ⟨n, 0, none⟩), .int .i64 m, .bool wild] w (TPost w n sl zs (fun v w' => ∃ t : List Rul, IsTable w' v t ∧ NewFrom w v ∧ okT t ∧ t.length ≤ m)) := by
 have hO := own_tape hT
 go_enter Tryz.func6, Tryz.ntmps6
 go_wp2_with (first | ((with_reducible refine is_load ?_); refine own_ldT (h := ?_)) | ((with_reducible refine is_store ?_); (first | refine own_stRT (hO := hO) (h := ?_) | refine own_st1T (hO := hO) (h := ?_)); clear hO; intro wv hO) | ((with_reducible refine is_build ?_); (first | (refine' own_build1 (o := ⟨some 29, _, _, _, _, _⟩) hO (by rfl) rfl rfl ?hu ?hf ?_; (case hu => (with_reducible (first | exact Tryz.underlying34 | exact und_Set | exact und_Groups | exact und_Ranges | exact und_Table))); (case hf => kernel_rfl); clear hO; intro n29 wv hO))) | ((with_reducible refine is_append ?_); refine own_apT (o := ⟨some 30, _, _, _, _, _⟩) (hO := hO) (h := ?_); clear hO; intro g30 c30 wv hO) | (go_at_call 15; (with_reducible refine (tboxes_any m wild hZ (hO.tapeIn (by (repeat (first | exact List.mem_cons_self | refine List.mem_cons_of_mem _ ?_))) (by (intro s hs; repeat (first | exact hs | exact List.mem_append_left _ hs | apply List.mem_append_right | apply List.mem_cons_of_mem))) hT.le) h0 (by omega)).mono ?_); rintro e wv ⟨va, i1, rfl, ⟨la, hv9, hn9, ka, na, -⟩, hk9, hT1⟩; have hoff9 := off_of_new hO hn9; replace hO := hO.after (by (repeat (first | exact Upd.here | apply Upd.there))) hk9 hT1.blk; replace hT := hT1; clear hT1 hk9; obtain ⟨aa, ca, rfl, hla, hO⟩ := own_offS hO ⟨hv9, hoff9⟩; clear hv9 hn9 hoff9))
 replace hO := hO.nilRow 53 11
 go_loopw [7, 9] (fun v q wr => ∃ (k : Nat) (t : List Rul) (i : Nat), k ≤ la.length ∧ t.length = k ∧ q = .int .i64 k ∧ okT t ∧ i ≤ zs.length ∧ Own [n] w [⟨n, tcs sl i, 45⟩] [⟨v, t.length, cellsR t, 53, 11⟩] (roS (.slice aa la.length ca) (cellsB la) ++ roS sl (ints zs)) wr) (fun _ q _ => la.length - (intOf q).toNat)
 case atStart => exact ⟨0, [], i1, by simp, rfl, rfl, (fun r hr => by cases hr), hT.le, hO⟩
 case round =>
  clear hO hT
  obtain ⟨k, t, i, hk, rfl, rfl, kt, hi, hO⟩ := hrel
  by_cases hlt : t.length < la.length
  ·obtain ⟨g, o, rfl⟩ := hla (by omega)
   replace hO := hO.sub (S' := ⟨g, o, cellsB la⟩ :: roS sl (ints zs)) (.refl _) (.refl _) (fun q hq => hq)
   have hT := hO.tapeIn List.mem_cons_self (fun q hq => List.mem_cons_of_mem _ hq) hi
   have t1 := tk_box la hlt
   have kb := ka la[t.length] (List.getElem_mem hlt)
   generalize la[t.length] = b at *
   replace t1 : List.take (([.int .u32 b.r0.lo, .int .u32 b.r0.hi, .int .u32 b.r1.lo, .int .u32 b.r1.hi, .int .u32 b.r2.lo, .int .u32 b.r2.hi, .int .u32 b.r3.lo, .int .u32 b.r3.hi, .int .u32 b.r4.lo, .int .u32 b.r4.hi] : List Value)).length (List.drop (t.length * 10) (cellsB la)) = ([.int .u32 b.r0.lo, .int .u32 b.r0.hi, .int .u32 b.r1.lo, .int .u32 b.r1.hi, .int .u32 b.r2.lo, .int .u32 b.r2.hi, .int .u32 b.r3.lo, .int .u32 b.r3.hi, .int .u32 b.r4.lo, .int .u32 b.r4.hi] : List Value) := t1
   go_wp2_with (first | ((with_reducible refine is_load ?_); refine own_ldT (h := ?_)) | ((with_reducible refine is_store ?_); (first | refine own_stRT (hO := hO) (h := ?_) | refine own_st1T (hO := hO) (h := ?_)); clear hO; intro wv hO) | ((with_reducible refine is_build ?_); (first | (refine' own_build1 (o := ⟨some 29, _, _, _, _, _⟩) hO (by rfl) rfl rfl ?hu ?hf ?_; (case hu => (with_reducible (first | exact Tryz.underlying34 | exact und_Set | exact und_Groups | exact und_Ranges | exact und_Table))); (case hf => kernel_rfl); clear hO; intro n29 wv hO))) | ((with_reducible refine is_append ?_); refine own_apT (o := ⟨some 30, _, _, _, _, _⟩) (hO := hO) (h := ?_); clear hO; intro g30 c30 wv hO))
   (try simp only [Act.put]); (try simp only [List.setIfInBounds_toArray, List.set_cons_zero, List.set_cons_succ])
   refine wp_region_any (by kernel_rfl) ?_
   replace hO := hO.drew
   have ix9 := Ix.mk [0, 1, 2, 3, 5]
   iterate 5 (refine wpAny_tk ix9 ?_; replace ix9 := ix9.tail; (first | go_big_quiet_skip | (go_big_quiet_want; (go_big_quiet_op; (first | go_big_quiet_on | ((refine ⟨_, fun _ _ => rfl, ?_⟩); go_big_quiet_on))))); (refine wpQuiet_nil ?_); (try simp only [Act.put]); (try simp only [List.setIfInBounds_toArray, List.set_cons_zero, List.set_cons_succ]))
   clear ix9
   refine wpAny_all (rs := [4, 6]) (by kernel_rfl) (by simp) (ord_cons ?_ (ord_cons ?_ ord_nil))
   rotate_left 2
   all_goals
    refine wpOp_of_listL rfl ?_
    (first | ((with_reducible refine is_load ?_); refine own_ldT (h := ?_)) | ((with_reducible refine is_store ?_); (first | refine own_stRT (hO := hO) (h := ?_) | refine own_st1T (hO := hO) (h := ?_)); clear hO; intro wv hO) | ((with_reducible refine is_build ?_); (first | (refine' own_build1 (o := ⟨some 29, _, _, _, _, _⟩) hO (by rfl) rfl rfl ?hu ?hf ?_; (case hu => (with_reducible (first | exact Tryz.underlying34 | exact und_Set | exact und_Groups | exact und_Ranges | exact und_Table))); (case hf => kernel_rfl); clear hO; intro n29 wv hO))) | ((with_reducible refine is_append ?_); refine own_apT (o := ⟨some 30, _, _, _, _, _⟩) (hO := hO) (h := ?_); clear hO; intro g30 c30 wv hO) | ((refine wpList_step (fun K hK => ?_)); go_simp; (first | ((refine hK _ _ ?_); clear hK K) | ((first | (go_at_call 5; (with_reducible refine (next_pos 3 hZ (hO.tapeIn (by (repeat (first | exact List.mem_cons_self | refine List.mem_cons_of_mem _ ?_))) (by (intro s hs; repeat (first | exact hs | exact List.mem_append_left _ hs | apply List.mem_append_right | apply List.mem_cons_of_mem))) hT.le) (by omega) (by omega)).mono ?_); rintro e wv ⟨v, i1, rfl, ⟨r9, rfl, hr0, hr1⟩, hk9, hT1⟩; replace hO := hO.after (by (repeat (first | exact Upd.here | apply Upd.there))) hk9 hT1.blk; replace hT := hT1; clear hT1 hk9)); (try simp only []); (refine hK _ _ ?_); clear hK K)))); (try simp only [Act.put]); (try simp only [List.setIfInBounds_toArray, List.set_cons_zero, List.set_cons_succ])
    refine wpList_done (qk_intro ?_)
   refine wpAny_all (rs := [6]) (by kernel_rfl) (by simp) (ord_cons ?_ ord_nil)
   rotate_left 1
   refine wpAny_tk (Ix.mk [7]) ?_
   (first | go_big_quiet_skip | (go_big_quiet_want; (go_big_quiet_op; (first | go_big_quiet_on | ((refine ⟨_, fun _ _ => rfl, ?_⟩); go_big_quiet_on))))); (refine wpQuiet_nil ?_); (try simp only [Act.put]); (try simp only [List.setIfInBounds_toArray, List.set_cons_zero, List.set_cons_succ])
   refine wpAny_all (rs := [4]) (by kernel_rfl) (by simp) (ord_cons ?_ ord_nil)
   rotate_left 1
   all_goals
    refine wpOp_of_listL rfl ?_
    (first | ((with_reducible refine is_load ?_); refine own_ldT (h := ?_)) | ((with_reducible refine is_store ?_); (first | refine own_stRT (hO := hO) (h := ?_) | refine own_st1T (hO := hO) (h := ?_)); clear hO; intro wv hO) | ((with_reducible refine is_build ?_); (first | (refine' own_build1 (o := ⟨some 29, _, _, _, _, _⟩) hO (by rfl) rfl rfl ?hu ?hf ?_; (case hu => (with_reducible (first | exact Tryz.underlying34 | exact und_Set | exact und_Groups | exact und_Ranges | exact und_Table))); (case hf => kernel_rfl); clear hO; intro n29 wv hO))) | ((with_reducible refine is_append ?_); refine own_apT (o := ⟨some 30, _, _, _, _, _⟩) (hO := hO) (h := ?_); clear hO; intro g30 c30 wv hO) | ((refine wpList_step (fun K hK => ?_)); go_simp; (first | ((refine hK _ _ ?_); clear hK K) | ((first | (go_at_call 5; (with_reducible refine (next_pos 3 hZ (hO.tapeIn (by (repeat (first | exact List.mem_cons_self | refine List.mem_cons_of_mem _ ?_))) (by (intro s hs; repeat (first | exact hs | exact List.mem_append_left _ hs | apply List.mem_append_right | apply List.mem_cons_of_mem))) hT.le) (by omega) (by omega)).mono ?_); rintro e wv ⟨v, i1, rfl, ⟨r9, rfl, hr0, hr1⟩, hk9, hT1⟩; replace hO := hO.after (by (repeat (first | exact Upd.here | apply Upd.there))) hk9 hT1.blk; replace hT := hT1; clear hT1 hk9)); (try simp only []); (refine hK _ _ ?_); clear hK K)))); (try simp only [Act.put]); (try simp only [List.setIfInBounds_toArray, List.set_cons_zero, List.set_cons_succ])
    refine wpList_done (qk_intro ?_)
   have ix9 := Ix.mk [7, 8]
   iterate 2 (refine wpAny_tk ix9 ?_; replace ix9 := ix9.tail; (first | go_big_quiet_skip | (go_big_quiet_want; (go_big_quiet_op; (first | go_big_quiet_on | ((refine ⟨_, fun _ _ => rfl, ?_⟩); go_big_quiet_on))))); (refine wpQuiet_nil ?_); (try simp only [Act.put]); (try simp only [List.setIfInBounds_toArray, List.set_cons_zero, List.set_cons_succ]))
   clear ix9
   refine wpAny_all (rs := [9]) (by kernel_rfl) (by simp) (ord_cons ?_ ord_nil)
   rotate_left 1
   refine wpAny_tk (Ix.mk [8]) ?_
   (first | go_big_quiet_skip | (go_big_quiet_want; (go_big_quiet_op; (first | go_big_quiet_on | ((refine ⟨_, fun _ _ => rfl, ?_⟩); go_big_quiet_on))))); (refine wpQuiet_nil ?_); (try simp only [Act.put]); (try simp only [List.setIfInBounds_toArray, List.set_cons_zero, List.set_cons_succ])
   refine wpAny_all (rs := [9]) (by kernel_rfl) (by simp) (ord_cons ?_ ord_nil)
   rotate_left 1
   all_goals
    refine wpOp_of_listL rfl ?_
    (first | ((with_reducible refine is_load ?_); refine own_ldT (h := ?_)) | ((with_reducible refine is_store ?_); (first | refine own_stRT (hO := hO) (h := ?_) | refine own_st1T (hO := hO) (h := ?_)); clear hO; intro wv hO) | ((with_reducible refine is_build ?_); (first | (refine' own_build1 (o := ⟨some 29, _, _, _, _, _⟩) hO (by rfl) rfl rfl ?hu ?hf ?_; (case hu => (with_reducible (first | exact Tryz.underlying34 | exact und_Set | exact und_Groups | exact und_Ranges | exact und_Table))); (case hf => kernel_rfl); clear hO; intro n29 wv hO))) | ((with_reducible refine is_append ?_); refine own_apT (o := ⟨some 30, _, _, _, _, _⟩) (hO := hO) (h := ?_); clear hO; intro g30 c30 wv hO) | ((refine wpList_step (fun K hK => ?_)); go_simp; (first | ((refine hK _ _ ?_); clear hK K) | ((first | (go_at_call 5; (with_reducible refine (next_pos 3 hZ (hO.tapeIn (by (repeat (first | exact List.mem_cons_self | refine List.mem_cons_of_mem _ ?_))) (by (intro s hs; repeat (first | exact hs | exact List.mem_append_left _ hs | apply List.mem_append_right | apply List.mem_cons_of_mem))) hT.le) (by omega) (by omega)).mono ?_); rintro e wv ⟨v, i1, rfl, ⟨r9, rfl, hr0, hr1⟩, hk9, hT1⟩; replace hO := hO.after (by (repeat (first | exact Upd.here | apply Upd.there))) hk9 hT1.blk; replace hT := hT1; clear hT1 hk9)); (try simp only []); (refine hK _ _ ?_); clear hK K)))); (try simp only [Act.put]); (try simp only [List.setIfInBounds_toArray, List.set_cons_zero, List.set_cons_succ])
    refine wpList_done (qk_intro ?_)
   refine wpAny_all (rs := [10]) (by kernel_rfl) (by simp) (ord_cons ?_ ord_nil)
   rotate_left 1
   refine wpAny_all (rs := [10]) (by kernel_rfl) (by simp) (ord_cons ?_ ord_nil)
   rotate_left 1
   all_goals
    refine wpOp_of_listL rfl ?_
    (first | ((with_reducible refine is_load ?_); refine own_ldT (h := ?_)) | ((with_reducible refine is_store ?_); (first | refine own_stRT (hO := hO) (h := ?_) | refine own_st1T (hO := hO) (h := ?_)); clear hO; intro wv hO) | ((with_reducible refine is_build ?_); (first | (refine' own_build1 (o := ⟨some 29, _, _, _, _, _⟩) hO (by rfl) rfl rfl ?hu ?hf ?_; (case hu => (with_reducible (first | exact Tryz.underlying34 | exact und_Set | exact und_Groups | exact und_Ranges | exact und_Table))); (case hf => kernel_rfl); clear hO; intro n29 wv hO))) | ((with_reducible refine is_append ?_); refine own_apT (o := ⟨some 30, _, _, _, _, _⟩) (hO := hO) (h := ?_); clear hO; intro g30 c30 wv hO) | ((refine wpList_step (fun K hK => ?_)); go_simp; (first | ((refine hK _ _ ?_); clear hK K) | ((first | (go_at_call 5; (with_reducible refine (next_pos 3 hZ (hO.tapeIn (by (repeat (first | exact List.mem_cons_self | refine List.mem_cons_of_mem _ ?_))) (by (intro s hs; repeat (first | exact hs | exact List.mem_append_left _ hs | apply List.mem_append_right | apply List.mem_cons_of_mem))) hT.le) (by omega) (by omega)).mono ?_); rintro e wv ⟨v, i1, rfl, ⟨r9, rfl, hr0, hr1⟩, hk9, hT1⟩; replace hO := hO.after (by (repeat (first | exact Upd.here | apply Upd.there))) hk9 hT1.blk; replace hT := hT1; clear hT1 hk9)); (try simp only []); (refine hK _ _ ?_); clear hK K)))); (try simp only [Act.put]); (try simp only [List.setIfInBounds_toArray, List.set_cons_zero, List.set_cons_succ])
    refine wpList_done (qk_intro ?_)
   refine wpAny_all (rs := [11]) (by kernel_rfl) (by simp) (ord_cons ?_ ord_nil)
   rotate_left 1
   refine wpAny_all (rs := [11]) (by kernel_rfl) (by simp) (ord_cons ?_ ord_nil)
   rotate_left 1
   all_goals
    refine wpOp_of_listL rfl ?_
    (first | ((with_reducible refine is_load ?_); refine own_ldT (h := ?_)) | ((with_reducible refine is_store ?_); (first | refine own_stRT (hO := hO) (h := ?_) | refine own_st1T (hO := hO) (h := ?_)); clear hO; intro wv hO) | ((with_reducible refine is_build ?_); (first | (refine' own_build1 (o := ⟨some 29, _, _, _, _, _⟩) hO (by rfl) rfl rfl ?hu ?hf ?_; (case hu => (with_reducible (first | exact Tryz.underlying34 | exact und_Set | exact und_Groups | exact und_Ranges | exact und_Table))); (case hf => kernel_rfl); clear hO; intro n29 wv hO))) | ((with_reducible refine is_append ?_); refine own_apT (o := ⟨some 30, _, _, _, _, _⟩) (hO := hO) (h := ?_); clear hO; intro g30 c30 wv hO) | ((refine wpList_step (fun K hK => ?_)); go_simp; (first | ((refine hK _ _ ?_); clear hK K) | ((first | (go_at_call 5; (with_reducible refine (next_pos 3 hZ (hO.tapeIn (by (repeat (first | exact List.mem_cons_self | refine List.mem_cons_of_mem _ ?_))) (by (intro s hs; repeat (first | exact hs | exact List.mem_append_left _ hs | apply List.mem_append_right | apply List.mem_cons_of_mem))) hT.le) (by omega) (by omega)).mono ?_); rintro e wv ⟨v, i1, rfl, ⟨r9, rfl, hr0, hr1⟩, hk9, hT1⟩; replace hO := hO.after (by (repeat (first | exact Upd.here | apply Upd.there))) hk9 hT1.blk; replace hT := hT1; clear hT1 hk9)); (try simp only []); (refine hK _ _ ?_); clear hK K)))); (try simp only [Act.put]); (try simp only [List.setIfInBounds_toArray, List.set_cons_zero, List.set_cons_succ])
    refine wpList_done (qk_intro ?_)
   refine wpAny_done (by kernel_rfl) ?_ _
   rotate_left
   refine wpAny_done (by kernel_rfl) ?_ _
   rotate_left
   all_goals
    go_wp2_with fail
    go_roundw
    case rel =>
     refine ⟨t.length + 1, t ++ [(b, decide (0 < r9))], i1, by omega, by simp, by go_num, fun x hx => ?_, hT.le, ?_⟩
     ·rcases List.mem_append.1 hx with hx | hx
      ·exact kt x hx
      ·obtain rfl := List.mem_singleton.1 hx; exact kb
     ·rw [List.length_append, cellsR_append, cellsR_one]
      exact hO.sub (.cons _ (.refl _)) (.refl _) (fun _ h => h)
    case measure => simp [intOf]; omega
  ·have hT := hO.tapeIn List.mem_cons_self (fun q hq => List.mem_append_right _ hq) hi
   go_wp2_with (first | ((with_reducible refine is_load ?_); refine own_ldT (h := ?_)) | ((with_reducible refine is_store ?_); (first | refine own_stRT (hO := hO) (h := ?_) | refine own_st1T (hO := hO) (h := ?_)); clear hO; intro wv hO) | ((with_reducible refine is_build ?_); (first | (refine' own_build1 (o := ⟨some 29, _, _, _, _, _⟩) hO (by rfl) rfl rfl ?hu ?hf ?_; (case hu => (with_reducible (first | exact Tryz.underlying34 | exact und_Set | exact und_Groups | exact und_Ranges | exact und_Table))); (case hf => kernel_rfl); clear hO; intro n29 wv hO))) | ((with_reducible refine is_append ?_); refine own_apT (o := ⟨some 30, _, _, _, _, _⟩) (hO := hO) (h := ?_); clear hO; intro g30 c30 wv hO))
   go_ret
   exact tpost hO (by (repeat (first | exact List.mem_cons_self | refine List.mem_cons_of_mem _ ?_))) (by (intro s hs; repeat (first | exact hs | exact List.mem_append_left _ hs | apply List.mem_append_right | apply List.mem_cons_of_mem))) hT.le ⟨t, own_table hO List.mem_cons_self, own_newT hO List.mem_cons_self (nodup_cons_row hO.nd), kt, by omega⟩
end Go.Proofs.YtmcbbepfakfehaaGreatDoor
