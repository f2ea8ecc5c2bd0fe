/- The tape's tables as rows of the caller's own; tables whose rules often overlap. -/
import Derived.Test.YtbdfblgdmappeaaGreatDoorOF
import Derived.Test.YtbdfblgdmappeaaGreatDoorPC
namespace Go.Proofs.YtbdfblgdmappeaaGreatDoor
open Go.RowKit
set_option maxRecDepth 100000
set_option maxHeartbeats 4000000 in
theorem ttableR_any {w : World} {n : Nat} {sl : Value} {zs : List Int} {i : Nat} (m : Int) (wild : Bool) (hZ : ZsOk sl zs) (hT : TapeIn w n sl zs i) (h0 : 0 ≤ m) (hm : m ≤ 50) :
  Calls Tryz.prog 41 #[.pointer (some ⟨n, 0, none⟩), .int .i64 m, .bool wild] w (TPost w n sl zs (fun v w' => ∃ t : List Rul, IsTable w' v t ∧ NewFrom w v ∧ okT t ∧ t.length ≤ m ∧ (wild = false → ∀ r ∈ t, Good r.1) ∧ w'.ownsRow 0 100 11 v t.length (cellsR t))) := by
 have hO := own_tape hT
 go_enter Tryz.func41, Tryz.ntmps41
 go_wp2_with (go_at_call 35; (with_reducible refine (tboxes_any m wild hZ (hO.tapeIn List.mem_cons_self (fun _ h => h) hT.le) h0 (by omega)).mono ?_); rintro e wv ⟨va, i1, rfl, ⟨la, hv9, hn9, ka, na, kg9⟩, hk9, hT1⟩; have hoff9 := off_of_new hO hn9; replace hO := hO.after (by (repeat (exact Upd.here))) hk9 hT1.blk; replace hT := hT1; clear hT1 hk9; obtain ⟨aa, ca, rfl, hla, hO⟩ := own_offS hO ⟨hv9, hoff9⟩; clear hv9 hn9 hoff9)
 have KG := Lib.hid kg9
 clear kg9
 replace hO := hO.nilRow 100 11
 go_loopw [7, 9] (fun v q wr => ∃ (k : Nat) (t : List Rul) (i : Nat), k ≤ la.length ∧ t.length = k ∧ q = .int .i64 k ∧ okT t ∧ Hid (wild = false → ∀ r ∈ t, Good r.1) ∧ i ≤ zs.length ∧ Own [n] w [⟨n, tcs sl i, 93⟩] [⟨v, t.length, cellsR t, 100, 11⟩] (roS (.slice aa la.length ca) (cellsB la) ++ roS sl (ints zs)) wr) (fun _ q _ => la.length - (intOf q).toNat)
 case atStart => exact ⟨0, [], i1, by simp, rfl, rfl, (fun r hr => by cases hr), Lib.hid (fun _ r hr => by cases hr), hT.le, hO⟩
 case round =>
  clear hO hT
  obtain ⟨k, t, i, hk, rfl, rfl, kt, KT, hi, hO⟩ := hrel
  by_cases hlt : t.length < la.length
  ·obtain ⟨g, o, rfl⟩ := hla (by omega)
   replace hO := hO.sub (S' := ⟨g, o, cellsB la⟩ :: roS sl (ints zs)) (.refl _) (.refl _) (fun q hq => hq)
   have hT := hO.tapeIn List.mem_cons_self (fun q hq => List.mem_cons_of_mem _ hq) hi
   have t1 := tk_box la hlt
   have kb := ka la[t.length] (List.getElem_mem hlt)
   have KB := Lib.hid (fun h => KG.out h la[t.length] (List.getElem_mem hlt))
   generalize la[t.length] = b at *
   replace t1 : List.take (([.int .u32 b.r0.lo, .int .u32 b.r0.hi, .int .u32 b.r1.lo, .int .u32 b.r1.hi, .int .u32 b.r2.lo, .int .u32 b.r2.hi, .int .u32 b.r3.lo, .int .u32 b.r3.hi, .int .u32 b.r4.lo, .int .u32 b.r4.hi] : List Value)).length (List.drop (t.length * 10) (cellsB la)) = ([.int .u32 b.r0.lo, .int .u32 b.r0.hi, .int .u32 b.r1.lo, .int .u32 b.r1.hi, .int .u32 b.r2.lo, .int .u32 b.r2.hi, .int .u32 b.r3.lo, .int .u32 b.r3.hi, .int .u32 b.r4.lo, .int .u32 b.r4.hi] : List Value) := t1
   go_wp2_with fail
   refine wp_region_any (by kernel_rfl) ?_
   replace hO := hO.drew
   have ix9 := Ix.mk [0, 1, 2, 3, 5]
   iterate 5 (refine wpAny_tk ix9 ?_; replace ix9 := ix9.tail; (first | go_big_quiet_skip | (go_big_quiet_want; (go_big_quiet_op; (first | go_big_quiet_on | ((refine ⟨_, fun _ _ => rfl, ?_⟩); go_big_quiet_on))))); (refine wpQuiet_nil ?_); (try simp only [Act.put]); (try simp only [sI9, sZ9, sS9]))
   clear ix9
   refine wpAny_all (rs := [4, 6]) (by kernel_rfl) (by simp) (ord_cons ?_ (ord_cons ?_ ord_nil))
   rotate_left 2
   all_goals
    refine wpOp_of_listL rfl ?_
    (first | refine ldNT ?_ | ((refine wpList_step (fun K hK => ?_)); go_simp; ((go_at_call 21; (with_reducible refine (next_pos 3 hZ (hO.tapeIn List.mem_cons_self (by (intro s hs; repeat (first | exact hs | apply List.mem_cons_of_mem))) hT.le) (by omega) (by omega)).mono ?_); rintro e wv ⟨v, i1, rfl, ⟨r9, rfl, hr0, hr1⟩, hk9, hT1⟩; replace hO := hO.after (by (repeat (exact Upd.here))) hk9 hT1.blk; replace hT := hT1; clear hT1 hk9); (try simp only []); (refine hK _ _ ?_); clear hK K))); (try simp only [Act.put]); (try simp only [sI9, sZ9, sS9])
    refine wpList_done (qk_intro ?_)
   refine wpAny_1 6 ?_
   rotate_left 1
   refine wpAny_tk (Ix.mk [7]) ?_
   (first | go_big_quiet_skip | (go_big_quiet_want; (go_big_quiet_op; (first | go_big_quiet_on | ((refine ⟨_, fun _ _ => rfl, ?_⟩); go_big_quiet_on))))); (refine wpQuiet_nil ?_); (try simp only [Act.put]); (try simp only [sI9, sZ9, sS9])
   refine wpAny_1 4 ?_
   rotate_left 1
   all_goals
    refine wpOp_of_listL rfl ?_
    (first | refine ldNT ?_ | ((refine wpList_step (fun K hK => ?_)); go_simp; ((go_at_call 21; (with_reducible refine (next_pos 3 hZ (hO.tapeIn List.mem_cons_self (by (intro s hs; repeat (first | exact hs | apply List.mem_cons_of_mem))) hT.le) (by omega) (by omega)).mono ?_); rintro e wv ⟨v, i1, rfl, ⟨r9, rfl, hr0, hr1⟩, hk9, hT1⟩; replace hO := hO.after (by (repeat (exact Upd.here))) hk9 hT1.blk; replace hT := hT1; clear hT1 hk9); (try simp only []); (refine hK _ _ ?_); clear hK K))); (try simp only [Act.put]); (try simp only [sI9, sZ9, sS9])
    refine wpList_done (qk_intro ?_)
   have ix9 := Ix.mk [7, 8]
   iterate 2 (refine wpAny_tk ix9 ?_; replace ix9 := ix9.tail; (first | go_big_quiet_skip | (go_big_quiet_want; (go_big_quiet_op; (first | go_big_quiet_on | ((refine ⟨_, fun _ _ => rfl, ?_⟩); go_big_quiet_on))))); (refine wpQuiet_nil ?_); (try simp only [Act.put]); (try simp only [sI9, sZ9, sS9]))
   clear ix9
   refine wpAny_1 9 ?_
   rotate_left 1
   refine wpAny_tk (Ix.mk [8]) ?_
   (first | go_big_quiet_skip | (go_big_quiet_want; (go_big_quiet_op; (first | go_big_quiet_on | ((refine ⟨_, fun _ _ => rfl, ?_⟩); go_big_quiet_on))))); (refine wpQuiet_nil ?_); (try simp only [Act.put]); (try simp only [sI9, sZ9, sS9])
   refine wpAny_1 9 ?_
   rotate_left 1
   all_goals
    refine wpOp_of_listL rfl ?_
    (refine bl9T 29 hO ?_; clear hO; intro n29 wv hO); (try simp only [Act.put]); (try simp only [sI9, sZ9, sS9])
    refine wpList_done (qk_intro ?_)
   refine wpAny_1 10 ?_
   rotate_left 1
   refine wpAny_1 10 ?_
   rotate_left 1
   all_goals
    refine wpOp_of_listL rfl ?_
    (refine ap9T 30 hO ?_; clear hO; intro g30 c30 wv hO); (try simp only [Act.put]); (try simp only [sI9, sZ9, sS9])
    refine wpList_done (qk_intro ?_)
   refine wpAny_1 11 ?_
   rotate_left 1
   refine wpAny_1 11 ?_
   rotate_left 1
   all_goals
    refine wpOp_of_listL rfl ?_
    ((refine wpList_step (fun K hK => ?_)); go_simp; ((refine hK _ _ ?_); clear hK K))
    refine wpList_done (qk_intro ?_)
   refine wpAny_done (by kernel_rfl) ?_ _
   rotate_left
   refine wpAny_done (by kernel_rfl) ?_ _
   rotate_left
   all_goals
    go_wp2_with fail
    go_roundw
    case rel =>
     refine ⟨t.length + 1, t ++ [(b, decide (0 < r9))], i1, by omega, by simp, by go_num, fun x hx => ?_, Lib.hid (fun hw x hx => ?_), hT.le, ?_⟩
     ·rcases List.mem_append.1 hx with hx | hx
      ·exact kt x hx
      ·obtain rfl := List.mem_singleton.1 hx; exact kb
     ·rcases List.mem_append.1 hx with hx | hx
      ·exact KT.out hw x hx
      ·obtain rfl := List.mem_singleton.1 hx; exact KB.out hw
     ·rw [List.length_append, cellsR_append, cellsR_one]
      exact hO.sub (.cons _ (.refl _)) (.refl _) (fun _ h => h)
    case measure => simp [intOf]; omega
  ·have hT := hO.tapeIn List.mem_cons_self (fun q hq => List.mem_append_right _ hq) hi
   go_wp2_with fail
   go_ret
   exact tpost hO List.mem_cons_self (by (intro s hs; repeat (first | exact hs | apply List.mem_append_right))) hT.le ⟨t, own_table hO List.mem_cons_self, own_newT hO List.mem_cons_self (nodup_cons_row hO.nd), kt, by omega, KT.out, hO.row _ List.mem_cons_self⟩
def portB (lo hi : Int) : Bx := fullBx.set 4 ⟨lo, hi⟩
theorem portB_good {lo hi : Int} (h0 : 0 ≤ lo) (h1 : lo ≤ hi) (h2 : hi ≤ 65535) : Good (portB lo hi) := Good.full.set 4 h0 h1 (fun _ => h2)
theorem cellsR_setM {l : List Rul} {k : Nat} (h : k < l.length) (b : Bx) : putAt (cellsR l) (k * 11) (bcs b) = cellsR (l.set k (b, l[k].2)) := by
 induction l generalizing k with
 | nil => simp at h
 | cons c l ih =>
  cases k with
  | zero =>
   simp only [cellsR, List.set_cons_zero, Nat.zero_mul, List.getElem_cons_zero]
   rfl
  | succ k =>
   simp only [cellsR, List.set_cons_succ, List.getElem_cons_succ]
   rw [← ih (by simpa using h), show (k + 1) * 11 = (rlcs c).length + k * 11 by rw [rlcs_length]; omega, putAt_behind]
theorem okT_set {t : List Rul} (h : okT t) {k : Nat} {r : Rul} (hr : r.1.ok) : okT (t.set k r) := fun q hq => by
 rcases List.mem_or_eq_of_mem_set hq with hq | rfl
 ·exact h q hq
 ·exact hr
end Go.Proofs.YtbdfblgdmappeaaGreatDoor
