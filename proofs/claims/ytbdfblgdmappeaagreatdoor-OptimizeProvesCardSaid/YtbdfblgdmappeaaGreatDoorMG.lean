/- The library's sort at uint64: the heap. -/
import Derived.Test.YtbdfblgdmappeaaGreatDoorMF
namespace Go.Proofs.YtbdfblgdmappeaaGreatDoor
open Go.RowKit
open Go.Sort (swp ltInt)
set_option maxRecDepth 100000
set_option maxHeartbeats 4000000 in
theorem sift_any {g c k : Nat} {d : Array Int} (lo hi f : Nat) (w : World) (hr : OwnsU w g k c d) (hk : d.size = k) (hb : f + hi ≤ k) (hlo : lo ≤ hi) (hl : k ≤ 140737488355328) :
  Calls Tryz.prog 242 #[.slice (some ⟨g, 0, none⟩) k c, .int .i64 lo, .int .i64 hi, .int .i64 f] w (UPost w g k c (Go.Sort.siftDown ltInt hi f lo d) (.tuple #[])) := by
 have hO := hr.own
 obtain ⟨D, hD⟩ : ∃ D, D = Go.Sort.siftDown ltInt hi f lo d := ⟨_, rfl⟩
 have hD1 : Hid (Go.Sort.siftDown ltInt hi f lo d = D) := Lib.hid hD.symm
 rw [← hD]
 clear hr hD
 go_enter Tryz.func242, Tryz.ntmps242
 go_wp2_with fail
 go_loopw [8] (fun q wr => ∃ (r : Nat) (d1 : Array Int), r ≤ hi ∧ q = .int .i64 r ∧ d1.size = k ∧ Hid (Go.Sort.siftDown ltInt hi f r d1 = D) ∧ Own [g] w [] [⟨.slice (some ⟨g, 0, none⟩) k c, k, uc d1, 200, 1⟩] [] wr) (fun q _ => hi - (intOf q).toNat)
 case atStart => exact ⟨lo, d, by omega, rfl, hk, hD1, hO⟩
 case round =>
  clear hO hD1 hk
  obtain ⟨r, d1, hr, rfl, hk, hD1, hO⟩ := hrel
  clear d
  obtain ⟨ch, hch⟩ : ∃ ch, 2 * r + 1 = ch := ⟨_, rfl⟩
  obtain ⟨ch1, hch1⟩ : ∃ ch1, 2 * r + 2 = ch1 := ⟨_, rfl⟩
  obtain ⟨p, hp⟩ : ∃ p, f + r = p := ⟨_, rfl⟩
  obtain ⟨q, hq⟩ : ∃ q, f + ch = q := ⟨_, rfl⟩
  obtain ⟨q1, hq1⟩ : ∃ q1, f + ch1 = q1 := ⟨_, rfl⟩
  have s1 : IntKind.i64.wrap (2 * (r : Int)) = 2 * (r : Int) := IntWalk.i64_in _ (by omega)
  have s2 : IntKind.i64.wrap (2 * (r : Int) + 1) = (ch : Int) := by rw [IntWalk.i64_in _ (by omega)]; omega
  by_cases hlt : ch < hi
  ·have g0 : decide ((hi : Int) ≤ ch) = false := by simp; omega
   have s3 : IntKind.i64.wrap ((ch : Int) + 1) = (ch1 : Int) := by rw [IntWalk.i64_in _ (by omega)]; omega
   have s4 : IntKind.i64.wrap ((f : Int) + ch) = (q : Int) := by rw [IntWalk.i64_in _ (by omega)]; omega
   have s5 : IntKind.i64.wrap ((q : Int) + 1) = (q1 : Int) := by rw [IntWalk.i64_in _ (by omega)]; omega
   have s6 : IntKind.i64.wrap ((f : Int) + ch1) = (q1 : Int) := by rw [IntWalk.i64_in _ (by omega)]; omega
   have s7 : IntKind.i64.wrap ((f : Int) + r) = (p : Int) := by rw [IntWalk.i64_in _ (by omega)]; omega
   have i1 : (0 : Int) ≤ (p : Int) := by omega
   have i2 : (p : Int) < k := by omega
   have i3 : (0 : Int) ≤ (q : Int) := by omega
   have i4 : (q : Int) < k := by omega
   have E0 : Hid (Go.Sort.siftDown ltInt hi f r d1 = if (decide (ch1 < hi) && ltInt d1[q]! d1[q1]!) = true then (if (!ltInt d1[p]! d1[q1]!) = true then d1 else if _h : ch1 < hi then Go.Sort.siftDown ltInt hi f ch1 (swp d1 p q1) else d1) else (if (!ltInt d1[p]! d1[q]!) = true then d1 else Go.Sort.siftDown ltInt hi f ch (swp d1 p q))) := Lib.hid (by
    rw [Go.Sort.siftDown, dif_neg (by omega), ← hq1, ← hp, ← hq, ← hch, ← hch1]
    simp only [Nat.add_assoc, Nat.reduceAdd])
   rw [E0.out] at hD1
   clear E0
   by_cases hlt1 : ch1 < hi
   ·have g1 : decide ((ch1 : Int) < hi) = true := by simp; omega
    have i5 : (0 : Int) ≤ (q1 : Int) := by omega
    have i6 : (q1 : Int) < k := by omega
    obtain ⟨x1, hx1, c1⟩ := uc_get (d := d1) (k := q) (by omega)
    obtain ⟨y1, hy1, c2⟩ := uc_get (d := d1) (k := q1) (by omega)
    cases hxy1 : ltInt x1 y1
    ·have hz : ltInt d1[q]! d1[q1]! = false := by rw [← hx1.out, ← hy1.out]; exact hxy1
     rw [hz, Bool.and_false, if_neg (by simp)] at hD1
     clear hz
     obtain ⟨x, hx, c3⟩ := uc_get (d := d1) (k := p) (by omega)
     rw [← hx.out, ← hx1.out] at hD1
     cases hxy : ltInt x x1
     ·rw [hxy, if_pos (by rfl)] at hD1
      have hD2 : d1 = D := hD1.out
      clear hD1
      go_wp2_with fail
      (refine own_quiet hO (by kernel_rfl) (by kernel_rfl) ?_; clear hO; (repeat (go_big_quiet_want; (first | ((with_reducible refine is_loadQ ?_); (refine q_ldU (h := ?_)); (try simp only [Act.put]); (try simp only [sI9, sZ9, sS9]); go_big_quiet_on) | (go_big_quiet_op; (first | go_big_quiet_on | ((refine ⟨_, fun _ _ => rfl, ?_⟩); go_big_quiet_on) | go_big_quiet_call ((intro hq; go_at_call 234; exact q_same (less_any _ _ _) hq))))))); (refine wpQuiet_nil ?_); intro wv hO)
      rw [hxy1]
      go_wp2_with fail
      (refine own_quiet hO (by kernel_rfl) (by kernel_rfl) ?_; clear hO; (repeat (go_big_quiet_want; (first | ((with_reducible refine is_loadQ ?_); (refine q_ldU (h := ?_)); (try simp only [Act.put]); (try simp only [sI9, sZ9, sS9]); go_big_quiet_on) | (go_big_quiet_op; (first | go_big_quiet_on | ((refine ⟨_, fun _ _ => rfl, ?_⟩); go_big_quiet_on) | go_big_quiet_call ((intro hq; go_at_call 234; exact q_same (less_any _ _ _) hq))))))); (refine wpQuiet_nil ?_); intro wv hO)
      rw [hxy]
      go_wp2_with fail
      go_end0
      subst hD2
      exact u_post hO List.mem_cons_self
     ·rw [hxy, if_neg (by simp)] at hD1
      go_wp2_with fail
      (refine own_quiet hO (by kernel_rfl) (by kernel_rfl) ?_; clear hO; (repeat (go_big_quiet_want; (first | ((with_reducible refine is_loadQ ?_); (refine q_ldU (h := ?_)); (try simp only [Act.put]); (try simp only [sI9, sZ9, sS9]); go_big_quiet_on) | (go_big_quiet_op; (first | go_big_quiet_on | ((refine ⟨_, fun _ _ => rfl, ?_⟩); go_big_quiet_on) | go_big_quiet_call ((intro hq; go_at_call 234; exact q_same (less_any _ _ _) hq))))))); (refine wpQuiet_nil ?_); intro wv hO)
      rw [hxy1]
      go_wp2_with fail
      (refine own_quiet hO (by kernel_rfl) (by kernel_rfl) ?_; clear hO; (repeat (go_big_quiet_want; (first | ((with_reducible refine is_loadQ ?_); (refine q_ldU (h := ?_)); (try simp only [Act.put]); (try simp only [sI9, sZ9, sS9]); go_big_quiet_on) | (go_big_quiet_op; (first | go_big_quiet_on | ((refine ⟨_, fun _ _ => rfl, ?_⟩); go_big_quiet_on) | go_big_quiet_call ((intro hq; go_at_call 234; exact q_same (less_any _ _ _) hq))))))); (refine wpQuiet_nil ?_); intro wv hO)
      rw [hxy]
      go_wp2_with fail
      refine wp_region_any (by kernel_rfl) ?_
      replace hO := hO.drew
      have ix9 := Ix.mk [0, 1, 2, 3, 4, 5, 6, 7, 8, 9, 10, 11, 12, 14, 15, 16, 17, 18]
      iterate 18 (refine wpAny_tk ix9 ?_; replace ix9 := ix9.tail; (first | go_big_quiet_skip | (go_big_quiet_want; (go_big_quiet_op; (first | go_big_quiet_on | ((refine ⟨_, fun _ _ => rfl, ?_⟩); go_big_quiet_on))))); (refine wpQuiet_nil ?_); (try simp only [Act.put]); (try simp only [sI9, sZ9, sS9]))
      clear ix9
      refine wpAny_all (rs := [13, 19]) (by kernel_rfl) (by simp) (ord_cons ?_ (ord_cons ?_ ord_nil))
      rotate_left 2
      all_goals
       refine wpOp_of_listL rfl ?_
       (refine ldN ?_); (try simp only [Act.put]); (try simp only [sI9, sZ9, sS9])
       refine wpList_done (qk_intro ?_)
      refine wpAny_1 19 ?_
      rotate_left 1
      refine wpAny_1 13 ?_
      rotate_left 1
      all_goals
       refine wpOp_of_listL rfl ?_
       (refine ldN ?_); (try simp only [Act.put]); (try simp only [sI9, sZ9, sS9])
       refine wpList_done (qk_intro ?_)
      refine wpAny_tk (Ix.mk [20]) ?_
      (first | go_big_quiet_skip | (go_big_quiet_want; (go_big_quiet_op; (first | go_big_quiet_on | ((refine ⟨_, fun _ _ => rfl, ?_⟩); go_big_quiet_on))))); (refine wpQuiet_nil ?_); (try simp only [Act.put]); (try simp only [sI9, sZ9, sS9])
      refine wpAny_1 21 ?_
      rotate_left 1
      refine wpAny_tk (Ix.mk [20]) ?_
      (first | go_big_quiet_skip | (go_big_quiet_want; (go_big_quiet_op; (first | go_big_quiet_on | ((refine ⟨_, fun _ _ => rfl, ?_⟩); go_big_quiet_on))))); (refine wpQuiet_nil ?_); (try simp only [Act.put]); (try simp only [sI9, sZ9, sS9])
      refine wpAny_1 21 ?_
      rotate_left 1
      all_goals
       refine wpOp_of_listL rfl ?_
       ((with_reducible refine is_store ?_); (refine own_stU hO (h := ?_); clear hO; intro wv hO)); (try simp only [Act.put])
       refine wpList_done (qk_intro ?_)
      refine wpAny_tk (Ix.mk [22]) ?_
      (first | go_big_quiet_skip | (go_big_quiet_want; (go_big_quiet_op; (first | go_big_quiet_on | ((refine ⟨_, fun _ _ => rfl, ?_⟩); go_big_quiet_on))))); (refine wpQuiet_nil ?_); (try simp only [Act.put]); (try simp only [sI9, sZ9, sS9])
      refine wpAny_1 23 ?_
      rotate_left 1
      refine wpAny_tk (Ix.mk [22]) ?_
      (first | go_big_quiet_skip | (go_big_quiet_want; (go_big_quiet_op; (first | go_big_quiet_on | ((refine ⟨_, fun _ _ => rfl, ?_⟩); go_big_quiet_on))))); (refine wpQuiet_nil ?_); (try simp only [Act.put]); (try simp only [sI9, sZ9, sS9])
      refine wpAny_1 23 ?_
      rotate_left 1
      all_goals
       refine wpOp_of_listL rfl ?_
       ((with_reducible refine is_store ?_); (refine own_stU hO (h := ?_); clear hO; intro wv hO)); (try simp only [Act.put])
       refine wpList_done (qk_intro ?_)
      refine wpAny_done (by kernel_rfl) ?_ _
      rotate_left
      refine wpAny_done (by kernel_rfl) ?_ _
      rotate_left
      all_goals
       rw [uc_swp hx.out hx1.out] at hO
       go_wp2_with fail
       go_roundw
       case rel => exact ⟨ch, _, by omega, rfl, by rw [Go.Sort.size_swp]; exact hk, hD1, hO⟩
       case measure => simp [intOf]; omega
    ·have hz : ltInt d1[q]! d1[q1]! = true := by rw [← hx1.out, ← hy1.out]; exact hxy1
     rw [hz, decide_eq_true hlt1, Bool.and_true, if_pos rfl] at hD1
     clear hz
     obtain ⟨x, hx, c3⟩ := uc_get (d := d1) (k := p) (by omega)
     rw [← hx.out, ← hy1.out] at hD1
     cases hxy : ltInt x y1
     ·rw [hxy, if_pos (by rfl)] at hD1
      have hD2 : d1 = D := hD1.out
      clear hD1
      go_wp2_with fail
      (refine own_quiet hO (by kernel_rfl) (by kernel_rfl) ?_; clear hO; (repeat (go_big_quiet_want; (first | ((with_reducible refine is_loadQ ?_); (refine q_ldU (h := ?_)); (try simp only [Act.put]); (try simp only [sI9, sZ9, sS9]); go_big_quiet_on) | (go_big_quiet_op; (first | go_big_quiet_on | ((refine ⟨_, fun _ _ => rfl, ?_⟩); go_big_quiet_on) | go_big_quiet_call ((intro hq; go_at_call 234; exact q_same (less_any _ _ _) hq))))))); (refine wpQuiet_nil ?_); intro wv hO)
      rw [hxy1]
      go_wp2_with fail
      (refine own_quiet hO (by kernel_rfl) (by kernel_rfl) ?_; clear hO; (repeat (go_big_quiet_want; (first | ((with_reducible refine is_loadQ ?_); (refine q_ldU (h := ?_)); (try simp only [Act.put]); (try simp only [sI9, sZ9, sS9]); go_big_quiet_on) | (go_big_quiet_op; (first | go_big_quiet_on | ((refine ⟨_, fun _ _ => rfl, ?_⟩); go_big_quiet_on) | go_big_quiet_call ((intro hq; go_at_call 234; exact q_same (less_any _ _ _) hq))))))); (refine wpQuiet_nil ?_); intro wv hO)
      rw [hxy]
      go_wp2_with fail
      go_end0
      subst hD2
      exact u_post hO List.mem_cons_self
     ·rw [hxy, if_neg (by simp), dif_pos hlt1] at hD1
      go_wp2_with fail
      (refine own_quiet hO (by kernel_rfl) (by kernel_rfl) ?_; clear hO; (repeat (go_big_quiet_want; (first | ((with_reducible refine is_loadQ ?_); (refine q_ldU (h := ?_)); (try simp only [Act.put]); (try simp only [sI9, sZ9, sS9]); go_big_quiet_on) | (go_big_quiet_op; (first | go_big_quiet_on | ((refine ⟨_, fun _ _ => rfl, ?_⟩); go_big_quiet_on) | go_big_quiet_call ((intro hq; go_at_call 234; exact q_same (less_any _ _ _) hq))))))); (refine wpQuiet_nil ?_); intro wv hO)
      rw [hxy1]
      go_wp2_with fail
      (refine own_quiet hO (by kernel_rfl) (by kernel_rfl) ?_; clear hO; (repeat (go_big_quiet_want; (first | ((with_reducible refine is_loadQ ?_); (refine q_ldU (h := ?_)); (try simp only [Act.put]); (try simp only [sI9, sZ9, sS9]); go_big_quiet_on) | (go_big_quiet_op; (first | go_big_quiet_on | ((refine ⟨_, fun _ _ => rfl, ?_⟩); go_big_quiet_on) | go_big_quiet_call ((intro hq; go_at_call 234; exact q_same (less_any _ _ _) hq))))))); (refine wpQuiet_nil ?_); intro wv hO)
      rw [hxy]
      go_wp2_with fail
      refine wp_region_any (by kernel_rfl) ?_
      replace hO := hO.drew
      have ix9 := Ix.mk [0, 1, 2, 3, 4, 5, 6, 7, 8, 9, 10, 11, 12, 14, 15, 16, 17, 18]
      iterate 18 (refine wpAny_tk ix9 ?_; replace ix9 := ix9.tail; (first | go_big_quiet_skip | (go_big_quiet_want; (go_big_quiet_op; (first | go_big_quiet_on | ((refine ⟨_, fun _ _ => rfl, ?_⟩); go_big_quiet_on))))); (refine wpQuiet_nil ?_); (try simp only [Act.put]); (try simp only [sI9, sZ9, sS9]))
      clear ix9
      refine wpAny_all (rs := [13, 19]) (by kernel_rfl) (by simp) (ord_cons ?_ (ord_cons ?_ ord_nil))
      rotate_left 2
      all_goals
       refine wpOp_of_listL rfl ?_
       (refine ldN ?_); (try simp only [Act.put]); (try simp only [sI9, sZ9, sS9])
       refine wpList_done (qk_intro ?_)
      refine wpAny_1 19 ?_
      rotate_left 1
      refine wpAny_1 13 ?_
      rotate_left 1
      all_goals
       refine wpOp_of_listL rfl ?_
       (refine ldN ?_); (try simp only [Act.put]); (try simp only [sI9, sZ9, sS9])
       refine wpList_done (qk_intro ?_)
      refine wpAny_tk (Ix.mk [20]) ?_
      (first | go_big_quiet_skip | (go_big_quiet_want; (go_big_quiet_op; (first | go_big_quiet_on | ((refine ⟨_, fun _ _ => rfl, ?_⟩); go_big_quiet_on))))); (refine wpQuiet_nil ?_); (try simp only [Act.put]); (try simp only [sI9, sZ9, sS9])
      refine wpAny_1 21 ?_
      rotate_left 1
      refine wpAny_tk (Ix.mk [20]) ?_
      (first | go_big_quiet_skip | (go_big_quiet_want; (go_big_quiet_op; (first | go_big_quiet_on | ((refine ⟨_, fun _ _ => rfl, ?_⟩); go_big_quiet_on))))); (refine wpQuiet_nil ?_); (try simp only [Act.put]); (try simp only [sI9, sZ9, sS9])
      refine wpAny_1 21 ?_
      rotate_left 1
      all_goals
       refine wpOp_of_listL rfl ?_
       ((with_reducible refine is_store ?_); (refine own_stU hO (h := ?_); clear hO; intro wv hO)); (try simp only [Act.put])
       refine wpList_done (qk_intro ?_)
      refine wpAny_tk (Ix.mk [22]) ?_
      (first | go_big_quiet_skip | (go_big_quiet_want; (go_big_quiet_op; (first | go_big_quiet_on | ((refine ⟨_, fun _ _ => rfl, ?_⟩); go_big_quiet_on))))); (refine wpQuiet_nil ?_); (try simp only [Act.put]); (try simp only [sI9, sZ9, sS9])
      refine wpAny_1 23 ?_
      rotate_left 1
      refine wpAny_tk (Ix.mk [22]) ?_
      (first | go_big_quiet_skip | (go_big_quiet_want; (go_big_quiet_op; (first | go_big_quiet_on | ((refine ⟨_, fun _ _ => rfl, ?_⟩); go_big_quiet_on))))); (refine wpQuiet_nil ?_); (try simp only [Act.put]); (try simp only [sI9, sZ9, sS9])
      refine wpAny_1 23 ?_
      rotate_left 1
      all_goals
       refine wpOp_of_listL rfl ?_
       ((with_reducible refine is_store ?_); (refine own_stU hO (h := ?_); clear hO; intro wv hO)); (try simp only [Act.put])
       refine wpList_done (qk_intro ?_)
      refine wpAny_done (by kernel_rfl) ?_ _
      rotate_left
      refine wpAny_done (by kernel_rfl) ?_ _
      rotate_left
      all_goals
       rw [uc_swp hx.out hy1.out] at hO
       go_wp2_with fail
       go_roundw
       case rel => exact ⟨ch1, _, by omega, rfl, by rw [Go.Sort.size_swp]; exact hk, hD1, hO⟩
       case measure => simp [intOf]; omega
   ·have g1 : decide ((ch1 : Int) < hi) = false := by simp; omega
    rw [decide_eq_false hlt1, Bool.false_and, if_neg (by simp)] at hD1
    obtain ⟨x, hx, c3⟩ := uc_get (d := d1) (k := p) (by omega)
    obtain ⟨y, hy, c4⟩ := uc_get (d := d1) (k := q) (by omega)
    rw [← hx.out, ← hy.out] at hD1
    cases hxy : ltInt x y
    ·rw [hxy, if_pos (by rfl)] at hD1
     have hD2 : d1 = D := hD1.out
     clear hD1
     go_wp2_with fail
     (refine own_quiet hO (by kernel_rfl) (by kernel_rfl) ?_; clear hO; (repeat (first | go_big_quiet_skip | (go_big_quiet_want; (go_big_quiet_op; (first | go_big_quiet_on | ((refine ⟨_, fun _ _ => rfl, ?_⟩); go_big_quiet_on)))))); (refine wpQuiet_nil ?_); intro wv hO)
     go_wp2_with fail
     (refine own_quiet hO (by kernel_rfl) (by kernel_rfl) ?_; clear hO; (repeat (go_big_quiet_want; (first | ((with_reducible refine is_loadQ ?_); (refine q_ldU (h := ?_)); (try simp only [Act.put]); (try simp only [sI9, sZ9, sS9]); go_big_quiet_on) | (go_big_quiet_op; (first | go_big_quiet_on | ((refine ⟨_, fun _ _ => rfl, ?_⟩); go_big_quiet_on) | go_big_quiet_call ((intro hq; go_at_call 234; exact q_same (less_any _ _ _) hq))))))); (refine wpQuiet_nil ?_); intro wv hO)
     rw [hxy]
     go_wp2_with fail
     go_end0
     subst hD2
     exact u_post hO List.mem_cons_self
    ·rw [hxy, if_neg (by simp)] at hD1
     go_wp2_with fail
     (refine own_quiet hO (by kernel_rfl) (by kernel_rfl) ?_; clear hO; (repeat (first | go_big_quiet_skip | (go_big_quiet_want; (go_big_quiet_op; (first | go_big_quiet_on | ((refine ⟨_, fun _ _ => rfl, ?_⟩); go_big_quiet_on)))))); (refine wpQuiet_nil ?_); intro wv hO)
     go_wp2_with fail
     (refine own_quiet hO (by kernel_rfl) (by kernel_rfl) ?_; clear hO; (repeat (go_big_quiet_want; (first | ((with_reducible refine is_loadQ ?_); (refine q_ldU (h := ?_)); (try simp only [Act.put]); (try simp only [sI9, sZ9, sS9]); go_big_quiet_on) | (go_big_quiet_op; (first | go_big_quiet_on | ((refine ⟨_, fun _ _ => rfl, ?_⟩); go_big_quiet_on) | go_big_quiet_call ((intro hq; go_at_call 234; exact q_same (less_any _ _ _) hq))))))); (refine wpQuiet_nil ?_); intro wv hO)
     rw [hxy]
     go_wp2_with fail
     refine wp_region_any (by kernel_rfl) ?_
     replace hO := hO.drew
     have ix9 := Ix.mk [0, 1, 2, 3, 4, 5, 6, 7, 8, 9, 10, 11, 12, 14, 15, 16, 17, 18]
     iterate 18 (refine wpAny_tk ix9 ?_; replace ix9 := ix9.tail; (first | go_big_quiet_skip | (go_big_quiet_want; (go_big_quiet_op; (first | go_big_quiet_on | ((refine ⟨_, fun _ _ => rfl, ?_⟩); go_big_quiet_on))))); (refine wpQuiet_nil ?_); (try simp only [Act.put]); (try simp only [sI9, sZ9, sS9]))
     clear ix9
     refine wpAny_all (rs := [13, 19]) (by kernel_rfl) (by simp) (ord_cons ?_ (ord_cons ?_ ord_nil))
     rotate_left 2
     all_goals
      refine wpOp_of_listL rfl ?_
      (refine ldN ?_); (try simp only [Act.put]); (try simp only [sI9, sZ9, sS9])
      refine wpList_done (qk_intro ?_)
     refine wpAny_1 19 ?_
     rotate_left 1
     refine wpAny_1 13 ?_
     rotate_left 1
     all_goals
      refine wpOp_of_listL rfl ?_
      (refine ldN ?_); (try simp only [Act.put]); (try simp only [sI9, sZ9, sS9])
      refine wpList_done (qk_intro ?_)
     refine wpAny_tk (Ix.mk [20]) ?_
     (first | go_big_quiet_skip | (go_big_quiet_want; (go_big_quiet_op; (first | go_big_quiet_on | ((refine ⟨_, fun _ _ => rfl, ?_⟩); go_big_quiet_on))))); (refine wpQuiet_nil ?_); (try simp only [Act.put]); (try simp only [sI9, sZ9, sS9])
     refine wpAny_1 21 ?_
     rotate_left 1
     refine wpAny_tk (Ix.mk [20]) ?_
     (first | go_big_quiet_skip | (go_big_quiet_want; (go_big_quiet_op; (first | go_big_quiet_on | ((refine ⟨_, fun _ _ => rfl, ?_⟩); go_big_quiet_on))))); (refine wpQuiet_nil ?_); (try simp only [Act.put]); (try simp only [sI9, sZ9, sS9])
     refine wpAny_1 21 ?_
     rotate_left 1
     all_goals
      refine wpOp_of_listL rfl ?_
      ((with_reducible refine is_store ?_); (refine own_stU hO (h := ?_); clear hO; intro wv hO)); (try simp only [Act.put])
      refine wpList_done (qk_intro ?_)
     refine wpAny_tk (Ix.mk [22]) ?_
     (first | go_big_quiet_skip | (go_big_quiet_want; (go_big_quiet_op; (first | go_big_quiet_on | ((refine ⟨_, fun _ _ => rfl, ?_⟩); go_big_quiet_on))))); (refine wpQuiet_nil ?_); (try simp only [Act.put]); (try simp only [sI9, sZ9, sS9])
     refine wpAny_1 23 ?_
     rotate_left 1
     refine wpAny_tk (Ix.mk [22]) ?_
     (first | go_big_quiet_skip | (go_big_quiet_want; (go_big_quiet_op; (first | go_big_quiet_on | ((refine ⟨_, fun _ _ => rfl, ?_⟩); go_big_quiet_on))))); (refine wpQuiet_nil ?_); (try simp only [Act.put]); (try simp only [sI9, sZ9, sS9])
     refine wpAny_1 23 ?_
     rotate_left 1
     all_goals
      refine wpOp_of_listL rfl ?_
      ((with_reducible refine is_store ?_); (refine own_stU hO (h := ?_); clear hO; intro wv hO)); (try simp only [Act.put])
      refine wpList_done (qk_intro ?_)
     refine wpAny_done (by kernel_rfl) ?_ _
     rotate_left
     refine wpAny_done (by kernel_rfl) ?_ _
     rotate_left
     all_goals
      rw [uc_swp hx.out hy.out] at hO
      go_wp2_with fail
      go_roundw
      case rel => exact ⟨ch, _, by omega, rfl, by rw [Go.Sort.size_swp]; exact hk, hD1, hO⟩
      case measure => simp [intOf]; omega
  ·have g0 : decide ((hi : Int) ≤ ch) = true := by simp; omega
   have hD2 : d1 = D := by
    have := hD1.out
    rw [Go.Sort.siftDown, dif_pos (by omega)] at this; exact this
   clear hD1
   go_wp2_with fail
   go_end0
   subst hD2
   exact u_post hO List.mem_cons_self
end Go.Proofs.YtbdfblgdmappeaaGreatDoor
