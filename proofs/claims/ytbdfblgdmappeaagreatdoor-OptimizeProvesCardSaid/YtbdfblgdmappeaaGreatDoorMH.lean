/- The library's sort at uint64: heap sort, reversal. -/
import Derived.Test.YtbdfblgdmappeaaGreatDoorMG
namespace Go.Proofs.YtbdfblgdmappeaaGreatDoor
open Go.RowKit
open Go.Sort (swp ltInt)
set_option maxRecDepth 100000
theorem size_sift (hi f : Nat) : ∀ (n r : Nat) (d : Array Int), hi - r ≤ n → (Go.Sort.siftDown ltInt hi f r d).size = d.size
 | 0, r, d, h => by rw [Go.Sort.siftDown, dif_pos (by omega)]
 | n + 1, r, d, h => by
  rw [Go.Sort.siftDown]
  split
  ·rfl
  ·split
   ·split
    ·rfl
    ·split
     ·rw [size_sift hi f n _ _ (by omega), Go.Sort.size_swp]
     ·rfl
   ·split
    ·rfl
    ·rw [size_sift hi f n _ _ (by omega), Go.Sort.size_swp]
set_option maxHeartbeats 4000000 in
theorem heap_any {g c k : Nat} {d : Array Int} (a b : Nat) (w : World) (hr : OwnsU w g k c d) (hk : d.size = k) (hb : b ≤ k) (hab : a ≤ b) (hl : k ≤ 140737488355328) :
  Calls Tryz.prog 229 #[.slice (some ⟨g, 0, none⟩) k c, .int .i64 a, .int .i64 b] w (UPost w g k c (Go.Sort.heapSort ltInt d a b) (.tuple #[])) := by
 have hO := hr.own
 obtain ⟨D, hD⟩ : ∃ D, D = Go.Sort.heapSort ltInt d a b := ⟨_, rfl⟩
 have hD1 : Hid (Go.Sort.heapPop ltInt a (b - a) (Go.Sort.heapBuild ltInt (b - a) a ((b - a - 1) / 2 + 1) d) = D) := Lib.hid hD.symm
 rw [← hD]
 clear hr hD
 obtain ⟨n, hn⟩ : ∃ n, b - a = n := ⟨_, rfl⟩
 obtain ⟨m0, hm0⟩ : ∃ m0, (n - 1) / 2 + 1 = m0 := ⟨_, rfl⟩
 rw [hn, hm0] at hD1
 have e0 : (b : Int) - a = n := by omega
 have s0 : IntKind.i64.wrap ((b : Int) - a) = n := by rw [IntWalk.i64_in _ (by omega)]; omega
 have s1 : IntKind.i64.wrap ((n : Int) - 1) = (n : Int) - 1 := IntWalk.i64_in _ (by omega)
 have s2 : IntKind.i64.wrap (((n : Int) - 1).tdiv 2) = (m0 : Int) - 1 := by
  rcases Nat.eq_zero_or_pos n with h | h
  ·subst h
   obtain rfl : m0 = 1 := by omega
   rfl
  ·rw [Int.tdiv_eq_ediv_of_nonneg (by omega), IntWalk.i64_in _ (by omega)]; omega
 have e2 : ((n : Int) - 1).tdiv 2 = (m0 : Int) - 1 := by
  rw [IntWalk.i64_in] at s2
  ·exact s2
  ·rcases Nat.eq_zero_or_pos n with h | h
   ·subst h; decide
   ·rw [Int.tdiv_eq_ediv_of_nonneg (by omega)]; omega
 have hm1 : m0 ≤ n + 1 := by omega
 have hm2 : 1 ≤ m0 := by omega
 have s3 : wrap64 ((m0 : Int) - 1) = (m0 : Int) - 1 := IntWalk.wrap64_in _ (by omega)
 clear hm0
 go_enter Tryz.func229, Tryz.ntmps229
 go_wp2_with fail
 go_loopw [9] (fun q wr => ∃ (m : Nat) (d1 : Array Int), q = .int .i64 ((m : Int) - 1) ∧ m ≤ n + 1 ∧ d1.size = k ∧ Hid (Go.Sort.heapPop ltInt a n (Go.Sort.heapBuild ltInt n a m d1) = D) ∧ Own [g] w [] [⟨.slice (some ⟨g, 0, none⟩) k c, k, uc d1, 200, 1⟩] [] wr) (fun q _ => (intOf q + 1).toNat)
 case atStart => exact ⟨m0, d, by (rfl), hm1, hk, hD1, hO⟩
 case round =>
  clear hO hD1 hk e2 s2
  obtain ⟨m, d1, rfl, hm, hk, hD1, hO⟩ := hrel
  clear d
  cases m with
  | zero =>
   have e3 : ((0 : Nat) : Int) - 1 = -1 := rfl
   rw [e3]
   have hD2 : Hid (Go.Sort.heapPop ltInt a n d1 = D) := hD1
   clear hD1
   go_wp2_with fail
   go_loopw [10] (fun q wr => ∃ (m : Nat) (d2 : Array Int), q = .int .i64 ((m : Int) - 1) ∧ m ≤ n ∧ d2.size = k ∧ Hid (Go.Sort.heapPop ltInt a m d2 = D) ∧ Own [g] w [] [⟨.slice (some ⟨g, 0, none⟩) k c, k, uc d2, 200, 1⟩] [] wr) (fun q _ => (intOf q + 1).toNat)
   case atStart => exact ⟨n, d1, by (rfl), by omega, hk, hD2, hO⟩
   case round =>
    clear hO hD2 hk
    obtain ⟨m, d2, rfl, hm, hk, hD1, hO⟩ := hrel
    clear d1
    cases m with
    | zero =>
     rw [e3]
     have hD2 : d2 = D := hD1.out
     clear hD1
     go_wp2_with fail
     go_end0
     subst hD2
     exact u_post hO List.mem_cons_self
    | succ m =>
     have e4 : ((m + 1 : Nat) : Int) - 1 = (m : Int) := by omega
     rw [e4]
     obtain ⟨p, hp⟩ : ∃ p, a + m = p := ⟨_, rfl⟩
     have s4 : IntKind.i64.wrap ((a : Int) + m) = (p : Int) := by rw [IntWalk.i64_in _ (by omega)]; omega
     have e5 : (a : Int) + m = (p : Int) := by omega
     have g1 : decide (0 ≤ (m : Int)) = true := by simp
     have i1 : (0 : Int) ≤ (p : Int) := by omega
     have i2 : (p : Int) < k := by omega
     have i3 : (0 : Int) ≤ (a : Int) := by omega
     have i4 : (a : Int) < k := by omega
     obtain ⟨x, hx, c1⟩ := uc_get (d := d2) (k := a) (by omega)
     obtain ⟨y, hy, c2⟩ := uc_get (d := d2) (k := p) (by omega)
     have h1 := fun w hr => sift_any (g := g) (c := c) (k := k) (d := swp d2 a p) 0 m a w hr (by rw [Go.Sort.size_swp]; exact hk) (by omega) (by omega) hl
     have hz := size_sift m a m 0 (swp d2 a p) (by omega)
     rw [Go.Sort.size_swp, hk] at hz
     rw [Go.Sort.heapPop, hp] at hD1
     go_wp2_with fail
     refine wp_region_any (by kernel_rfl) ?_
     replace hO := hO.drew
     have ix9 := Ix.mk [0, 1, 2, 3, 4, 5, 6, 7, 8, 9, 10, 12, 13, 14]
     iterate 14 (refine wpAny_tk ix9 ?_; replace ix9 := ix9.tail; (first | go_big_quiet_skip | (go_big_quiet_want; (go_big_quiet_op; (first | go_big_quiet_on | ((refine ⟨_, fun _ _ => rfl, ?_⟩); go_big_quiet_on))))); (refine wpQuiet_nil ?_); (try simp only [Act.put]); (try simp only [sI9, sZ9, sS9]))
     clear ix9
     refine wpAny_all (rs := [11, 15]) (by kernel_rfl) (by simp) (ord_cons ?_ (ord_cons ?_ ord_nil))
     rotate_left 2
     all_goals
      refine wpOp_of_listL rfl ?_
      (refine ldN ?_); (try simp only [Act.put]); (try simp only [sI9, sZ9, sS9])
      refine wpList_done (qk_intro ?_)
     refine wpAny_1 15 ?_
     rotate_left 1
     refine wpAny_1 11 ?_
     rotate_left 1
     all_goals
      refine wpOp_of_listL rfl ?_
      (refine ldN ?_); (try simp only [Act.put]); (try simp only [sI9, sZ9, sS9])
      refine wpList_done (qk_intro ?_)
     refine wpAny_tk (Ix.mk [16]) ?_
     (first | go_big_quiet_skip | (go_big_quiet_want; (go_big_quiet_op; (first | go_big_quiet_on | ((refine ⟨_, fun _ _ => rfl, ?_⟩); go_big_quiet_on))))); (refine wpQuiet_nil ?_); (try simp only [Act.put]); (try simp only [sI9, sZ9, sS9])
     refine wpAny_1 17 ?_
     rotate_left 1
     refine wpAny_tk (Ix.mk [16]) ?_
     (first | go_big_quiet_skip | (go_big_quiet_want; (go_big_quiet_op; (first | go_big_quiet_on | ((refine ⟨_, fun _ _ => rfl, ?_⟩); go_big_quiet_on))))); (refine wpQuiet_nil ?_); (try simp only [Act.put]); (try simp only [sI9, sZ9, sS9])
     refine wpAny_1 17 ?_
     rotate_left 1
     all_goals
      refine wpOp_of_listL rfl ?_
      ((with_reducible refine is_store ?_); (refine own_stU hO (h := ?_); clear hO; intro wv hO)); (try simp only [Act.put])
      refine wpList_done (qk_intro ?_)
     refine wpAny_tk (Ix.mk [18]) ?_
     (first | go_big_quiet_skip | (go_big_quiet_want; (go_big_quiet_op; (first | go_big_quiet_on | ((refine ⟨_, fun _ _ => rfl, ?_⟩); go_big_quiet_on))))); (refine wpQuiet_nil ?_); (try simp only [Act.put]); (try simp only [sI9, sZ9, sS9])
     refine wpAny_1 19 ?_
     rotate_left 1
     refine wpAny_tk (Ix.mk [18]) ?_
     (first | go_big_quiet_skip | (go_big_quiet_want; (go_big_quiet_op; (first | go_big_quiet_on | ((refine ⟨_, fun _ _ => rfl, ?_⟩); go_big_quiet_on))))); (refine wpQuiet_nil ?_); (try simp only [Act.put]); (try simp only [sI9, sZ9, sS9])
     refine wpAny_1 19 ?_
     rotate_left 1
     all_goals
      refine wpOp_of_listL rfl ?_
      ((with_reducible refine is_store ?_); (refine own_stU hO (h := ?_); clear hO; intro wv hO)); (try simp only [Act.put])
      refine wpList_done (qk_intro ?_)
     refine wpAny_done (by kernel_rfl) ?_ _
     rotate_left
     refine wpAny_done (by kernel_rfl) ?_ _
     rotate_left
     all_goals
      rw [uc_swp hx.out hy.out] at hO
      clear hx hy c1 c2
      generalize Go.Sort.siftDown ltInt m a 0 (swp d2 a p) = d3 at *
      go_wp2_with (go_at_call 242; refine (h1 _ (hO.row _ List.mem_cons_self)).mono ?_; rintro e wv hw; obtain rfl := hw.1; replace hO := hO.afterRow .here hw.2.1 hw.2.2; clear hw h1)
      go_roundw
      case rel => exact ⟨m, d3, by (rfl), by omega, hz, hD1, hO⟩
      case measure => simp [intOf]
  | succ m =>
   have e4 : ((m + 1 : Nat) : Int) - 1 = (m : Int) := by omega
   rw [e4]
   have g1 : decide (0 ≤ (m : Int)) = true := by simp
   by_cases hmn : m < n
   ·have h1 := fun w hr => sift_any (g := g) (c := c) (k := k) (d := d1) m n a w hr hk (by omega) (by omega) hl
    have hz := size_sift n a n m d1 (by omega)
    rw [hk] at hz
    rw [Go.Sort.heapBuild] at hD1
    generalize Go.Sort.siftDown ltInt n a m d1 = d3 at *
    go_wp2_with (go_at_call 242; refine (h1 _ (hO.row _ List.mem_cons_self)).mono ?_; rintro e wv hw; obtain rfl := hw.1; replace hO := hO.afterRow .here hw.2.1 hw.2.2; clear hw h1)
    go_roundw
    case rel => exact ⟨m, d3, by (rfl), by omega, hz, hD1, hO⟩
    case measure => simp [intOf]
   ·have hmn' : m = n := by omega
    subst hmn'
    have h1 := fun w hr => sift_any (g := g) (c := c) (k := k) (d := d1) m m a w hr hk (by omega) (by omega) hl
    have hz := size_sift m a m m d1 (by omega)
    rw [hk] at hz
    rw [Go.Sort.heapBuild] at hD1
    generalize Go.Sort.siftDown ltInt m a m d1 = d3 at *
    go_wp2_with (go_at_call 242; refine (h1 _ (hO.row _ List.mem_cons_self)).mono ?_; rintro e wv hw; obtain rfl := hw.1; replace hO := hO.afterRow .here hw.2.1 hw.2.2; clear hw h1)
    go_roundw
    case rel => exact ⟨m, d3, by (rfl), by omega, hz, hD1, hO⟩
    case measure => simp [intOf]
set_option maxHeartbeats 4000000 in
theorem revr_any {g c k : Nat} {d : Array Int} (a b : Nat) (w : World) (hr : OwnsU w g k c d) (hk : d.size = k) (hb : b ≤ k) (hab : a < b) (hl : k ≤ 140737488355328) :
  Calls Tryz.prog 232 #[.slice (some ⟨g, 0, none⟩) k c, .int .i64 a, .int .i64 b] w (UPost w g k c (Go.Sort.reverseRange d a b) (.tuple #[])) := by
 have hO := hr.own
 obtain ⟨D, hD⟩ : ∃ D, D = Go.Sort.reverseRange d a b := ⟨_, rfl⟩
 have hD1 : Hid (Go.Sort.reverseLoop a (b - 1) d = D) := Lib.hid hD.symm
 rw [← hD]
 clear hr hD
 obtain ⟨b, rfl⟩ : ∃ b', b = b' + 1 := ⟨b - 1, by omega⟩
 have e1 : ((b + 1 : Nat) : Int) = (b : Int) + 1 := by omega
 rw [e1]
 rw [Nat.add_sub_cancel] at hD1
 have s1 : IntKind.i64.wrap ((b : Int) + 1 - 1) = b := by rw [IntWalk.i64_in _ (by omega)]; omega
 have s2 : IntKind.i64.wrap (b : Int) = b := IntWalk.i64_in _ (by omega)
 go_enter Tryz.func232, Tryz.ntmps232
 go_wp2_with fail
 go_loopw [6, 7] (fun q r wr => ∃ (i j : Nat) (d1 : Array Int), i ≤ b + 1 ∧ j ≤ b ∧ q = .int .i64 i ∧ r = .int .i64 j ∧ d1.size = k ∧ Hid (Go.Sort.reverseLoop i j d1 = D) ∧ Own [g] w [] [⟨.slice (some ⟨g, 0, none⟩) k c, k, uc d1, 200, 1⟩] [] wr) (fun q r _ => (intOf r).toNat - (intOf q).toNat)
 case atStart => exact ⟨a, b, d, by omega, by omega, rfl, by (rfl), hk, hD1, hO⟩
 case round =>
  clear hO hD1 hk s1 s2
  obtain ⟨i, j, d1, hi, hj, rfl, rfl, hk, hD1, hO⟩ := hrel
  clear d
  by_cases hlt : i < j
  ·obtain ⟨j, rfl⟩ : ∃ j', j = j' + 1 := ⟨j - 1, by omega⟩
   have e3 : ((j + 1 : Nat) : Int) = (j : Int) + 1 := by omega
   rw [e3]
   have g1 : decide ((i : Int) < (j : Int) + 1) = true := by simp; omega
   have s3 : IntKind.i64.wrap ((j : Int) + 1 - 1) = j := by rw [IntWalk.i64_in _ (by omega)]; omega
   have s4 : IntKind.i64.wrap (j : Int) = j := IntWalk.i64_in _ (by omega)
   have s5 : IntKind.i64.wrap ((i : Int) + 1) = (i : Int) + 1 := IntWalk.i64_in _ (by omega)
   have s6 : ((j : Int) + 1).toNat = j + 1 := by omega
   have i1 : (0 : Int) ≤ (i : Int) := by omega
   have i2 : (i : Int) < k := by omega
   have i3 : (0 : Int) ≤ (j : Int) + 1 := by omega
   have i4 : (j : Int) + 1 < k := by omega
   obtain ⟨x, hx, c1⟩ := uc_get (d := d1) (k := i) (by omega)
   obtain ⟨y, hy, c2⟩ := uc_get (d := d1) (k := j + 1) (by omega)
   rw [Go.Sort.reverseLoop, if_pos hlt, Nat.add_sub_cancel] at hD1
   go_wp2_with fail
   refine wp_region_any (by kernel_rfl) ?_
   replace hO := hO.drew
   have ix9 := Ix.mk [0, 1, 2, 3, 4, 5, 6, 8, 9, 10]
   iterate 10 (refine wpAny_tk ix9 ?_; replace ix9 := ix9.tail; (first | go_big_quiet_skip | (go_big_quiet_want; (go_big_quiet_op; (first | go_big_quiet_on | ((refine ⟨_, fun _ _ => rfl, ?_⟩); go_big_quiet_on))))); (refine wpQuiet_nil ?_); (try simp only [Act.put]); (try simp only [sI9, sZ9, sS9]))
   clear ix9
   refine wpAny_all (rs := [7, 11]) (by kernel_rfl) (by simp) (ord_cons ?_ (ord_cons ?_ ord_nil))
   rotate_left 2
   all_goals
    refine wpOp_of_listL rfl ?_
    (refine ldN ?_); (try simp only [Act.put]); (try simp only [sI9, sZ9, sS9])
    refine wpList_done (qk_intro ?_)
   refine wpAny_1 11 ?_
   rotate_left 1
   refine wpAny_1 7 ?_
   rotate_left 1
   all_goals
    refine wpOp_of_listL rfl ?_
    (refine ldN ?_); (try simp only [Act.put]); (try simp only [sI9, sZ9, sS9])
    refine wpList_done (qk_intro ?_)
   refine wpAny_tk (Ix.mk [12]) ?_
   (first | go_big_quiet_skip | (go_big_quiet_want; (go_big_quiet_op; (first | go_big_quiet_on | ((refine ⟨_, fun _ _ => rfl, ?_⟩); go_big_quiet_on))))); (refine wpQuiet_nil ?_); (try simp only [Act.put]); (try simp only [sI9, sZ9, sS9])
   refine wpAny_1 13 ?_
   rotate_left 1
   refine wpAny_tk (Ix.mk [12]) ?_
   (first | go_big_quiet_skip | (go_big_quiet_want; (go_big_quiet_op; (first | go_big_quiet_on | ((refine ⟨_, fun _ _ => rfl, ?_⟩); go_big_quiet_on))))); (refine wpQuiet_nil ?_); (try simp only [Act.put]); (try simp only [sI9, sZ9, sS9])
   refine wpAny_1 13 ?_
   rotate_left 1
   all_goals
    refine wpOp_of_listL rfl ?_
    ((with_reducible refine is_store ?_); (refine own_stU hO (h := ?_); clear hO; intro wv hO)); (try simp only [Act.put])
    refine wpList_done (qk_intro ?_)
   refine wpAny_tk (Ix.mk [14]) ?_
   (first | go_big_quiet_skip | (go_big_quiet_want; (go_big_quiet_op; (first | go_big_quiet_on | ((refine ⟨_, fun _ _ => rfl, ?_⟩); go_big_quiet_on))))); (refine wpQuiet_nil ?_); (try simp only [Act.put]); (try simp only [sI9, sZ9, sS9])
   refine wpAny_1 15 ?_
   rotate_left 1
   refine wpAny_tk (Ix.mk [14]) ?_
   (first | go_big_quiet_skip | (go_big_quiet_want; (go_big_quiet_op; (first | go_big_quiet_on | ((refine ⟨_, fun _ _ => rfl, ?_⟩); go_big_quiet_on))))); (refine wpQuiet_nil ?_); (try simp only [Act.put]); (try simp only [sI9, sZ9, sS9])
   refine wpAny_1 15 ?_
   rotate_left 1
   all_goals
    refine wpOp_of_listL rfl ?_
    ((with_reducible refine is_store ?_); (refine own_stU hO (h := ?_); clear hO; intro wv hO)); (try simp only [Act.put])
    refine wpList_done (qk_intro ?_)
   refine wpAny_done (by kernel_rfl) ?_ _
   rotate_left
   refine wpAny_done (by kernel_rfl) ?_ _
   rotate_left
   all_goals
    rw [uc_swp hx.out hy.out] at hO
    go_wp2_with fail
    go_roundw
    case rel => exact ⟨i + 1, j, _, by omega, by omega, by go_num, by (rfl), by rw [Go.Sort.size_swp]; exact hk, hD1, hO⟩
    case measure => simp [intOf]; omega
  ·have g1 : decide ((i : Int) < (j : Int)) = false := by simp; omega
   have hD2 : d1 = D := by
    have := hD1.out
    rw [Go.Sort.reverseLoop, if_neg hlt] at this; exact this
   clear hD1
   go_wp2_with fail
   go_end0
   subst hD2
   exact u_post hO List.mem_cons_self
end Go.Proofs.YtbdfblgdmappeaaGreatDoor
