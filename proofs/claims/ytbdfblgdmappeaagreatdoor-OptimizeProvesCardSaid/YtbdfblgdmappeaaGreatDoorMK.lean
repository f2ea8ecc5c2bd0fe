/- The library's sort at uint64: partial insertion. -/
import Derived.Deep.CutRange
import Derived.Deep.DeepCutAuto
import Derived.Deep.LoopGhost
import Derived.Lib.BitFns
import Derived.Lib.ItoaNum
import Derived.Laws.BitsAllLaws
import Derived.Laws.Bits64b
import Derived.Sort.LotD5
import Derived.Test.YtbdfblgdmappeaaGreatDoorMH
import Derived.Test.YtbdfblgdmappeaaGreatDoorMU
namespace Go.Proofs.YtbdfblgdmappeaaGreatDoor
open Go.RowKit
open Go.Sort (swp ltInt)
set_option maxRecDepth 100000
theorem size_shd : ∀ (j : Nat) (d : Array Int), (Go.Sort.shiftDown ltInt j d).size = d.size
 | 0, _ => rfl
 | j + 1, d => by
  rw [Go.Sort.shiftDown]; split
  ·rfl
  ·rw [size_shd j, Go.Sort.size_swp]
theorem size_shu : ∀ (n b j : Nat) (d : Array Int), b - j ≤ n → (Go.Sort.shiftUp ltInt b j d).size = d.size
 | 0, b, j, d, h => by rw [Go.Sort.shiftUp, if_neg (by omega)]
 | n + 1, b, j, d, h => by
  rw [Go.Sort.shiftUp]; split
  ·split
   ·rfl
   ·rw [size_shu n b _ _ (by omega), Go.Sort.size_swp]
  ·rfl
set_option maxHeartbeats 8000000 in
theorem pins_any {g c k : Nat} {d : Array Int} (a b : Nat) (w : World) (hr : OwnsU w g k c d) (hk : d.size = k) (hb : b ≤ k) (hab : a < b) (hl : k ≤ 140737488355328) :
  Calls Tryz.prog 233 #[.slice (some ⟨g, 0, none⟩) k c, .int .i64 a, .int .i64 b] w (UPost w g k c (Go.Sort.partialInsertionSort ltInt d a b).1 (.bool (Go.Sort.partialInsertionSort ltInt d a b).2)) := by
 have hO := hr.own
 obtain ⟨D, hD⟩ : ∃ D, Go.Sort.partialInsertionSort ltInt d a b = D := ⟨_, rfl⟩
 have hE : Hid (Go.Sort.partialIns ltInt a b 5 (a + 1) d = D) := Lib.hid hD
 rw [hD]
 clear hr hD
 have s1 : IntKind.i64.wrap ((a : Int) + 1) = (a : Int) + 1 := IntWalk.i64_in _ (by omega)
 obtain ⟨nb, hnb⟩ : ∃ nb, b - a = nb := ⟨_, rfl⟩
 have s2 : IntKind.i64.wrap ((b : Int) - a) = nb := by rw [IntWalk.i64_in _ (by omega)]; omega
 have s3 : (b : Int) - a = nb := by omega
 go_enter Tryz.func233, Tryz.ntmps233
 go_wp2_with fail
 go_loopg [7, 8] 6 (fun gk q r wr => ∃ (i m s : Nat) (d1 : Array Int), s + 1 ≤ gk ∧ m + s = 5 ∧ q = .int .i64 i ∧ r = .int .i64 m ∧ a + 1 ≤ i ∧ i ≤ b ∧ d1.size = k ∧ Hid (Go.Sort.partialIns ltInt a b s i d1 = D) ∧ Own [g] w [] [⟨.slice (some ⟨g, 0, none⟩) k c, k, uc d1, 200, 1⟩] [] wr)
 case atStart => exact ⟨a + 1, 0, 5, d, by omega, by omega, by (rfl), rfl, by omega, by omega, hk, hE, hO⟩
 case round =>
  clear hO hE hk
  obtain ⟨i0, m, s, d1, hgk0, hms, rfl, rfl, hi0, hi1, hk, hE, hO⟩ := hrel
  clear d
  obtain ⟨gk0, hgk1⟩ : ∃ gk0, gk0 = gk := ⟨_, rfl⟩
  rw [← hgk1] at hgk0
  cases s with
  | zero =>
   obtain rfl : m = 5 := by omega
   have hX : (d1, false) = D := hE.out
   subst hX
   clear hE
   go_wp2_with fail
   go_ret
   exact u_post hO List.mem_cons_self
  | succ s =>
   have g0 : decide ((m : Int) < 5) = true := by simp; omega
   have r1 : IntKind.i64.wrap ((m : Int) + 1) = (m : Int) + 1 := IntWalk.i64_in _ (by omega)
   rw [Go.Sort.partialIns_succ] at hE
   unfold Go.Sort.fixDown Go.Sort.fixUp at hE
   obtain ⟨I, hI⟩ : ∃ I, Go.Sort.scanSorted ltInt d1 b i0 = I := ⟨_, rfl⟩
   have hIH : Hid (Go.Sort.scanSorted ltInt d1 b i0 = I) := Lib.hid hI
   rw [hI] at hE
   clear hI
   go_wp2_with fail
   go_loopg [7] (b + 1) (fun gk q wr => ∃ (i : Nat), b + 1 - i ≤ gk ∧ q = .int .i64 i ∧ a + 1 ≤ i ∧ i ≤ b ∧ Hid (Go.Sort.scanSorted ltInt d1 b i = I) ∧ Own [g] w [] [⟨.slice (some ⟨g, 0, none⟩) k c, k, uc d1, 200, 1⟩] [] wr)
   case atStart => exact ⟨i0, by omega, rfl, hi0, hi1, hIH, hO⟩
   case round =>
    clear hO hIH hi0 hi1
    obtain ⟨i, hgk, rfl, hi0, hi1, hIH, hO⟩ := hrel
    obtain ⟨n, rfl⟩ : ∃ n, i = n + 1 := ⟨i - 1, by omega⟩
    have e2 : ((n + 1 : Nat) : Int) = (n : Int) + 1 := by omega
    have s5 : IntKind.i64.wrap ((n : Int) + 1 - 1) = (n : Int) := by rw [IntWalk.i64_in _ (by omega)]; omega
    have s6 : IntKind.i64.wrap (n : Int) = (n : Int) := IntWalk.i64_in _ (by omega)
    have s7 : ((n : Int) + 1).toNat = n + 1 := by omega
    have s8 : IntKind.i64.wrap ((n : Int) + 1 + 1) = (n : Int) + 2 := by rw [IntWalk.i64_in _ (by omega)]; omega
    rw [e2]
    go_upto_region 5 with fail
    go_cut [32] (fun v wr => v = .bool (decide (n + 1 < b) && !ltInt d1[n + 1]! d1[n]!) ∧ Own [g] w [] [⟨.slice (some ⟨g, 0, none⟩) k c, k, uc d1, 200, 1⟩] [] wr)
    case first =>
     by_cases hg : n + 1 < b
     ·have g1 : decide ((n : Int) + 1 < b) = true := by simp; omega
      have z1 : (0 : Int) ≤ (n : Int) + 1 := by omega
      have z2 : (n : Int) + 1 < k := by omega
      have z3 : (0 : Int) ≤ (n : Int) := by omega
      have z4 : (n : Int) < k := by omega
      obtain ⟨x, hx, c1⟩ := uc_get (d := d1) (k := n + 1) (by omega)
      obtain ⟨y, hy, c2⟩ := uc_get (d := d1) (k := n) (by omega)
      (refine own_quiet hO (by kernel_rfl) (by kernel_rfl) ?_; clear hO; (repeat (go_big_quiet_want; (first | ((with_reducible refine is_loadQ ?_); (refine q_ldU (h := ?_)); (try simp only [Act.put]); (try simp only [sI9, sZ9, sS9]); go_big_quiet_on) | (go_big_quiet_op; (first | go_big_quiet_on | ((refine ⟨_, fun _ _ => rfl, ?_⟩); go_big_quiet_on) | go_big_quiet_call ((intro hq; go_at_call 234; exact q_same (less_any _ _ _) hq))))))); (refine wpQuiet_nil ?_); intro wv hO)
      go_wp2_with fail
      go_meet
      case rel => exact ⟨by rw [decide_eq_true hg, Bool.true_and, ← hx.out, ← hy.out], hO⟩
     ·have g1 : decide ((n : Int) + 1 < b) = false := by simp; omega
      (refine own_quiet hO (by kernel_rfl) (by kernel_rfl) ?_; clear hO; (repeat (first | go_big_quiet_skip | (go_big_quiet_want; (go_big_quiet_op; (first | go_big_quiet_on | ((refine ⟨_, fun _ _ => rfl, ?_⟩); go_big_quiet_on)))))); (refine wpQuiet_nil ?_); intro wv hO)
      go_wp2_with fail
      go_meet
      case rel => exact ⟨by rw [decide_eq_false hg, Bool.false_and], hO⟩
    case rest =>
     clear hO
     obtain ⟨rfl, hO⟩ := hcut
     cases hc : (decide (n + 1 < b) && !ltInt d1[n + 1]! d1[n]!)
     ·have hI3 : n + 1 = I := by
       have := hIH.out
       rw [Go.Sort.scanSorted, Nat.add_sub_cancel, if_neg (by rw [hc]; simp)] at this; exact this
      subst hI3
      clear hIH hc hgk s8
      by_cases hib : n + 1 = b
      ·have g2 : ((n : Int) + 1 == (b : Int)) = true := by simp; omega
       have hX : (d1, true) = D := by
        have := hE.out
        rwa [if_pos hib] at this
       clear hE
       go_wp2_with fail
       go_ret
       subst hX
       exact u_post hO List.mem_cons_self
      ·have g2 : ((n : Int) + 1 == (b : Int)) = false := by simp; omega
       rw [if_neg hib, hnb] at hE
       by_cases h50 : nb < 50
       ·have g3 : decide ((nb : Int) < 50) = true := by simp; omega
        have hX : (d1, false) = D := by
         have := hE.out
         rwa [if_pos h50] at this
        clear hE
        go_wp2_with fail
        go_ret
        subst hX
        exact u_post hO List.mem_cons_self
       ·have g3 : decide ((nb : Int) < 50) = false := by simp; omega
        rw [if_neg h50, Nat.add_sub_cancel] at hE
        have z1 : (0 : Int) ≤ (n : Int) + 1 := by omega
        have z2 : (n : Int) + 1 < k := by omega
        have z3 : (0 : Int) ≤ (n : Int) := by omega
        have z4 : (n : Int) < k := by omega
        obtain ⟨x, hx, c1⟩ := uc_get (d := d1) (k := n + 1) (by omega)
        obtain ⟨y, hy, c2⟩ := uc_get (d := d1) (k := n) (by omega)
        go_wp2_with fail
        apply wp_via
        case h =>
         refine wp_region_any (by kernel_rfl) ?_
         replace hO := hO.drew
         have ix9 := Ix.mk [0, 1, 2, 3, 4, 5, 6, 7, 8, 10, 11, 12]
         iterate 12 (refine wpAny_tkO ix9 ?_; replace ix9 := ix9.tail; (first | go_big_quiet_skip | (go_big_quiet_want; (go_big_quiet_op; (first | go_big_quiet_on | ((refine ⟨_, fun _ _ => rfl, ?_⟩); go_big_quiet_on))))); (refine wpQuiet_nil ?_); (try simp only [Act.put]); (try simp only [sI9, sZ9, sS9]))
         clear ix9
         refine wpAny_all (rs := [9, 13]) (by kernel_rfl) (by simp) (ord_cons ?_ (ord_cons ?_ ord_nil))
         rotate_left 2
         all_goals
          refine wpOp_of_listL rfl ?_
          (refine ldN ?_); (try simp only [Act.put]); (try simp only [sI9, sZ9, sS9])
          refine wpList_done (qk_intro ?_)
         refine wpAny_1 13 ?_
         rotate_left 1
         refine wpAny_1 9 ?_
         rotate_left 1
         all_goals
          refine wpOp_of_listL rfl ?_
          (refine ldN ?_); (try simp only [Act.put]); (try simp only [sI9, sZ9, sS9])
          refine wpList_done (qk_intro ?_)
         refine wpAny_tkO (Ix.mk [14]) ?_
         (first | go_big_quiet_skip | (go_big_quiet_want; (go_big_quiet_op; (first | go_big_quiet_on | ((refine ⟨_, fun _ _ => rfl, ?_⟩); go_big_quiet_on))))); (refine wpQuiet_nil ?_); (try simp only [Act.put]); (try simp only [sI9, sZ9, sS9])
         refine wpAny_1 15 ?_
         rotate_left 1
         refine wpAny_tkO (Ix.mk [14]) ?_
         (first | go_big_quiet_skip | (go_big_quiet_want; (go_big_quiet_op; (first | go_big_quiet_on | ((refine ⟨_, fun _ _ => rfl, ?_⟩); go_big_quiet_on))))); (refine wpQuiet_nil ?_); (try simp only [Act.put]); (try simp only [sI9, sZ9, sS9])
         refine wpAny_1 15 ?_
         rotate_left 1
         all_goals
          refine wpOp_of_listL rfl ?_
          ((with_reducible refine is_store ?_); (refine own_stU hO (h := ?_); clear hO; intro wv hO)); (try simp only [Act.put])
          refine wpList_done (qk_intro ?_)
         refine wpAny_tkO (Ix.mk [16]) ?_
         (first | go_big_quiet_skip | (go_big_quiet_want; (go_big_quiet_op; (first | go_big_quiet_on | ((refine ⟨_, fun _ _ => rfl, ?_⟩); go_big_quiet_on))))); (refine wpQuiet_nil ?_); (try simp only [Act.put]); (try simp only [sI9, sZ9, sS9])
         refine wpAny_1 17 ?_
         rotate_left 1
         refine wpAny_tkO (Ix.mk [16]) ?_
         (first | go_big_quiet_skip | (go_big_quiet_want; (go_big_quiet_op; (first | go_big_quiet_on | ((refine ⟨_, fun _ _ => rfl, ?_⟩); go_big_quiet_on))))); (refine wpQuiet_nil ?_); (try simp only [Act.put]); (try simp only [sI9, sZ9, sS9])
         refine wpAny_1 17 ?_
         rotate_left 1
         all_goals
          refine wpOp_of_listL rfl ?_
          ((with_reducible refine is_store ?_); (refine own_stU hO (h := ?_); clear hO; intro wv hO)); (try simp only [Act.put])
          refine wpList_done (qk_intro ?_)
         exact wpAny_done (by kernel_rfl) ⟨rfl, rfl, hO⟩ _
         exact wpAny_done (by kernel_rfl) ⟨rfl, rfl, hO⟩ _
        clear hO
        intro wv hO
        rw [uc_swp hx.out hy.out] at hO
        clear hx hy c1 c2
        obtain ⟨d2, hd2⟩ : ∃ d2, swp d1 (n + 1) n = d2 := ⟨_, rfl⟩
        have hk2 : d2.size = k := by rw [← hd2, Go.Sort.size_swp]; exact hk
        rw [hd2] at hO hE
        clear hd2 hk
        try clear d1
        obtain ⟨ia, hia⟩ : ∃ ia, n + 1 - a = ia := ⟨_, rfl⟩
        obtain ⟨ib, hib2⟩ : ∃ ib, b - (n + 1) = ib := ⟨_, rfl⟩
        rw [hia, hib2] at hE
        have t1 : IntKind.i64.wrap ((n : Int) + 1 - a) = ia := by rw [IntWalk.i64_in _ (by omega)]; omega
        have t2 : (n : Int) + 1 - a = ia := by omega
        have t3 : IntKind.i64.wrap ((b : Int) - ((n : Int) + 1)) = ib := by rw [IntWalk.i64_in _ (by omega)]; omega
        have t4 : (b : Int) - ((n : Int) + 1) = ib := by omega
        obtain ⟨d3, hd3⟩ : ∃ d3, (if ia ≥ 2 then Go.Sort.shiftDown ltInt n d2 else d2) = d3 := ⟨_, rfl⟩
        have hk3 : d3.size = k := by
         rw [← hd3]; split
         ·rw [size_shd]; exact hk2
         ·exact hk2
        have hH3 : Hid ((if ia ≥ 2 then Go.Sort.shiftDown ltInt n d2 else d2) = d3) := Lib.hid hd3
        rw [hd3] at hE
        clear hd3
        go_upto_if 61 with fail
        go_cut [9] (fun _ wr => Own [g] w [] [⟨.slice (some ⟨g, 0, none⟩) k c, k, uc d3, 200, 1⟩] [] wr)
        case first =>
         clear hE
         by_cases h2 : 2 ≤ ia
         ·have g4 : decide (2 ≤ (ia : Int)) = true := by simp; omega
          rw [if_pos h2] at hH3
          go_wp2_with fail
          go_loopg [9] (n + 1) (fun gk q wr => ∃ (j : Nat) (d4 : Array Int), j + 1 ≤ gk ∧ q = .int .i64 j ∧ j ≤ n ∧ d4.size = k ∧ Hid (Go.Sort.shiftDown ltInt j d4 = d3) ∧ Own [g] w [] [⟨.slice (some ⟨g, 0, none⟩) k c, k, uc d4, 200, 1⟩] [] wr)
          case atStart => exact ⟨n, d2, by omega, by (rfl), by omega, hk2, hH3, hO⟩
          case round =>
           clear hO hH3 hk2 s5 s6 s7 z1 z2 z3 z4
           obtain ⟨j, d4, hgk, rfl, hj, hk4, hH3, hO⟩ := hrel
           try clear d2
           cases j with
           | zero =>
            have hX : d4 = d3 := hH3.out
            clear hH3
            go_wp2_with fail
            go_meet
            case rel => rw [← hX]; exact hO
           | succ j =>
            have e3 : ((j + 1 : Nat) : Int) = (j : Int) + 1 := by omega
            have s5 : IntKind.i64.wrap ((j : Int) + 1 - 1) = (j : Int) := by rw [IntWalk.i64_in _ (by omega)]; omega
            have s6 : IntKind.i64.wrap (j : Int) = (j : Int) := IntWalk.i64_in _ (by omega)
            have s7 : ((j : Int) + 1).toNat = j + 1 := by omega
            have z1 : (0 : Int) ≤ (j : Int) + 1 := by omega
            have z2 : (j : Int) + 1 < k := by omega
            have z3 : (0 : Int) ≤ (j : Int) := by omega
            have z4 : (j : Int) < k := by omega
            rw [e3]
            have g5 : decide (1 ≤ (j : Int) + 1) = true := by simp; omega
            obtain ⟨x, hx, c1⟩ := uc_get (d := d4) (k := j + 1) (by omega)
            obtain ⟨y, hy, c2⟩ := uc_get (d := d4) (k := j) (by omega)
            rw [Go.Sort.shiftDown, ← hx.out, ← hy.out] at hH3
            cases hxy : ltInt x y
            ·rw [hxy, if_pos (by rfl)] at hH3
             have hX : d4 = d3 := hH3.out
             clear hH3
             go_wp2_with fail
             (refine own_quiet hO (by kernel_rfl) (by kernel_rfl) ?_; clear hO; (repeat (go_big_quiet_want; (first | ((with_reducible refine is_loadQ ?_); (refine q_ldU (h := ?_)); (try simp only [Act.put]); (try simp only [sI9, sZ9, sS9]); go_big_quiet_on) | (go_big_quiet_op; (first | go_big_quiet_on | ((refine ⟨_, fun _ _ => rfl, ?_⟩); go_big_quiet_on) | go_big_quiet_call ((intro hq; go_at_call 234; exact q_same (less_any _ _ _) hq))))))); (refine wpQuiet_nil ?_); intro wv hO)
             rw [hxy]
             go_wp2_with fail
             go_meet
             case rel => rw [← hX]; exact hO
            ·rw [hxy, if_neg (by simp)] at hH3
             go_wp2_with fail
             (refine own_quiet hO (by kernel_rfl) (by kernel_rfl) ?_; clear hO; (repeat (go_big_quiet_want; (first | ((with_reducible refine is_loadQ ?_); (refine q_ldU (h := ?_)); (try simp only [Act.put]); (try simp only [sI9, sZ9, sS9]); go_big_quiet_on) | (go_big_quiet_op; (first | go_big_quiet_on | ((refine ⟨_, fun _ _ => rfl, ?_⟩); go_big_quiet_on) | go_big_quiet_call ((intro hq; go_at_call 234; exact q_same (less_any _ _ _) hq))))))); (refine wpQuiet_nil ?_); intro wv hO)
             rw [hxy]
             go_wp2_with fail
             apply wp_via
             case h =>
              refine wp_region_any (by kernel_rfl) ?_
              replace hO := hO.drew
              have ix9 := Ix.mk [0, 1, 2, 3, 4, 5, 6, 7, 8, 10, 11, 12]
              iterate 12 (refine wpAny_tkO ix9 ?_; replace ix9 := ix9.tail; (first | go_big_quiet_skip | (go_big_quiet_want; (go_big_quiet_op; (first | go_big_quiet_on | ((refine ⟨_, fun _ _ => rfl, ?_⟩); go_big_quiet_on))))); (refine wpQuiet_nil ?_); (try simp only [Act.put]); (try simp only [sI9, sZ9, sS9]))
              clear ix9
              refine wpAny_all (rs := [9, 13]) (by kernel_rfl) (by simp) (ord_cons ?_ (ord_cons ?_ ord_nil))
              rotate_left 2
              all_goals
               refine wpOp_of_listL rfl ?_
               (refine ldN ?_); (try simp only [Act.put]); (try simp only [sI9, sZ9, sS9])
               refine wpList_done (qk_intro ?_)
              refine wpAny_1 13 ?_
              rotate_left 1
              refine wpAny_1 9 ?_
              rotate_left 1
              all_goals
               refine wpOp_of_listL rfl ?_
               (refine ldN ?_); (try simp only [Act.put]); (try simp only [sI9, sZ9, sS9])
               refine wpList_done (qk_intro ?_)
              refine wpAny_tkO (Ix.mk [14]) ?_
              (first | go_big_quiet_skip | (go_big_quiet_want; (go_big_quiet_op; (first | go_big_quiet_on | ((refine ⟨_, fun _ _ => rfl, ?_⟩); go_big_quiet_on))))); (refine wpQuiet_nil ?_); (try simp only [Act.put]); (try simp only [sI9, sZ9, sS9])
              refine wpAny_1 15 ?_
              rotate_left 1
              refine wpAny_tkO (Ix.mk [14]) ?_
              (first | go_big_quiet_skip | (go_big_quiet_want; (go_big_quiet_op; (first | go_big_quiet_on | ((refine ⟨_, fun _ _ => rfl, ?_⟩); go_big_quiet_on))))); (refine wpQuiet_nil ?_); (try simp only [Act.put]); (try simp only [sI9, sZ9, sS9])
              refine wpAny_1 15 ?_
              rotate_left 1
              all_goals
               refine wpOp_of_listL rfl ?_
               ((with_reducible refine is_store ?_); (refine own_stU hO (h := ?_); clear hO; intro wv hO)); (try simp only [Act.put])
               refine wpList_done (qk_intro ?_)
              refine wpAny_tkO (Ix.mk [16]) ?_
              (first | go_big_quiet_skip | (go_big_quiet_want; (go_big_quiet_op; (first | go_big_quiet_on | ((refine ⟨_, fun _ _ => rfl, ?_⟩); go_big_quiet_on))))); (refine wpQuiet_nil ?_); (try simp only [Act.put]); (try simp only [sI9, sZ9, sS9])
              refine wpAny_1 17 ?_
              rotate_left 1
              refine wpAny_tkO (Ix.mk [16]) ?_
              (first | go_big_quiet_skip | (go_big_quiet_want; (go_big_quiet_op; (first | go_big_quiet_on | ((refine ⟨_, fun _ _ => rfl, ?_⟩); go_big_quiet_on))))); (refine wpQuiet_nil ?_); (try simp only [Act.put]); (try simp only [sI9, sZ9, sS9])
              refine wpAny_1 17 ?_
              rotate_left 1
              all_goals
               refine wpOp_of_listL rfl ?_
               ((with_reducible refine is_store ?_); (refine own_stU hO (h := ?_); clear hO; intro wv hO)); (try simp only [Act.put])
               refine wpList_done (qk_intro ?_)
              exact wpAny_done (by kernel_rfl) ⟨rfl, rfl, hO⟩ _
              exact wpAny_done (by kernel_rfl) ⟨rfl, rfl, hO⟩ _
             clear hO
             intro wv hO
             rw [uc_swp hx.out hy.out] at hO
             go_wp2_with fail
             go_roundg (j + 1)
             case measure => omega
             case rel => exact ⟨j, _, by omega, by (rfl), by omega, by rw [Go.Sort.size_swp]; exact hk4, hH3, hO⟩
         ·have g4 : decide (2 ≤ (ia : Int)) = false := by simp; omega
          rw [if_neg h2] at hH3
          have hX := hH3.out
          clear hH3
          go_wp2_with fail
          go_meet
          case rel => rw [← hX]; exact hO
        case rest =>
         clear hO hH3 hk2
         try clear d2
         have hO := hcut
         clear hcut
         obtain ⟨d5, hd5⟩ : ∃ d5, (if ib ≥ 2 then Go.Sort.shiftUp ltInt b (n + 1 + 1) d3 else d3) = d5 := ⟨_, rfl⟩
         have hk5 : d5.size = k := by
          rw [← hd5]; split
          ·rw [size_shu _ b _ _ (Nat.le_refl _)]; exact hk3
          ·exact hk3
         have hH5 : Hid ((if ib ≥ 2 then Go.Sort.shiftUp ltInt b (n + 1 + 1) d3 else d3) = d5) := Lib.hid hd5
         rw [hd5] at hE
         clear hd5
         have s8 : IntKind.i64.wrap ((n : Int) + 1 + 1) = (n : Int) + 2 := by rw [IntWalk.i64_in _ (by omega)]; omega
         have s9 : IntKind.i64.wrap ((n : Int) + 2) = (n : Int) + 2 := IntWalk.i64_in _ (by omega)
         by_cases h2 : 2 ≤ ib
         ·have g4 : decide (2 ≤ (ib : Int)) = true := by simp; omega
          rw [if_pos h2] at hH5
          go_wp2_with fail
          go_loopg [10] (b + 1) (fun gk q wr => ∃ (j : Nat) (d4 : Array Int), b + 1 - j ≤ gk ∧ q = .int .i64 ((j : Int) + 1) ∧ j + 1 ≤ b ∧ d4.size = k ∧ Hid (Go.Sort.shiftUp ltInt b (j + 1) d4 = d5) ∧ Own [g] w [] [⟨.slice (some ⟨g, 0, none⟩) k c, k, uc d4, 200, 1⟩] [] wr)
          case atStart => exact ⟨n + 1, d3, by omega, by (rfl), by omega, hk3, hH5, hO⟩
          case round =>
           clear hO hH5 hk3 s5 s6 s7 s8 s9 z1 z2 z3 z4
           obtain ⟨j, d4, hgk, rfl, hj, hk4, hH5, hO⟩ := hrel
           try clear d3
           rw [Go.Sort.shiftUp] at hH5
           by_cases hjb : j + 1 < b
           ·have g5 : decide ((j : Int) + 1 < b) = true := by simp; omega
            have e3 : ((j + 1 : Nat) : Int) = (j : Int) + 1 := by omega
            have s5 : IntKind.i64.wrap ((j : Int) + 1 - 1) = (j : Int) := by rw [IntWalk.i64_in _ (by omega)]; omega
            have s6 : IntKind.i64.wrap (j : Int) = (j : Int) := IntWalk.i64_in _ (by omega)
            have s7 : ((j : Int) + 1).toNat = j + 1 := by omega
            have z1 : (0 : Int) ≤ (j : Int) + 1 := by omega
            have z2 : (j : Int) + 1 < k := by omega
            have z3 : (0 : Int) ≤ (j : Int) := by omega
            have z4 : (j : Int) < k := by omega
            have s8 : IntKind.i64.wrap ((j : Int) + 1 + 1) = (j : Int) + 2 := by rw [IntWalk.i64_in _ (by omega)]; omega
            rw [if_pos hjb, Nat.add_sub_cancel] at hH5
            obtain ⟨x, hx, c1⟩ := uc_get (d := d4) (k := j + 1) (by omega)
            obtain ⟨y, hy, c2⟩ := uc_get (d := d4) (k := j) (by omega)
            rw [← hx.out, ← hy.out] at hH5
            cases hxy : ltInt x y
            ·rw [hxy, if_pos (by rfl)] at hH5
             have hX : d4 = d5 := hH5.out
             clear hH5
             go_wp2_with fail
             (refine own_quiet hO (by kernel_rfl) (by kernel_rfl) ?_; clear hO; (repeat (go_big_quiet_want; (first | ((with_reducible refine is_loadQ ?_); (refine q_ldU (h := ?_)); (try simp only [Act.put]); (try simp only [sI9, sZ9, sS9]); go_big_quiet_on) | (go_big_quiet_op; (first | go_big_quiet_on | ((refine ⟨_, fun _ _ => rfl, ?_⟩); go_big_quiet_on) | go_big_quiet_call ((intro hq; go_at_call 234; exact q_same (less_any _ _ _) hq))))))); (refine wpQuiet_nil ?_); intro wv hO)
             rw [hxy]
             rw [← hX] at hE hk5
             go_wp2_with fail
             go_roundg (gk0 - 1)
             case measure => omega
             case rel => exact ⟨n + 1, m + 1, s, _, by omega, by omega, by (rfl), by (rfl), by omega, by omega, hk5, hE, hO⟩
            ·rw [hxy, if_neg (by simp)] at hH5
             go_wp2_with fail
             (refine own_quiet hO (by kernel_rfl) (by kernel_rfl) ?_; clear hO; (repeat (go_big_quiet_want; (first | ((with_reducible refine is_loadQ ?_); (refine q_ldU (h := ?_)); (try simp only [Act.put]); (try simp only [sI9, sZ9, sS9]); go_big_quiet_on) | (go_big_quiet_op; (first | go_big_quiet_on | ((refine ⟨_, fun _ _ => rfl, ?_⟩); go_big_quiet_on) | go_big_quiet_call ((intro hq; go_at_call 234; exact q_same (less_any _ _ _) hq))))))); (refine wpQuiet_nil ?_); intro wv hO)
             rw [hxy]
             go_wp2_with fail
             apply wp_via
             case h =>
              refine wp_region_any (by kernel_rfl) ?_
              replace hO := hO.drew
              have ix9 := Ix.mk [0, 1, 2, 3, 4, 5, 6, 7, 8, 10, 11, 12]
              iterate 12 (refine wpAny_tkO ix9 ?_; replace ix9 := ix9.tail; (first | go_big_quiet_skip | (go_big_quiet_want; (go_big_quiet_op; (first | go_big_quiet_on | ((refine ⟨_, fun _ _ => rfl, ?_⟩); go_big_quiet_on))))); (refine wpQuiet_nil ?_); (try simp only [Act.put]); (try simp only [sI9, sZ9, sS9]))
              clear ix9
              refine wpAny_all (rs := [9, 13]) (by kernel_rfl) (by simp) (ord_cons ?_ (ord_cons ?_ ord_nil))
              rotate_left 2
              all_goals
               refine wpOp_of_listL rfl ?_
               (refine ldN ?_); (try simp only [Act.put]); (try simp only [sI9, sZ9, sS9])
               refine wpList_done (qk_intro ?_)
              refine wpAny_1 13 ?_
              rotate_left 1
              refine wpAny_1 9 ?_
              rotate_left 1
              all_goals
               refine wpOp_of_listL rfl ?_
               (refine ldN ?_); (try simp only [Act.put]); (try simp only [sI9, sZ9, sS9])
               refine wpList_done (qk_intro ?_)
              refine wpAny_tkO (Ix.mk [14]) ?_
              (first | go_big_quiet_skip | (go_big_quiet_want; (go_big_quiet_op; (first | go_big_quiet_on | ((refine ⟨_, fun _ _ => rfl, ?_⟩); go_big_quiet_on))))); (refine wpQuiet_nil ?_); (try simp only [Act.put]); (try simp only [sI9, sZ9, sS9])
              refine wpAny_1 15 ?_
              rotate_left 1
              refine wpAny_tkO (Ix.mk [14]) ?_
              (first | go_big_quiet_skip | (go_big_quiet_want; (go_big_quiet_op; (first | go_big_quiet_on | ((refine ⟨_, fun _ _ => rfl, ?_⟩); go_big_quiet_on))))); (refine wpQuiet_nil ?_); (try simp only [Act.put]); (try simp only [sI9, sZ9, sS9])
              refine wpAny_1 15 ?_
              rotate_left 1
              all_goals
               refine wpOp_of_listL rfl ?_
               ((with_reducible refine is_store ?_); (refine own_stU hO (h := ?_); clear hO; intro wv hO)); (try simp only [Act.put])
               refine wpList_done (qk_intro ?_)
              refine wpAny_tkO (Ix.mk [16]) ?_
              (first | go_big_quiet_skip | (go_big_quiet_want; (go_big_quiet_op; (first | go_big_quiet_on | ((refine ⟨_, fun _ _ => rfl, ?_⟩); go_big_quiet_on))))); (refine wpQuiet_nil ?_); (try simp only [Act.put]); (try simp only [sI9, sZ9, sS9])
              refine wpAny_1 17 ?_
              rotate_left 1
              refine wpAny_tkO (Ix.mk [16]) ?_
              (first | go_big_quiet_skip | (go_big_quiet_want; (go_big_quiet_op; (first | go_big_quiet_on | ((refine ⟨_, fun _ _ => rfl, ?_⟩); go_big_quiet_on))))); (refine wpQuiet_nil ?_); (try simp only [Act.put]); (try simp only [sI9, sZ9, sS9])
              refine wpAny_1 17 ?_
              rotate_left 1
              all_goals
               refine wpOp_of_listL rfl ?_
               ((with_reducible refine is_store ?_); (refine own_stU hO (h := ?_); clear hO; intro wv hO)); (try simp only [Act.put])
               refine wpList_done (qk_intro ?_)
              exact wpAny_done (by kernel_rfl) ⟨rfl, rfl, hO⟩ _
              exact wpAny_done (by kernel_rfl) ⟨rfl, rfl, hO⟩ _
             clear hO
             intro wv hO
             rw [uc_swp hx.out hy.out] at hO
             go_wp2_with fail
             go_roundg (b + 1 - (j + 1))
             case measure => omega
             case rel => exact ⟨j + 1, _, by omega, by (rfl), by omega, by rw [Go.Sort.size_swp]; exact hk4, hH5, hO⟩
           ·have g5 : decide ((j : Int) + 1 < b) = false := by simp; omega
            rw [if_neg hjb] at hH5
            have hX : d4 = d5 := hH5.out
            clear hH5
            rw [← hX] at hE hk5
            go_wp2_with fail
            go_roundg (gk0 - 1)
            case measure => omega
            case rel => exact ⟨n + 1, m + 1, s, _, by omega, by omega, by (rfl), by (rfl), by omega, by omega, hk5, hE, hO⟩
         ·have g4 : decide (2 ≤ (ib : Int)) = false := by simp; omega
          rw [if_neg h2] at hH5
          have hX := hH5.out
          clear hH5
          rw [← hX] at hE hk5
          go_wp2_with fail
          go_roundg (gk0 - 1)
          case measure => omega
          case rel => exact ⟨n + 1, m + 1, s, _, by omega, by omega, by (rfl), by (rfl), by omega, by omega, hk5, hE, hO⟩
     ·have hib : n + 1 < b := by simp only [Bool.and_eq_true, decide_eq_true_eq] at hc; exact hc.1
      have hI3 : Hid (Go.Sort.scanSorted ltInt d1 b (n + 1 + 1) = I) := Lib.hid (by
       have := hIH.out
       rw [Go.Sort.scanSorted, Nat.add_sub_cancel, if_pos hc] at this; exact this)
      clear hIH hc
      go_wp2_with fail
      go_roundg (b + 1 - (n + 2))
      case measure => omega
      case rel => exact ⟨n + 1 + 1, by omega, by (rfl), by omega, by omega, hI3, hO⟩
end Go.Proofs.YtbdfblgdmappeaaGreatDoor
namespace Go.Proofs.YtbdfblgdmappeaaGreatDoor
open Go.RowKit
set_option maxRecDepth 100000
theorem wrap_pow (k : Nat) (hk : k ≤ 62) : IntKind.u64.wrap ((2 : Int) ^ k) = ((2 ^ k : Nat) : Int) := by
 have h : (2 : Nat) ^ k ≤ 2 ^ 62 := Nat.pow_le_pow_right (by decide) hk
 rw [IntKind.wrap_u64, show ((2 : Int) ^ k) = ((2 ^ k : Nat) : Int) by push_cast; rfl]
 generalize (2 : Nat) ^ k = p at h
 omega
theorem npot_any (n : Nat) (hn : n ≤ 140737488355328) (h0 : 0 < n) : ∃ m : Nat, m = 2 ^ Lib.bitLen n ∧ 1 ≤ m ∧ m ≤ 2 * n ∧ ∀ w : World, Calls Tryz.prog 238 #[.int .i64 n] w fun e w' => e = .returned (.int .u64 m) ∧ w = w' := by
 have hb := Lib.bitLenAux_bounds 64 n (by omega) (by omega)
 have hk : Lib.bitLen n ≤ 62 := Lib.bitLen_le n 62 (by omega) (by omega)
 have hk1 : 1 ≤ Lib.bitLen n := hb.1
 have hk2 : 2 ^ (Lib.bitLen n - 1) ≤ n := hb.2.1
 have hlen := fun w => blen_any (n : Int) w (by omega) (by omega)
 rw [Int.toNat_natCast] at hlen
 have hp := wrap_pow (Lib.bitLen n) hk
 have hm : 2 ^ Lib.bitLen n ≤ 2 * n := by
  obtain ⟨j, hj⟩ : ∃ j, Lib.bitLen n = j + 1 := ⟨Lib.bitLen n - 1, by omega⟩
  rw [hj, Nat.add_sub_cancel] at hk2
  rw [hj, Nat.pow_succ]; omega
 refine ⟨2 ^ Lib.bitLen n, rfl, Nat.one_le_two_pow, hm, fun w => ?_⟩
 generalize Lib.bitLen n = j at *
 clear hb hk1 hk2 hm
 have hM : ∃ M : Nat, 2 ^ j = M := ⟨_, rfl⟩
 obtain ⟨M, hM⟩ := hM
 rw [hM] at hp
 rw [hM]
 have hu : IntKind.u64.wrap (n : Int) = n := by rw [IntKind.wrap_u64]; omega
 clear hM
 go_enter Tryz.func238, Tryz.ntmps238
 go_wp2_with (go_at_call 215; refine (hlen _).mono ?_; rintro e w' ⟨rfl, rfl⟩)
 go_ret
 exact ⟨rfl, rfl⟩
theorem one_xs : OneT Tryz.prog 264 := ⟨_, Tryz.underlying264, rfl, by kernel_rfl⟩
theorem zero_xs : ZeroT Tryz.prog 264 [.int .u64 0] := by unfold ZeroT; kernel_rfl
theorem zero_int : ZeroT Tryz.prog 3 [.int .i64 0] := by unfold ZeroT; kernel_rfl
section
variable {ops : Array Oper} {rest : List Oper} {o : Oper} {a : Act} {w w0 w' : World} {Q : Exit → Act → World → Prop} {M : List Nat} {X X' : List Chunk} {R R' : List Row} {S : List Ro}
theorem own_ldX (hO : Own M w0 X R S w) (hw : Region.wanted o (yielded ops a.tmps) = true := by rfl) {t : TypeId} {x : Operand} (ho : o.op = .load t x := by rfl) {n : Nat} (hx : a.eval x = .pointer (some ⟨n, 0, none⟩) := by rfl)
  (ht : OneT Tryz.prog t := by exact one_xs) {e : TypeId} {v : Value} (hm : (⟨n, [v], e⟩ : Chunk) ∈ X := by (repeat (first | exact List.mem_cons_self | refine List.mem_cons_of_mem _ ?_)))
  (h : wpList Tryz.prog ops Q rest (a.put o.dst v) w) : wpList Tryz.prog ops Q (o :: rest) a w := own_load1 hO hw ho hx ht hm (by rfl) h
theorem s_ldX {K : Act → Prop} (hO : Own M w0 X R S w) {t : TypeId} {x : Operand} (ho : o.op = .load t x := by rfl) {n : Nat} (hx : a.eval x = .pointer (some ⟨n, 0, none⟩) := by rfl) (ht : OneT Tryz.prog t := by exact one_xs)
  {e : TypeId} {v : Value} (hm : (⟨n, [v], e⟩ : Chunk) ∈ X := by (repeat (first | exact List.mem_cons_self | refine List.mem_cons_of_mem _ ?_)))
  (h : K (a.put o.dst v)) : o.still Tryz.prog a w K := s_val _ (rx_ld ho hx (ld_one ht (hO.cellAt hm (by rfl)))) h
theorem own_stX (hO : Own M w0 X R S w) (hw : Region.wanted o (yielded ops a.tmps) = true := by rfl) {t : TypeId} {x y : Operand} (ho : o.op = .store t x y := by rfl) {n : Nat} (hx : a.eval x = .pointer (some ⟨n, 0, none⟩) := by rfl)
  {v : Value} (hy : a.eval y = v := by exact (rfl : _ = Value.int _ _)) (ht : OneT Tryz.prog t := by exact one_xs) {u : Value} {e : TypeId} (hu : Upd X ⟨n, [u], e⟩ ⟨n, [v], e⟩ X' := by (repeat (first | exact Upd.here | apply Upd.there))) (h1 : v.oneCell' = true := by rfl)
  (h : ∀ w', Own M w0 X' R S w' → wpList Tryz.prog ops Q rest (a.put o.dst undef) w') : wpList Tryz.prog ops Q (o :: rest) a w := own_store1 hO hw ho hx hy ht hu (by simp) h1 h
end
set_option maxHeartbeats 1000000 in
theorem xnext_any {n X : Nat} {t : TypeId} (w : World) (hX : X < 18446744073709551616) (hb : Blk w n [.int .u64 X] t) :
  Calls Tryz.prog 239 #[.pointer (some ⟨n, 0, none⟩)] w fun e w' => e = .returned (.int .u64 (Go.Sort.xorNextN X)) ∧ Keep [n] w w' ∧ Blk w' n [.int .u64 (Go.Sort.xorNextN X)] t := by
 have hO := own_takeK hb [] (by simp)
 obtain ⟨A, hA⟩ : ∃ A : Nat, A = X ^^^ (X * 8192 % 18446744073709551616) := ⟨_, rfl⟩
 obtain ⟨B, hB⟩ : ∃ B : Nat, B = A ^^^ (A / 128) := ⟨_, rfl⟩
 obtain ⟨C, hC⟩ : ∃ C : Nat, C = B ^^^ (B * 131072 % 18446744073709551616) := ⟨_, rfl⟩
 have lA : A < 18446744073709551616 := by rw [hA]; exact Nat.xor_lt_two_pow (n := 64) (by omega) (by omega)
 have lB : B < 18446744073709551616 := by rw [hB]; exact Nat.xor_lt_two_pow (n := 64) (by omega) (by omega)
 have lC : C < 18446744073709551616 := by rw [hC]; exact Nat.xor_lt_two_pow (n := 64) (by omega) (by omega)
 have e1 : bits .xor .u64 (X : Int) (IntKind.u64.wrap ((X : Int) * 8192)) = (A : Int) := by
  rw [IntKind.wrap_u64, show ((X : Int) * 8192 % 18446744073709551616) = ((X * 8192 % 18446744073709551616 : Nat) : Int) by omega, bits_xor_u64_nat _ _ hX (by omega), hA]
 have e2 : bits .xor .u64 (A : Int) ((A : Int) / 128) = (B : Int) := by
  rw [show ((A : Int) / 128) = ((A / 128 : Nat) : Int) by omega, bits_xor_u64_nat _ _ lA (by omega), hB]
 have e3 : bits .xor .u64 (B : Int) (IntKind.u64.wrap ((B : Int) * 131072)) = (C : Int) := by
  rw [IntKind.wrap_u64, show ((B : Int) * 131072 % 18446744073709551616) = ((B * 131072 % 18446744073709551616 : Nat) : Int) by omega, bits_xor_u64_nat _ _ lB (by omega), hC]
 have hCx : Go.Sort.xorNextN X = C := by subst hA hB hC; rfl
 rw [hCx]
 clear hA hB hC hb hCx
 go_enter Tryz.func239, Tryz.ntmps239
 go_wp2_with fail
 (refine own_tail 9 hO (by kernel_rfl) (by kernel_rfl) (by repeat (first | exact Split.zero _ | apply Split.succ)) ?_; clear hO; intro wv hO; (repeat ((refine wpStill_step (fun K hK => ?_)); (first | ((rw [if_pos (by rfl)]); (with_reducible refine is_loadS ?_); (refine s_ldX hO (h := ?_)); (try simp only [Act.put]); (try simp only [sI9, sZ9, sS9]); (refine hK _ ?_); clear hK K) | (go_simp; (refine hK _ ?_); clear hK K)))); (refine wpStill_nil ?_))
 go_wp2_with ((with_reducible refine is_store ?_); (refine own_stX hO (h := ?_); clear hO; intro wv hO))
 (try simp only [Act.put]); (refine own_tail 9 hO (by kernel_rfl) (by kernel_rfl) (by repeat (first | exact Split.zero _ | apply Split.succ)) ?_; clear hO; intro wv hO; (repeat ((refine wpStill_step (fun K hK => ?_)); (first | ((rw [if_pos (by rfl)]); (with_reducible refine is_loadS ?_); (refine s_ldX hO (h := ?_)); (try simp only [Act.put]); (try simp only [sI9, sZ9, sS9]); (refine hK _ ?_); clear hK K) | (go_simp; (refine hK _ ?_); clear hK K)))); (refine wpStill_nil ?_))
 go_wp2_with ((with_reducible refine is_store ?_); (refine own_stX hO (h := ?_); clear hO; intro wv hO))
 (try simp only [Act.put]); (refine own_tail 9 hO (by kernel_rfl) (by kernel_rfl) (by repeat (first | exact Split.zero _ | apply Split.succ)) ?_; clear hO; intro wv hO; (repeat ((refine wpStill_step (fun K hK => ?_)); (first | ((rw [if_pos (by rfl)]); (with_reducible refine is_loadS ?_); (refine s_ldX hO (h := ?_)); (try simp only [Act.put]); (try simp only [sI9, sZ9, sS9]); (refine hK _ ?_); clear hK K) | (go_simp; (refine hK _ ?_); clear hK K)))); (refine wpStill_nil ?_))
 go_wp2_with (first | ((with_reducible refine is_load ?_); (refine own_ldX hO (h := ?_))) | ((with_reducible refine is_store ?_); (refine own_stX hO (h := ?_); clear hO; intro wv hO)))
 go_ret
 exact ⟨rfl, hO.keep, hO.chunk _ List.mem_cons_self⟩
end Go.Proofs.YtbdfblgdmappeaaGreatDoor
