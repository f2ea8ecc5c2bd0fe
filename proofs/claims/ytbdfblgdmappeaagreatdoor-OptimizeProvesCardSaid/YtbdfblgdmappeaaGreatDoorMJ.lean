/- The library's sort at uint64: the partition of equals. -/
import Derived.Deep.CutRange
import Derived.Deep.DeepCutAuto
import Derived.Deep.LoopGhost
import Derived.Test.YtbdfblgdmappeaaGreatDoorMH
namespace Go.Proofs.YtbdfblgdmappeaaGreatDoor
open Go.RowKit
open Go.Sort (swp ltInt)
set_option maxRecDepth 100000
set_option maxHeartbeats 8000000 in
theorem parteq_any {g c k : Nat} {d : Array Int} (a b p : Nat) (w : World) (hr : OwnsU w g k c d) (hk : d.size = k) (hb : b ≤ k) (hap : a ≤ p) (hpb : p < b) (hl : k ≤ 140737488355328) :
  Calls Tryz.prog 235 #[.slice (some ⟨g, 0, none⟩) k c, .int .i64 a, .int .i64 b, .int .i64 p] w (UPost w g k c (Go.Sort.partitionEqual ltInt d a b p).2 (.int .i64 (Go.Sort.partitionEqual ltInt d a b p).1)) := by
 have hO := hr.own
 obtain ⟨D, hD⟩ : ∃ D, D = Go.Sort.partitionEqual ltInt d a b p := ⟨_, rfl⟩
 rw [← hD]
 obtain ⟨b, rfl⟩ : ∃ b', b = b' + 1 := ⟨b - 1, by omega⟩
 have hE : Hid (D = Go.Sort.partitionEqual ltInt d a (b + 1) p) := Lib.hid hD
 clear hr hD
 have e1 : ((b + 1 : Nat) : Int) = (b : Int) + 1 := by omega
 rw [e1]
 have s1 : IntKind.i64.wrap ((a : Int) + 1) = (a : Int) + 1 := IntWalk.i64_in _ (by omega)
 have s2 : IntKind.i64.wrap ((b : Int) + 1 - 1) = b := by rw [IntWalk.i64_in _ (by omega)]; omega
 have s3 : IntKind.i64.wrap (b : Int) = b := IntWalk.i64_in _ (by omega)
 have z1 : (0 : Int) ≤ (a : Int) := by omega
 have z2 : (a : Int) < k := by omega
 have z3 : (0 : Int) ≤ (p : Int) := by omega
 have z4 : (p : Int) < k := by omega
 obtain ⟨x, hx, c1⟩ := uc_get (d := d) (k := a) (by omega)
 obtain ⟨y, hy, c2⟩ := uc_get (d := d) (k := p) (by omega)
 go_enter Tryz.func235, Tryz.ntmps235
 go_wp2_with fail
 apply wp_via
 case h =>
  refine wp_region_any (by kernel_rfl) ?_
  replace hO := hO.drew
  have ix9 := Ix.mk [0, 1, 2, 3, 4, 5, 6, 8, 9, 10]
  iterate 10 (refine wpAny_tkO ix9 ?_; replace ix9 := ix9.tail; (first | go_big_quiet_skip | (go_big_quiet_want; (go_big_quiet_op; (first | go_big_quiet_on | ((refine ⟨_, fun _ _ => rfl, ?_⟩); go_big_quiet_on))))); (refine wpQuiet_nil ?_); (try simp only [Act.put]); (try simp only [sI9, sZ9, sS9]))
  clear ix9
  refine wpAny_all (rs := [7, 11]) (by kernel_rfl) (by simp) (ord_cons ?_ (ord_cons ?_ ord_nil))
  rotate_left 2
  all_goals
   refine wpOp_of_listL rfl ?_
   (refine ldN ?_); (try simp only [Act.put]); (try simp only [sI9, sZ9, sS9])
   refine wpList_done (qk_intro ?_)
  refine wpAny_1 11 ?_
  rotate_left 1
  refine wpAny_1 7 ?_
  rotate_left 1
  all_goals
   refine wpOp_of_listL rfl ?_
   (refine ldN ?_); (try simp only [Act.put]); (try simp only [sI9, sZ9, sS9])
   refine wpList_done (qk_intro ?_)
  refine wpAny_tkO (Ix.mk [12]) ?_
  (first | go_big_quiet_skip | (go_big_quiet_want; (go_big_quiet_op; (first | go_big_quiet_on | ((refine ⟨_, fun _ _ => rfl, ?_⟩); go_big_quiet_on))))); (refine wpQuiet_nil ?_); (try simp only [Act.put]); (try simp only [sI9, sZ9, sS9])
  refine wpAny_1 13 ?_
  rotate_left 1
  refine wpAny_tkO (Ix.mk [12]) ?_
  (first | go_big_quiet_skip | (go_big_quiet_want; (go_big_quiet_op; (first | go_big_quiet_on | ((refine ⟨_, fun _ _ => rfl, ?_⟩); go_big_quiet_on))))); (refine wpQuiet_nil ?_); (try simp only [Act.put]); (try simp only [sI9, sZ9, sS9])
  refine wpAny_1 13 ?_
  rotate_left 1
  all_goals
   refine wpOp_of_listL rfl ?_
   ((with_reducible refine is_store ?_); (refine own_stU hO (h := ?_); clear hO; intro wv hO)); (try simp only [Act.put])
   refine wpList_done (qk_intro ?_)
  refine wpAny_tkO (Ix.mk [14]) ?_
  (first | go_big_quiet_skip | (go_big_quiet_want; (go_big_quiet_op; (first | go_big_quiet_on | ((refine ⟨_, fun _ _ => rfl, ?_⟩); go_big_quiet_on))))); (refine wpQuiet_nil ?_); (try simp only [Act.put]); (try simp only [sI9, sZ9, sS9])
  refine wpAny_1 15 ?_
  rotate_left 1
  refine wpAny_tkO (Ix.mk [14]) ?_
  (first | go_big_quiet_skip | (go_big_quiet_want; (go_big_quiet_op; (first | go_big_quiet_on | ((refine ⟨_, fun _ _ => rfl, ?_⟩); go_big_quiet_on))))); (refine wpQuiet_nil ?_); (try simp only [Act.put]); (try simp only [sI9, sZ9, sS9])
  refine wpAny_1 15 ?_
  rotate_left 1
  all_goals
   refine wpOp_of_listL rfl ?_
   ((with_reducible refine is_store ?_); (refine own_stU hO (h := ?_); clear hO; intro wv hO)); (try simp only [Act.put])
   refine wpList_done (qk_intro ?_)
  exact wpAny_done (by kernel_rfl) ⟨rfl, rfl, hO⟩ _
  exact wpAny_done (by kernel_rfl) ⟨rfl, rfl, hO⟩ _
 clear hO
 intro wv hO
 rw [uc_swp hx.out hy.out] at hO
 obtain ⟨d1, hd1⟩ : ∃ d1, swp d a p = d1 := ⟨_, rfl⟩
 have hk1 : d1.size = k := by rw [← hd1, Go.Sort.size_swp]; exact hk
 rw [hd1] at hO
 have hPH : Hid (Go.Sort.partEqLoop ltInt a (a + 1) b d1 = D) := Lib.hid (by rw [hE.out, ← hd1]; rfl)
 clear hE hx hy c1 c2 hd1 hk z1 z2 z3 z4
 clear d
 go_wp2_with fail
 go_loopg [9, 10] (b + 2) (fun gk q r wr => ∃ (i j : Nat) (d2 : Array Int), j + 1 - i ≤ gk ∧ q = .int .i64 i ∧ r = .int .i64 j ∧ a + 1 ≤ i ∧ i ≤ b + 1 ∧ a ≤ j ∧ j ≤ b ∧ d2.size = k ∧ Hid (Go.Sort.partEqLoop ltInt a i j d2 = D) ∧ Own [g] w [] [⟨.slice (some ⟨g, 0, none⟩) k c, k, uc d2, 200, 1⟩] [] wr)
 case atStart => exact ⟨a + 1, b, _, by omega, by (rfl), by (rfl), by omega, by omega, by omega, by omega, hk1, hPH, hO⟩
 case round =>
  clear hO hPH hk1
  clear d1
  obtain ⟨i0, j0, d2, hgk0, rfl, rfl, hi0, hi1, hj0, hj1, hk2, hPH, hO⟩ := hrel
  obtain ⟨gk0, hgk1⟩ : ∃ gk0, gk0 = gk := ⟨_, rfl⟩
  rw [← hgk1] at hgk0
  have hE2 := hPH
  rw [Go.Sort.partEqLoop_eq] at hE2
  clear hPH
  obtain ⟨I2, hI2⟩ : ∃ I, Go.Sort.scanUp (fun x => !ltInt d2[a]! x) d2 j0 (i0) = I := ⟨_, rfl⟩
  have hIH2 : Hid (Go.Sort.scanUp (fun x => !ltInt d2[a]! x) d2 j0 (i0) = I2) := Lib.hid hI2
  have hIg2 := Go.Sort.scanUp_ge (fun x => !ltInt d2[a]! x) d2 j0 (i0)
  rw [hI2] at hE2 hIg2
  clear hI2
  go_wp2_with fail
  go_loopg [9] (b + 1) (fun gk q wr => ∃ (i : Nat), b + 1 - i ≤ gk ∧ q = .int .i64 i ∧ a + 1 ≤ i ∧ i ≤ b + 1 ∧ Hid (Go.Sort.scanUp (fun x => !ltInt d2[a]! x) d2 j0 i = I2) ∧ Own [g] w [] [⟨.slice (some ⟨g, 0, none⟩) k c, k, uc d2, 200, 1⟩] [] wr)
  case atStart => exact ⟨i0, by omega, by (rfl), by omega, by omega, hIH2, hO⟩
  case round =>
   clear hO hIH2
   obtain ⟨i2, hgk, rfl, hi0, hi1, hIH2, hO⟩ := hrel
   have s4 : IntKind.i64.wrap ((i2 : Int) + 1) = (i2 : Int) + 1 := IntWalk.i64_in _ (by omega)
   go_upto_region 3 with fail
   go_cut [43] (fun v wr => v = .bool (decide (i2 ≤ j0) && !ltInt d2[a]! d2[i2]!) ∧ Own [g] w [] [⟨.slice (some ⟨g, 0, none⟩) k c, k, uc d2, 200, 1⟩] [] wr)
   case first =>
    by_cases hg : i2 ≤ j0
    ·have g1 : decide ((i2 : Int) ≤ j0) = true := by simp; omega
     have z1 : (0 : Int) ≤ (a : Int) := by omega
     have z2 : (a : Int) < k := by omega
     have z3 : (0 : Int) ≤ (i2 : Int) := by omega
     have z4 : (i2 : Int) < k := by omega
     obtain ⟨x, hx, c1⟩ := uc_get (d := d2) (k := a) (by omega)
     obtain ⟨y, hy, c2⟩ := uc_get (d := d2) (k := i2) (by omega)
     (refine own_quiet hO (by kernel_rfl) (by kernel_rfl) ?_; clear hO; (repeat (go_big_quiet_want; (first | ((with_reducible refine is_loadQ ?_); (refine q_ldU (h := ?_)); (try simp only [Act.put]); (try simp only [sI9, sZ9, sS9]); go_big_quiet_on) | (go_big_quiet_op; (first | go_big_quiet_on | ((refine ⟨_, fun _ _ => rfl, ?_⟩); go_big_quiet_on) | go_big_quiet_call ((intro hq; go_at_call 234; exact q_same (less_any _ _ _) hq))))))); (refine wpQuiet_nil ?_); intro wv hO)
     go_wp2_with fail
     go_meet
     case rel => exact ⟨by rw [decide_eq_true hg, Bool.true_and, ← hx.out, ← hy.out], hO⟩
    ·have g1 : decide ((i2 : Int) ≤ j0) = false := by simp; omega
     (refine own_quiet hO (by kernel_rfl) (by kernel_rfl) ?_; clear hO; (repeat (first | go_big_quiet_skip | (go_big_quiet_want; (go_big_quiet_op; (first | go_big_quiet_on | ((refine ⟨_, fun _ _ => rfl, ?_⟩); go_big_quiet_on)))))); (refine wpQuiet_nil ?_); intro wv hO)
     go_wp2_with fail
     go_meet
     case rel => exact ⟨by rw [decide_eq_false hg, Bool.false_and], hO⟩
   case rest =>
    clear hO
    obtain ⟨rfl, hO⟩ := hcut
    cases hc : (decide (i2 ≤ j0) && !ltInt d2[a]! d2[i2]!)
    ·have hI3 : i2 = I2 := by
      have := hIH2.out
      rw [Go.Sort.scanUp, if_neg (by rw [hc]; simp)] at this; exact this
     subst hI3
     clear hIH2 hc hgk
     obtain ⟨J2, hJ2⟩ : ∃ J, Go.Sort.scanDown (fun x => ltInt d2[a]! x) d2 i2 j0 = J := ⟨_, rfl⟩
     have hJH2 : Hid (Go.Sort.scanDown (fun x => ltInt d2[a]! x) d2 i2 j0 = J2) := Lib.hid hJ2
     have hJg2 := Go.Sort.scanDown_le (fun x => ltInt d2[a]! x) d2 i2 j0
     rw [hJ2] at hE2 hJg2
     clear hJ2
     go_wp2_with fail
     go_loopg [10] (b + 1) (fun gk q wr => ∃ (j : Nat), j ≤ gk ∧ q = .int .i64 j ∧ a ≤ j ∧ j ≤ b ∧ Hid (Go.Sort.scanDown (fun x => ltInt d2[a]! x) d2 i2 j = J2) ∧ Own [g] w [] [⟨.slice (some ⟨g, 0, none⟩) k c, k, uc d2, 200, 1⟩] [] wr)
     case atStart => exact ⟨j0, by omega, by (rfl), by omega, by omega, hJH2, hO⟩
     case round =>
      clear hO hJH2
      obtain ⟨j2, hgk, rfl, hj0, hj1, hJH2, hO⟩ := hrel
      go_upto_region 5 with fail
      go_cut [59] (fun v wr => v = .bool (decide (i2 ≤ j2) && ltInt d2[a]! d2[j2]!) ∧ Own [g] w [] [⟨.slice (some ⟨g, 0, none⟩) k c, k, uc d2, 200, 1⟩] [] wr)
      case first =>
       by_cases hg : i2 ≤ j2
       ·have g1 : decide ((i2 : Int) ≤ j2) = true := by simp; omega
        have z1 : (0 : Int) ≤ (a : Int) := by omega
        have z2 : (a : Int) < k := by omega
        have z3 : (0 : Int) ≤ (j2 : Int) := by omega
        have z4 : (j2 : Int) < k := by omega
        obtain ⟨x, hx, c1⟩ := uc_get (d := d2) (k := a) (by omega)
        obtain ⟨y, hy, c2⟩ := uc_get (d := d2) (k := j2) (by omega)
        (refine own_quiet hO (by kernel_rfl) (by kernel_rfl) ?_; clear hO; (repeat (go_big_quiet_want; (first | ((with_reducible refine is_loadQ ?_); (refine q_ldU (h := ?_)); (try simp only [Act.put]); (try simp only [sI9, sZ9, sS9]); go_big_quiet_on) | (go_big_quiet_op; (first | go_big_quiet_on | ((refine ⟨_, fun _ _ => rfl, ?_⟩); go_big_quiet_on) | go_big_quiet_call ((intro hq; go_at_call 234; exact q_same (less_any _ _ _) hq))))))); (refine wpQuiet_nil ?_); intro wv hO)
        go_wp2_with fail
        go_meet
        case rel => exact ⟨by rw [decide_eq_true hg, Bool.true_and, ← hx.out, ← hy.out], hO⟩
       ·have g1 : decide ((i2 : Int) ≤ j2) = false := by simp; omega
        (refine own_quiet hO (by kernel_rfl) (by kernel_rfl) ?_; clear hO; (repeat (first | go_big_quiet_skip | (go_big_quiet_want; (go_big_quiet_op; (first | go_big_quiet_on | ((refine ⟨_, fun _ _ => rfl, ?_⟩); go_big_quiet_on)))))); (refine wpQuiet_nil ?_); intro wv hO)
        go_wp2_with fail
        go_meet
        case rel => exact ⟨by rw [decide_eq_false hg, Bool.false_and], hO⟩
      case rest =>
       clear hO
       obtain ⟨rfl, hO⟩ := hcut
       cases hc : (decide (i2 ≤ j2) && ltInt d2[a]! d2[j2]!)
       ·have hJ3 : j2 = J2 := by
         have := hJH2.out
         cases j2 with
         | zero => exact this
         | succ n => rw [Go.Sort.scanDown, if_neg (by rw [hc]; simp)] at this; exact this
        subst hJ3
        clear hJH2 hc hgk
        by_cases hij : j2 < i2
        ·have g2 : decide ((j2 : Int) < i2) = true := by simp; omega
         rw [if_pos hij] at hE2
         go_wp2_with fail
         go_ret
         have hX := hE2.out
         subst hX
         exact u_post hO List.mem_cons_self
        ·have g2 : decide ((j2 : Int) < i2) = false := by simp; omega
         rw [if_neg hij] at hE2
         have s10 : IntKind.i64.wrap ((i2 : Int) + 1) = (i2 : Int) + 1 := IntWalk.i64_in _ (by omega)
         have hk3 : (swp d2 i2 j2).size = k := by rw [Go.Sort.size_swp]; exact hk2
         have z1 : (0 : Int) ≤ (i2 : Int) := by omega
         have z2 : (i2 : Int) < k := by omega
         have z3 : (0 : Int) ≤ (j2 : Int) := by omega
         have z4 : (j2 : Int) < k := by omega
         obtain ⟨x, hx, c1⟩ := uc_get (d := d2) (k := i2) (by omega)
         obtain ⟨y, hy, c2⟩ := uc_get (d := d2) (k := j2) (by omega)
         go_wp2_with fail
         apply wp_via
         case h =>
          refine wp_region_any (by kernel_rfl) ?_
          replace hO := hO.drew
          have ix9 := Ix.mk [0, 1, 2, 3, 4, 5, 6, 8, 9, 10]
          iterate 10 (refine wpAny_tkO ix9 ?_; replace ix9 := ix9.tail; (first | go_big_quiet_skip | (go_big_quiet_want; (go_big_quiet_op; (first | go_big_quiet_on | ((refine ⟨_, fun _ _ => rfl, ?_⟩); go_big_quiet_on))))); (refine wpQuiet_nil ?_); (try simp only [Act.put]); (try simp only [sI9, sZ9, sS9]))
          clear ix9
          refine wpAny_all (rs := [7, 11]) (by kernel_rfl) (by simp) (ord_cons ?_ (ord_cons ?_ ord_nil))
          rotate_left 2
          all_goals
           refine wpOp_of_listL rfl ?_
           (refine ldN ?_); (try simp only [Act.put]); (try simp only [sI9, sZ9, sS9])
           refine wpList_done (qk_intro ?_)
          refine wpAny_1 11 ?_
          rotate_left 1
          refine wpAny_1 7 ?_
          rotate_left 1
          all_goals
           refine wpOp_of_listL rfl ?_
           (refine ldN ?_); (try simp only [Act.put]); (try simp only [sI9, sZ9, sS9])
           refine wpList_done (qk_intro ?_)
          refine wpAny_tkO (Ix.mk [12]) ?_
          (first | go_big_quiet_skip | (go_big_quiet_want; (go_big_quiet_op; (first | go_big_quiet_on | ((refine ⟨_, fun _ _ => rfl, ?_⟩); go_big_quiet_on))))); (refine wpQuiet_nil ?_); (try simp only [Act.put]); (try simp only [sI9, sZ9, sS9])
          refine wpAny_1 13 ?_
          rotate_left 1
          refine wpAny_tkO (Ix.mk [12]) ?_
          (first | go_big_quiet_skip | (go_big_quiet_want; (go_big_quiet_op; (first | go_big_quiet_on | ((refine ⟨_, fun _ _ => rfl, ?_⟩); go_big_quiet_on))))); (refine wpQuiet_nil ?_); (try simp only [Act.put]); (try simp only [sI9, sZ9, sS9])
          refine wpAny_1 13 ?_
          rotate_left 1
          all_goals
           refine wpOp_of_listL rfl ?_
           ((with_reducible refine is_store ?_); (refine own_stU hO (h := ?_); clear hO; intro wv hO)); (try simp only [Act.put])
           refine wpList_done (qk_intro ?_)
          refine wpAny_tkO (Ix.mk [14]) ?_
          (first | go_big_quiet_skip | (go_big_quiet_want; (go_big_quiet_op; (first | go_big_quiet_on | ((refine ⟨_, fun _ _ => rfl, ?_⟩); go_big_quiet_on))))); (refine wpQuiet_nil ?_); (try simp only [Act.put]); (try simp only [sI9, sZ9, sS9])
          refine wpAny_1 15 ?_
          rotate_left 1
          refine wpAny_tkO (Ix.mk [14]) ?_
          (first | go_big_quiet_skip | (go_big_quiet_want; (go_big_quiet_op; (first | go_big_quiet_on | ((refine ⟨_, fun _ _ => rfl, ?_⟩); go_big_quiet_on))))); (refine wpQuiet_nil ?_); (try simp only [Act.put]); (try simp only [sI9, sZ9, sS9])
          refine wpAny_1 15 ?_
          rotate_left 1
          all_goals
           refine wpOp_of_listL rfl ?_
           ((with_reducible refine is_store ?_); (refine own_stU hO (h := ?_); clear hO; intro wv hO)); (try simp only [Act.put])
           refine wpList_done (qk_intro ?_)
          exact wpAny_done (by kernel_rfl) ⟨rfl, rfl, hO⟩ _
          exact wpAny_done (by kernel_rfl) ⟨rfl, rfl, hO⟩ _
         clear hO
         intro wv hO
         rw [uc_swp hx.out hy.out] at hO
         clear hx hy c1 c2 z1 z2 z3 z4
         obtain ⟨m, hm⟩ : ∃ m, m = j2 - 1 := ⟨_, rfl⟩
         have s7 : IntKind.i64.wrap ((j2 : Int) - 1) = (m : Int) := by rw [IntWalk.i64_in _ (by omega)]; omega
         have s8 : (j2 : Int) - 1 = (m : Int) := by omega
         rw [← hm] at hE2
         have hm1 : a ≤ m := by omega
         have hm2 : m ≤ b := by omega
         have hm3 : m + 1 - (i2 + 1) ≤ gk0 - 1 := by omega
         have hm4 : gk0 - 1 < gk0 := by omega
         clear hm
         go_wp2_with fail
         go_roundg (gk0 - 1)
         case measure => omega
         case rel => exact ⟨i2 + 1, m, _, hm3, by (rfl), by (rfl), by omega, by omega, hm1, hm2, hk3, hE2, hO⟩
       ·have hib : i2 ≤ j2 := by simp only [Bool.and_eq_true, decide_eq_true_eq] at hc; exact hc.1
        obtain ⟨n, rfl⟩ : ∃ n, j2 = n + 1 := ⟨j2 - 1, by omega⟩
        have hJ3 : Hid (Go.Sort.scanDown (fun x => ltInt d2[a]! x) d2 i2 n = J2) := Lib.hid (by
         have := hJH2.out
         rw [Go.Sort.scanDown, if_pos hc] at this; exact this)
        have e2 : ((n + 1 : Nat) : Int) = (n : Int) + 1 := by omega
        have s5 : IntKind.i64.wrap ((n : Int) + 1 - 1) = (n : Int) := by rw [IntWalk.i64_in _ (by omega)]; omega
        have s6 : IntKind.i64.wrap (n : Int) = (n : Int) := IntWalk.i64_in _ (by omega)
        clear hJH2 hc
        go_wp2_with fail
        go_roundg n
        case measure => omega
        case rel => exact ⟨n, by omega, by (rfl), by omega, by omega, hJ3, hO⟩
    ·have hib : i2 ≤ j0 := by simp only [Bool.and_eq_true, decide_eq_true_eq] at hc; exact hc.1
     have hI3 : Hid (Go.Sort.scanUp (fun x => !ltInt d2[a]! x) d2 j0 (i2 + 1) = I2) := Lib.hid (by
      have := hIH2.out
      rw [Go.Sort.scanUp, if_pos hc] at this; exact this)
     clear hIH2 hc
     go_wp2_with fail
     go_roundg (b + 1 - (i2 + 1))
     case measure => omega
     case rel => exact ⟨i2 + 1, by omega, by go_num, by omega, by omega, hI3, hO⟩
end Go.Proofs.YtbdfblgdmappeaaGreatDoor
