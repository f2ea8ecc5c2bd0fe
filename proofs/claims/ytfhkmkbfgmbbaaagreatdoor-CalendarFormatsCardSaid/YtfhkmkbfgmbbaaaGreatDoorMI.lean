/- The calendar's reference: times, moments. -/
import Derived.Test.YtfhkmkbfgmbbaaaGreatDoorMH
import Derived.Test.YtfhkmkbfgmbbaaaGreatDoorMG
namespace Go.Proofs.YtfhkmkbfgmbbaaaGreatDoor
open Go.RowKit
set_option maxRecDepth 100000
set_option maxHeartbeats 8000000 in
theorem rclock_any (x : Bs) (w : World) (hx : x.length ≤ 9223372036854775807) :
    Calls Tryz.prog 57 #[.string ⟨x.toArray⟩] w fun e w' => e = .returned (.int .i64 (clkR x)) ∧ Below w.heap.size w w' := by
  have hO := own_start [] w
  by_cases h24 : x = s24
  · subst h24
    rw [show clkR s24 = 1440 from rfl]
    unfold s24
    go_enter Tryz.func57, Tryz.ntmps57
    go_wp2_with fail
    go_ret
    exact ⟨rfl, hO.keep.below⟩
  have g1 : (x == [50, 52, 58, 48, 48]) = false := beq_eq_false_iff_ne.2 h24
  by_cases hl : x.length = 5
  · have h2 : 2 < x.length := by omega
    have e0 : (⟨x.toArray⟩ : ByteArray)[2]'h2 = x[2] := rfl
    have e1 : (⟨x.toArray⟩ : ByteArray).extract 0 2 = ⟨(x.take 2).toArray⟩ := ext_B x 0 2
    have e2 : (⟨x.toArray⟩ : ByteArray).extract 3 x.length = ⟨(x.drop 3).toArray⟩ := by rw [ext_B, List.take_length]
    have hp1 := fun w => rtwo_any (x.take 2) w (by simp; omega)
    have hp2 := fun w => rtwo_any (x.drop 3) w (by simp; omega)
    have b1 := pairI_bd (x.take 2)
    have b2 := pairI_bd (x.drop 3)
    have hC := clkR_five h24 hl
    rw [hC]
    clear hC
    generalize x[2] = c at *
    generalize x.take 2 = xl at *
    generalize x.drop 3 = xr at *
    have g9 : ((x.length : Int) != 5) = false := by rw [hl]; rfl
    have c1 : (2 : Int) ≤ (x.length : Int) := by omega
    have c2 : (3 : Int) ≤ (x.length : Int) := by omega
    have c3 : (2 : Int) < (x.length : Int) := by omega
    have c4 : 3 ≤ x.length := by omega
    have c5 : 2 ≤ x.length := by omega
    have g2 : ((c.toNat : Int) != 58) = !decide (c = 58) := byte_ne (d := 58)
    by_cases h58 : c = 58
    · rw [if_pos h58]
      rw [decide_eq_true h58] at g2
      generalize pairI xl = p at *
      generalize pairI xr = q at *
      have s1 : IntKind.i64.wrap (60 * p) = 60 * p := IntWalk.i64_in _ (by omega)
      have s2 : IntKind.i64.wrap (60 * p + q) = 60 * p + q := IntWalk.i64_in _ (by omega)
      clear hl h24 h58 hx
      obtain ⟨V, HV⟩ : ∃ V, Hid ((if 0 ≤ p ∧ p ≤ 23 ∧ 0 ≤ q ∧ q ≤ 59 then 60 * p + q else -1) = V) := ⟨_, Lib.hid rfl⟩
      rw [HV.out]
      go_enter Tryz.func57, Tryz.ntmps57
      go_wp2_with fail
      (refine own_quiet hO (by kernel_rfl) (by kernel_rfl) ?_; clear hO; (repeat (go_big_quiet_want; (go_big_quiet_op; (first | go_big_quiet_on | ((refine ⟨_, fun _ _ => rfl, ?_⟩); go_big_quiet_on) | go_big_quiet_call ((first | (intro hq; go_at_call 79; with_reducible exact q_call (hp1 _) hq) | (intro hq; go_at_call 79; with_reducible exact q_call (hp2 _) hq))))))); (refine wpQuiet_nil ?_); intro wv hO)
      by_cases h1 : p < 0
      · have g3 : decide (p < 0) = true := decide_eq_true h1
        obtain rfl : V = -1 := by rw [← HV.out, if_neg (by omega)]
        clear HV
        go_wp2_with fail
        go_ret
        exact ⟨rfl, hO.keep.below⟩
      have g3 : decide (p < 0) = false := decide_eq_false h1
      by_cases h2 : 23 < p
      · have g4 : decide (p > 23) = true := decide_eq_true h2
        obtain rfl : V = -1 := by rw [← HV.out, if_neg (by omega)]
        clear HV
        go_wp2_with fail
        go_ret
        exact ⟨rfl, hO.keep.below⟩
      have g4 : decide (p > 23) = false := decide_eq_false h2
      by_cases h3 : q < 0
      · have g5 : decide (q < 0) = true := decide_eq_true h3
        obtain rfl : V = -1 := by rw [← HV.out, if_neg (by omega)]
        clear HV
        go_wp2_with fail
        go_ret
        exact ⟨rfl, hO.keep.below⟩
      have g5 : decide (q < 0) = false := decide_eq_false h3
      by_cases h4 : 59 < q
      · have g6 : decide (q > 59) = true := decide_eq_true h4
        obtain rfl : V = -1 := by rw [← HV.out, if_neg (by omega)]
        clear HV
        go_wp2_with fail
        go_ret
        exact ⟨rfl, hO.keep.below⟩
      have g6 : decide (q > 59) = false := decide_eq_false h4
      obtain rfl : V = 60 * p + q := by rw [← HV.out, if_pos (by omega)]
      clear HV
      go_wp2_with fail
      go_ret
      exact ⟨rfl, hO.keep.below⟩
    · rw [if_neg h58]
      rw [decide_eq_false h58] at g2
      clear hl h24 h58 hx hp1 hp2 b1 b2
      go_enter Tryz.func57, Tryz.ntmps57
      go_wp2_with fail
      go_ret
      exact ⟨rfl, hO.keep.below⟩
  · have g2 : ((x.length : Int) != 5) = true := by rw [bne_iff_ne]; omega
    rw [clkR_else h24 hl]
    go_enter Tryz.func57, Tryz.ntmps57
    go_wp2_with fail
    go_ret
    exact ⟨rfl, hO.keep.below⟩
end Go.Proofs.YtfhkmkbfgmbbaaaGreatDoor

/- The calendar's reference: numbers, texts, moments. -/
namespace Go.Proofs.YtfhkmkbfgmbbaaaGreatDoor
open Go.RowKit
set_option maxRecDepth 100000
/-- the digits of a number below 100 -/
def numT (n : Nat) : Bs := if n < 10 then [UInt8.ofNat (48 + n)] else tx2 n
set_option maxHeartbeats 4000000 in
theorem rnum1_any (n : Nat) (w : World) (hn : n < 10) :
    Calls Tryz.prog 62 #[.int .i64 n] w fun e w' => e = .returned (.string ⟨(bsK [48 + (n : Int)]).toArray⟩) ∧ Below w.heap.size w w' := by
  have hO := own_start [] w
  have t1 : IntKind.i64.wrap (48 + (n : Int)) = 48 + (n : Int) := IntWalk.i64_in _ (by omega)
  have t2 : IntKind.u8.wrap (48 + (n : Int)) = 48 + (n : Int) := by rw [IntKind.wrap_u8]; omega
  have g1 : decide ((n : Int) < 10) = true := decide_eq_true (by omega)
  go_enter Tryz.func62, Tryz.ntmps62
  go_wp2_with (first | ((with_reducible refine is_build ?_); (refine' own_buildP (o := ⟨some 8, _, _, _, _, _⟩) [.int .u8 (48 + (n : Int))] hO (by rfl) rfl slice_u8 rfl rfl (by rfl) (by decide) (by decide) ?_); clear hO; intro n8 wv hO) | ((with_reducible refine is_convK ?_); (refine own_convK (l := [48 + (n : Int)]) (by rfl) rfl rfl (own_chunkAt hO List.mem_cons_self) rfl ?_)))
  go_ret
  exact ⟨rfl, hO.keep.below⟩
set_option maxHeartbeats 4000000 in
theorem rnum_any (n : Nat) (w : World) (hn : n < 100) :
    Calls Tryz.prog 62 #[.int .i64 n] w fun e w' => e = .returned (.string ⟨(numT n).toArray⟩) ∧ Below w.heap.size w w' := by
  by_cases h10 : n < 10
  · have : numT n = bsK [48 + (n : Int)] := by unfold numT; rw [if_pos h10]; rfl
    rw [this]
    exact rnum1_any n w h10
  have hO := own_start [] w
  have hT : numT n = bsK [48 + ((n / 10 : Nat) : Int)] ++ bsK [48 + ((n % 10 : Nat) : Int)] := by unfold numT; rw [if_neg h10]; rfl
  rw [hT]
  have s1 : Int.tdiv (n : Int) 10 = ((n / 10 : Nat) : Int) := rfl
  have s2 : Int.tmod (n : Int) 10 = ((n % 10 : Nat) : Int) := rfl
  have h1 := fun w => rnum1_any (n / 10) w (by omega)
  have g1 : decide ((n : Int) < 10) = false := decide_eq_false (by omega)
  have b1 : n / 10 < 10 := by omega
  have b2 : n % 10 < 10 := by omega
  have l1 : (bsK [48 + ((n / 10 : Nat) : Int)]).length = 1 := rfl
  have l2 : (bsK [48 + ((n % 10 : Nat) : Int)]).length = 1 := rfl
  generalize n / 10 = p at *
  generalize n % 10 = q at *
  generalize bsK [48 + (p : Int)] = x at *
  have t1 : IntKind.i64.wrap (p : Int) = (p : Int) := IntWalk.i64_in _ (by omega)
  have t2 : IntKind.i64.wrap (q : Int) = (q : Int) := IntWalk.i64_in _ (by omega)
  have t5 : IntKind.i64.wrap (48 + (q : Int)) = 48 + (q : Int) := IntWalk.i64_in _ (by omega)
  have t6 : IntKind.u8.wrap (48 + (q : Int)) = 48 + (q : Int) := by rw [IntKind.wrap_u8]; omega
  have k1 : ¬ 9223372036854775807 < x.length + (bsK [48 + (q : Int)]).length := by omega
  have k2 : ¬ 9223372036854775807 < x.length + 1 := by omega
  go_enter Tryz.func62, Tryz.ntmps62
  go_wp2_with fail
  refine wp_region_any (by kernel_rfl) ?_
  replace hO := hO.drew
  have ix9 := Ix.mk [0, 1, 3, 4, 5, 6]
  iterate 6 (refine wpAny_tk ix9 ?_; replace ix9 := ix9.tail; (first | go_big_quiet_skip | (go_big_quiet_want; (go_big_quiet_op; (first | go_big_quiet_on | ((refine ⟨_, fun _ _ => rfl, ?_⟩); go_big_quiet_on))))); (refine wpQuiet_nil ?_); (try simp only [Act.put]); (try simp only [List.setIfInBounds_toArray, List.set_cons_zero, List.set_cons_succ]))
  clear ix9
  refine wpAny_all (rs := [2, 7]) (by kernel_rfl) (by simp) (ord_cons ?_ (ord_cons ?_ ord_nil))
  rotate_left 2
  all_goals
    refine wpOp_of_listL rfl ?_
    (first | ((with_reducible refine is_build ?_); (refine' own_buildP (o := ⟨some 17, _, _, _, _, _⟩) [.int .u8 (48 + (q : Int))] hO (by rfl) rfl slice_u8 rfl rfl (by rfl) (by decide) (by decide) ?_); clear hO; intro n17 wv hO) | ((refine wpList_step (fun K hK => ?_)); go_simp; ((go_at_call 62; (with_reducible refine (h1 _).mono ?_); rintro e wv ⟨rfl, hb⟩; replace hO := hO.call hb; clear hb); (try simp only []); (refine hK _ _ ?_); clear hK K))); (try simp only [Act.put]); (try simp only [List.setIfInBounds_toArray, List.set_cons_zero, List.set_cons_succ])
    refine wpList_done (qk_intro ?_)
  refine wpAny_all (rs := [7]) (by kernel_rfl) (by simp) (ord_cons ?_ ord_nil)
  rotate_left 1
  refine wpAny_all (rs := [2, 8]) (by kernel_rfl) (by simp) (ord_cons ?_ (ord_cons ?_ ord_nil))
  rotate_left 2
  all_goals
    refine wpOp_of_listL rfl ?_
    (first | ((with_reducible refine is_build ?_); (refine' own_buildP (o := ⟨some 17, _, _, _, _, _⟩) [.int .u8 (48 + (q : Int))] hO (by rfl) rfl slice_u8 rfl rfl (by rfl) (by decide) (by decide) ?_); clear hO; intro n17 wv hO) | ((with_reducible refine is_convK ?_); (refine own_convK (l := [48 + (q : Int)]) (by rfl) rfl rfl (own_chunkAt hO List.mem_cons_self) rfl ?_)) | ((refine wpList_step (fun K hK => ?_)); go_simp; ((go_at_call 62; (with_reducible refine (h1 _).mono ?_); rintro e wv ⟨rfl, hb⟩; replace hO := hO.call hb; clear hb); (try simp only []); (refine hK _ _ ?_); clear hK K))); (try simp only [Act.put]); (try simp only [List.setIfInBounds_toArray, List.set_cons_zero, List.set_cons_succ])
    refine wpList_done (qk_intro ?_)
  refine wpAny_all (rs := [8]) (by kernel_rfl) (by simp) (ord_cons ?_ ord_nil)
  rotate_left 1
  refine wpAny_all (rs := [8]) (by kernel_rfl) (by simp) (ord_cons ?_ ord_nil)
  rotate_left 1
  refine wpAny_all (rs := [2]) (by kernel_rfl) (by simp) (ord_cons ?_ ord_nil)
  rotate_left 1
  all_goals
    refine wpOp_of_listL rfl ?_
    (first | ((with_reducible refine is_convK ?_); (refine own_convK (l := [48 + (q : Int)]) (by rfl) rfl rfl (own_chunkAt hO List.mem_cons_self) rfl ?_)) | ((refine wpList_step (fun K hK => ?_)); go_simp; ((go_at_call 62; (with_reducible refine (h1 _).mono ?_); rintro e wv ⟨rfl, hb⟩; replace hO := hO.call hb; clear hb); (try simp only []); (refine hK _ _ ?_); clear hK K))); (try simp only [Act.put]); (try simp only [List.setIfInBounds_toArray, List.set_cons_zero, List.set_cons_succ])
    refine wpList_done (qk_intro ?_)
  refine wpAny_tk (Ix.mk [9]) ?_
  (first | go_big_quiet_skip | (go_big_quiet_want; (go_big_quiet_op; (first | go_big_quiet_on | ((refine ⟨_, fun _ _ => rfl, ?_⟩); go_big_quiet_on))))); (refine wpQuiet_nil ?_); (try simp only [Act.put]); (try simp only [List.setIfInBounds_toArray, List.set_cons_zero, List.set_cons_succ])
  refine wpAny_all (rs := [10]) (by kernel_rfl) (by simp) (ord_cons ?_ ord_nil)
  rotate_left 1
  refine wpAny_tk (Ix.mk [9]) ?_
  (first | go_big_quiet_skip | (go_big_quiet_want; (go_big_quiet_op; (first | go_big_quiet_on | ((refine ⟨_, fun _ _ => rfl, ?_⟩); go_big_quiet_on))))); (refine wpQuiet_nil ?_); (try simp only [Act.put]); (try simp only [List.setIfInBounds_toArray, List.set_cons_zero, List.set_cons_succ])
  refine wpAny_all (rs := [10]) (by kernel_rfl) (by simp) (ord_cons ?_ ord_nil)
  rotate_left 1
  refine wpAny_tk (Ix.mk [9]) ?_
  (first | go_big_quiet_skip | (go_big_quiet_want; (go_big_quiet_op; (first | go_big_quiet_on | ((refine ⟨_, fun _ _ => rfl, ?_⟩); go_big_quiet_on))))); (refine wpQuiet_nil ?_); (try simp only [Act.put]); (try simp only [List.setIfInBounds_toArray, List.set_cons_zero, List.set_cons_succ])
  refine wpAny_all (rs := [10]) (by kernel_rfl) (by simp) (ord_cons ?_ ord_nil)
  rotate_left 1
  all_goals
    refine wpOp_of_listL rfl ?_
    ((refine wpList_step (fun K hK => ?_)); go_simp; ((refine hK _ _ ?_); clear hK K))
    refine wpList_done (qk_intro ?_)
  refine wpAny_done (by kernel_rfl) ?_ _
  rotate_left
  refine wpAny_done (by kernel_rfl) ?_ _
  rotate_left
  refine wpAny_done (by kernel_rfl) ?_ _
  rotate_left
  all_goals go_wp2_with fail
  all_goals
    go_ret
    exact ⟨by rw [cat_B]; rfl, hO.keep.below⟩
theorem numT_len {n : Nat} : (numT n).length ≤ 2 := by
  unfold numT; split <;> simp [tx2]
theorem pad_lo {n : Nat} (h : n < 10) : tx2 n = [48] ++ numT n := by
  unfold numT tx2
  rw [if_pos h, show n / 10 = 0 by omega, show n % 10 = n by omega]; rfl
theorem pad_hi {n : Nat} (h : ¬ n < 10) : tx2 n = numT n := by unfold numT; rw [if_neg h]
set_option maxHeartbeats 4000000 in
theorem rpad_any (n : Nat) (w : World) (hn : n < 100) :
    Calls Tryz.prog 44 #[.int .i64 n] w fun e w' => e = .returned (.string ⟨(tx2 n).toArray⟩) ∧ Below w.heap.size w w' := by
  have hO := own_start [] w
  have h1 := fun w => rnum_any n w hn
  have l1 := @numT_len n
  by_cases h : n < 10
  · have g1 : decide ((n : Int) < 10) = true := decide_eq_true (by omega)
    rw [pad_lo h]
    generalize numT n = x at *
    have k2 : ¬ 9223372036854775807 < 1 + x.length := by omega
    go_enter Tryz.func44, Tryz.ntmps44
    go_wp2_with (go_at_call 62; (with_reducible refine (h1 _).mono ?_); rintro e wv ⟨rfl, hb⟩; replace hO := hO.call hb; clear hb)
    go_ret
    exact ⟨congrArg (fun b => Ending.returned (.string b)) (cat_B [48] x), hO.keep.below⟩
  · have g1 : decide ((n : Int) < 10) = false := decide_eq_false (by omega)
    rw [pad_hi h]
    generalize numT n = x at *
    go_enter Tryz.func44, Tryz.ntmps44
    go_wp2_with (go_at_call 62; (with_reducible refine (h1 _).mono ?_); rintro e wv ⟨rfl, hb⟩; replace hO := hO.call hb; clear hb)
    go_ret
    exact ⟨rfl, hO.keep.below⟩
set_option maxHeartbeats 4000000 in
theorem rtext_any (n : Nat) (w : World) (hn : n ≤ 1440) :
    Calls Tryz.prog 26 #[.int .i64 n] w fun e w' => e = .returned (.string ⟨(timeT n).toArray⟩) ∧ Below w.heap.size w w' := by
  have hO := own_start [] w
  have s1 : Int.tdiv (n : Int) 60 = ((n / 60 : Nat) : Int) := rfl
  have s2 : Int.tmod (n : Int) 60 = ((n % 60 : Nat) : Int) := rfl
  have h1 := fun w => rpad_any (n / 60) w (by omega)
  have h2 := fun w => rpad_any (n % 60) w (by omega)
  have hT : timeT n = tx2 (n / 60) ++ 58 :: tx2 (n % 60) := rfl
  rw [hT]
  have l1 : (tx2 (n / 60)).length = 2 := rfl
  have l2 : (tx2 (n % 60)).length = 2 := rfl
  have b1 : n / 60 < 100 := by omega
  have b2 : n % 60 < 100 := by omega
  generalize tx2 (n / 60) = x at *
  generalize tx2 (n % 60) = y at *
  generalize n / 60 = p at *
  generalize n % 60 = q at *
  have t1 : IntKind.i64.wrap (p : Int) = (p : Int) := IntWalk.i64_in _ (by omega)
  have t2 : IntKind.i64.wrap (q : Int) = (q : Int) := IntWalk.i64_in _ (by omega)
  have k1 : ¬ 9223372036854775807 < x.length + 1 := by omega
  have k2 : ¬ 9223372036854775807 < x.length + 1 + y.length := by omega
  clear l1 l2
  go_enter Tryz.func26, Tryz.ntmps26
  go_wp2_with (first | (go_at_call 44; (with_reducible refine (h1 _).mono ?_); rintro e wv ⟨rfl, hb⟩; replace hO := hO.call hb; clear hb) | (go_at_call 44; (with_reducible refine (h2 _).mono ?_); rintro e wv ⟨rfl, hb⟩; replace hO := hO.call hb; clear hb))
  go_ret
  exact ⟨by rw [cat3]; rfl, hO.keep.below⟩
end Go.Proofs.YtfhkmkbfgmbbaaaGreatDoor

/- The words of an item: days and times, by the program and by the reference. -/
namespace Go.Proofs.YtfhkmkbfgmbbaaaGreatDoor
open Go.RowKit
set_option maxRecDepth 100000
/-- what days and times hand back -/
def PairP (B : Nat) (w : World) (o : Option (Int × Int)) (e : Ending) (w' : World) : Prop := (∃ a b, e = .returned (.tuple #[.int .i64 a, .int .i64 b, .bool o.isSome]) ∧ ∀ p, o = some p → a = p.1 ∧ b = p.2) ∧ Below B w w'
theorem PairP.yes {B : Nat} {w w' : World} {a b : Int} {e : Ending} (h : PairP B w (some (a, b)) e w') : e = .returned (.tuple #[.int .i64 a, .int .i64 b, .bool true]) ∧ Below B w w' := by
  obtain ⟨⟨a', b', he, hp⟩, hb⟩ := h
  obtain ⟨rfl, rfl⟩ := hp _ rfl
  exact ⟨he, hb⟩
set_option maxHeartbeats 4000000 in
theorem days_any (x : Bs) (w : World) (hx : x.length ≤ 9223372036854775807) (hN : Nms w) :
    Calls Tryz.prog 50 #[.string ⟨x.toArray⟩] w (PairP w.heap.size w (spanR x)) := by
  have hO := own_nms hN
  have hcut := fun w => cut_any x 45 w hx
  rw [← span_eq]
  unfold spanP
  unfold cutS at hcut
  cases hc : cutB x 45 with
  | none =>
    rw [hc] at hcut
    dsimp only at hcut ⊢
    have hp1 := fun w h => index_any x w h
    generalize dayI x = p at *
    clear hc
    go_enter Tryz.func50, Tryz.ntmps50
    by_cases h1 : 0 ≤ p
    · have g1 : decide (p ≥ 0) = true := decide_eq_true h1
      have g2 : decide (p ≥ p) = true := decide_eq_true (Int.le_refl p)
      rw [if_pos h1]
      go_wp2_with (first | (go_at_call 52; (with_reducible refine (hcut _).mono ?_); rintro e wv ⟨rfl, hb⟩; replace hO := hO.call hb; clear hb) | (go_at_call 53; (with_reducible refine (hp1 _ (hO.nms hN (by simp))).mono ?_); rintro e wv ⟨rfl, hb⟩; replace hO := hO.call hb; clear hb))
      go_ret3
      exact ⟨⟨_, _, rfl, fun _ h => by cases h; exact ⟨rfl, rfl⟩⟩, hO.keep.below⟩
    · have g1 : decide (p ≥ 0) = false := decide_eq_false h1
      rw [if_neg h1]
      go_wp2_with (first | (go_at_call 52; (with_reducible refine (hcut _).mono ?_); rintro e wv ⟨rfl, hb⟩; replace hO := hO.call hb; clear hb) | (go_at_call 53; (with_reducible refine (hp1 _ (hO.nms hN (by simp))).mono ?_); rintro e wv ⟨rfl, hb⟩; replace hO := hO.call hb; clear hb))
      go_ret3
      exact ⟨⟨_, _, rfl, fun _ h => by cases h⟩, hO.keep.below⟩
  | some y =>
    obtain ⟨l, r⟩ := y
    rw [hc] at hcut
    dsimp only at hcut ⊢
    have hp1 := fun w h => index_any l w h
    have hp2 := fun w h => index_any r w h
    generalize dayI l = p at *
    generalize dayI r = q at *
    clear hc
    go_enter Tryz.func50, Tryz.ntmps50
    by_cases h1 : 0 ≤ p
    · have g1 : decide (p ≥ 0) = true := decide_eq_true h1
      by_cases h2 : p ≤ q
      · have g2 : decide (q ≥ p) = true := decide_eq_true h2
        rw [if_pos ⟨h1, h2⟩]
        go_wp2_with (first | (go_at_call 52; (with_reducible refine (hcut _).mono ?_); rintro e wv ⟨rfl, hb⟩; replace hO := hO.call hb; clear hb) | (go_at_call 53; (with_reducible refine (hp1 _ (hO.nms hN (by simp))).mono ?_); rintro e wv ⟨rfl, hb⟩; replace hO := hO.call hb; clear hb) | (go_at_call 53; (with_reducible refine (hp2 _ (hO.nms hN (by simp))).mono ?_); rintro e wv ⟨rfl, hb⟩; replace hO := hO.call hb; clear hb))
        go_ret3
        exact ⟨⟨_, _, rfl, fun _ h => by cases h; exact ⟨rfl, rfl⟩⟩, hO.keep.below⟩
      · have g2 : decide (q ≥ p) = false := decide_eq_false h2
        rw [if_neg fun h => h2 h.2]
        go_wp2_with (first | (go_at_call 52; (with_reducible refine (hcut _).mono ?_); rintro e wv ⟨rfl, hb⟩; replace hO := hO.call hb; clear hb) | (go_at_call 53; (with_reducible refine (hp1 _ (hO.nms hN (by simp))).mono ?_); rintro e wv ⟨rfl, hb⟩; replace hO := hO.call hb; clear hb) | (go_at_call 53; (with_reducible refine (hp2 _ (hO.nms hN (by simp))).mono ?_); rintro e wv ⟨rfl, hb⟩; replace hO := hO.call hb; clear hb))
        go_ret3
        exact ⟨⟨_, _, rfl, fun _ h => by cases h⟩, hO.keep.below⟩
    · have g1 : decide (p ≥ 0) = false := decide_eq_false h1
      rw [if_neg fun h => h1 h.1]
      go_wp2_with (first | (go_at_call 52; (with_reducible refine (hcut _).mono ?_); rintro e wv ⟨rfl, hb⟩; replace hO := hO.call hb; clear hb) | (go_at_call 53; (with_reducible refine (hp1 _ (hO.nms hN (by simp))).mono ?_); rintro e wv ⟨rfl, hb⟩; replace hO := hO.call hb; clear hb) | (go_at_call 53; (with_reducible refine (hp2 _ (hO.nms hN (by simp))).mono ?_); rintro e wv ⟨rfl, hb⟩; replace hO := hO.call hb; clear hb))
      go_ret3
      exact ⟨⟨_, _, rfl, fun _ h => by cases h⟩, hO.keep.below⟩
theorem tim_cut (x : Bs) : timR x = if 0 ≤ clkR (cutS x 45).1 ∧ clkR (cutS x 45).1 < clkR (cutS x 45).2.1 then some (clkR (cutS x 45).1, clkR (cutS x 45).2.1) else none := by
  rw [← tim_eq]
  unfold timP cutS
  cases cutB x 45 with
  | none =>
    dsimp only
    rw [if_neg]
    rw [clkR_nil]
    omega
  | some p => rfl
set_option maxHeartbeats 4000000 in
theorem times_any (x : Bs) (w : World) (hx : x.length ≤ 9223372036854775807) :
    Calls Tryz.prog 51 #[.string ⟨x.toArray⟩] w (PairP w.heap.size w (timR x)) := by
  have hO := own_start [] w
  have hcut := fun w => cut_any x 45 w hx
  have hC := tim_cut x
  obtain ⟨n1, n2⟩ := cutS_len x 45
  generalize cutS x 45 = y at *
  obtain ⟨l, r, b⟩ := y
  dsimp only at hC hcut n1 n2
  have hp1 := fun w => clock_any l w (by omega)
  have hp2 := fun w => clock_any r w (by omega)
  rw [hC]
  generalize clkR l = p at *
  generalize clkR r = q at *
  clear hC n1 n2
  go_enter Tryz.func51, Tryz.ntmps51
  by_cases h1 : 0 ≤ p
  · have g1 : decide (p ≥ 0) = true := decide_eq_true h1
    by_cases h2 : p < q
    · have g2 : decide (q > p) = true := decide_eq_true h2
      rw [if_pos ⟨h1, h2⟩]
      go_wp2_with (first | (go_at_call 52; (with_reducible refine (hcut _).mono ?_); rintro e wv ⟨rfl, hb⟩; replace hO := hO.call hb; clear hb) | (go_at_call 54; (with_reducible refine (hp1 _).mono ?_); rintro e wv ⟨rfl, hb⟩; replace hO := hO.call hb; clear hb) | (go_at_call 54; (with_reducible refine (hp2 _).mono ?_); rintro e wv ⟨rfl, hb⟩; replace hO := hO.call hb; clear hb))
      go_ret3
      exact ⟨⟨_, _, rfl, fun _ h => by cases h; exact ⟨rfl, rfl⟩⟩, hO.keep.below⟩
    · have g2 : decide (q > p) = false := decide_eq_false h2
      rw [if_neg fun h => h2 h.2]
      go_wp2_with (first | (go_at_call 52; (with_reducible refine (hcut _).mono ?_); rintro e wv ⟨rfl, hb⟩; replace hO := hO.call hb; clear hb) | (go_at_call 54; (with_reducible refine (hp1 _).mono ?_); rintro e wv ⟨rfl, hb⟩; replace hO := hO.call hb; clear hb) | (go_at_call 54; (with_reducible refine (hp2 _).mono ?_); rintro e wv ⟨rfl, hb⟩; replace hO := hO.call hb; clear hb))
      go_ret3
      exact ⟨⟨_, _, rfl, fun _ h => by cases h⟩, hO.keep.below⟩
  · have g1 : decide (p ≥ 0) = false := decide_eq_false h1
    rw [if_neg fun h => h1 h.1]
    go_wp2_with (first | (go_at_call 52; (with_reducible refine (hcut _).mono ?_); rintro e wv ⟨rfl, hb⟩; replace hO := hO.call hb; clear hb) | (go_at_call 54; (with_reducible refine (hp1 _).mono ?_); rintro e wv ⟨rfl, hb⟩; replace hO := hO.call hb; clear hb) | (go_at_call 54; (with_reducible refine (hp2 _).mono ?_); rintro e wv ⟨rfl, hb⟩; replace hO := hO.call hb; clear hb))
    go_ret3
    exact ⟨⟨_, _, rfl, fun _ h => by cases h⟩, hO.keep.below⟩
end Go.Proofs.YtfhkmkbfgmbbaaaGreatDoor

/- calendar.Parse. -/
namespace Go.Proofs.YtfhkmkbfgmbbaaaGreatDoor
open Go.RowKit
set_option maxRecDepth 100000
/-- what Parse hands back -/
def WinP (B : Nat) (w : World) : Win → Ending → World → Prop
  | .bad, e, w' => e = .returned (.tuple #[.slice none 0 0, .int .i64 4]) ∧ Below B w w'
  | .much, e, w' => e = .returned (.tuple #[.slice none 0 0, .int .i64 3]) ∧ Below B w w'
  | .is l, e, w' => ∃ v, e = .returned (.tuple #[v, .int .i64 0]) ∧ (IsCells w' v l.length (rcs l) ∧ NewFrom w v) ∧ Below B w w'
theorem itR_bnd {a f u : Int} (ha : 0 ≤ a) (hf : 0 ≤ f) (hu : f < u) (h2 : u ≤ 1440) : ∀ n : Nat, a + n ≤ 7 → BndR (itR a f u n)
  | 0, _ => fun _ h => absurd h List.not_mem_nil
  | n + 1, hn => fun r hr => by
    rw [itR] at hr
    rcases List.mem_append.1 hr with hr | hr
    · exact itR_bnd ha hf hu h2 n (by omega) r hr
    · obtain rfl := List.mem_singleton.1 hr
      dsimp only
      omega
theorem item_some {d t : Bs} {a b f u : Int} (h1 : spanR d = some (a, b)) (h2 : timR t = some (f, u)) : itemF d t = some (itR a f u (b - a + 1).toNat) := by
  unfold itemF; rw [h1, h2]
theorem item_no1 {d t : Bs} (h1 : spanR d = none) : itemF d t = none := by unfold itemF; rw [h1]
theorem item_no2 {d t : Bs} (h1 : timR t = none) : itemF d t = none := by
  unfold itemF; rw [h1]
  cases spanR d <;> rfl
theorem items_bad {ws : List Bs} {i : Nat} (h : i + 1 < ws.length) (hi : itemF (ws[i]'(by omega)) ws[i + 1] = none) : itemsF (ws.drop i) = none := by
  by_cases h2 : i + 2 = ws.length
  · rw [items_last h2, hi]
  · rw [items_step (by omega), hi]
    split <;> rfl
theorem items_sep {ws : List Bs} {i : Nat} (h : i + 2 < ws.length) (hi : ws[i + 2] ≠ [44]) : itemsF (ws.drop i) = none := by
  rw [items_step h, if_neg hi]
/-- what is read so far, and what the rest adds -/
def addW (m : List Rg) (k : Nat) : Option (List Rg × Nat) → Option (List Rg × Nat)
  | some (l, n) => some (m ++ l, k + n)
  | none => none
theorem addW_zero (o : Option (List Rg × Nat)) : addW [] 0 o = o := by
  cases o with
  | none => rfl
  | some p => obtain ⟨l, n⟩ := p; simp [addW]
theorem items_go {ws : List Bs} {i : Nat} {L m : List Rg} {k : Nat} (h : i + 2 < ws.length) (hi : itemF ws[i] ws[i + 1] = some L) (hc : ws[i + 2] = [44]) : addW m k (itemsF (ws.drop i)) = addW (m ++ L) (k + 1) (itemsF (ws.drop (i + 3))) := by
  rw [items_step h, if_pos hc, hi]
  cases itemsF (ws.drop (i + 3)) with
  | none => rfl
  | some p => obtain ⟨l, n⟩ := p; simp [addW]; omega
theorem items_end {ws : List Bs} {i : Nat} {L m : List Rg} {k : Nat} (h : i + 2 = ws.length) (hi : itemF (ws[i]'(by omega)) (ws[i + 1]'(by omega)) = some L) : addW m k (itemsF (ws.drop i)) = some (m ++ L, k + 1) := by
  rw [items_last h, hi]; rfl
theorem pars_bad {ws : List Bs} (hn : ws ≠ nevW) (h : itemsF ws = none) : parsF 16 ws = .bad := by
  unfold parsF; rw [if_neg hn, h]
theorem pars_much {ws : List Bs} {m : List Rg} {k : Nat} (hn : ws ≠ nevW) (h : itemsF ws = some (m, k)) (hk : 16 < k) : parsF 16 ws = .much := by
  unfold parsF; rw [if_neg hn, h]; exact if_pos hk
theorem pars_is {ws : List Bs} {m : List Rg} {k : Nat} (hn : ws ≠ nevW) (h : itemsF ws = some (m, k)) (hk : ¬ 16 < k) : parsF 16 ws = .is (canU m) := by
  unfold parsF; rw [if_neg hn, h]; exact if_neg hk
set_option maxHeartbeats 16000000 in
theorem parse_any {vl : Value} {ws : List Bs} (w : World) (hv : IsTexts w vl ws) (hn : ws.length ≤ 100000) (hx : ∀ x ∈ ws, x.length ≤ 9223372036854775807) (hN : Nms w) :
    Calls Tryz.prog 32 #[vl] w (WinP w.heap.size w (parsF 16 ws)) := by
  have hO := own_front (own_cellsA (own_nms hN) hv)
  obtain ⟨a, c, rfl, ha⟩ := formC_view (isCells_form hv)
  clear hv
  by_cases h1 : ws.length = 1
  · obtain ⟨x, rfl⟩ : ∃ x, ws = [x] := by
      match ws, h1 with
      | [x], _ => exact ⟨x, rfl⟩
    obtain ⟨g, o, rfl⟩ := ha (by simp)
    have hc0 : w.cell? ⟨g, o, none⟩ = some (.string ⟨x.toArray⟩) := hO.ro ⟨g, o, scs [x]⟩ (List.mem_cons_of_mem _ List.mem_cons_self) 0 _ rfl
    by_cases hxn : x = [110, 101, 118, 101, 114]
    · have g2 : (x == [110, 101, 118, 101, 114]) = true := beq_iff_eq.2 hxn
      have hP : parsF 16 [x] = .is [] := by unfold parsF; rw [if_pos (by rw [hxn]; rfl)]
      rw [hP]
      clear hP hxn hx ha
      go_enter Tryz.func32, Tryz.ntmps32
      go_wp2_with ((with_reducible refine is_load ?_); (refine own_ldV (h := ?_)))
      go_ret2
      exact ⟨_, rfl, ⟨.inl ⟨rfl, rfl, rfl⟩, fun g h => by cases h⟩, hO.keep.below⟩
    · have g2 : (x == [110, 101, 118, 101, 114]) = false := beq_eq_false_iff_ne.2 hxn
      have hP : parsF 16 [x] = .bad := pars_bad (fun e => hxn (List.cons.inj e).1) rfl
      rw [hP]
      clear hP hxn hx ha
      go_enter Tryz.func32, Tryz.ntmps32
      go_wp2_with ((with_reducible refine is_load ?_); (refine own_ldV (h := ?_)))
      go_loopw [4, 5, 6] (fun r n q wr => q = .int .i64 0 ∧ Own [] w [] [] (⟨0, 0, scs dayL⟩ :: roS (.slice (some ⟨g, o, none⟩) 1 c) (scs [x])) wr) (fun _ _ _ _ => 0)
      case atStart => exact ⟨rfl, hO⟩
      case round =>
        clear hO hc0
        obtain ⟨rfl, hO⟩ := hrel
        go_wp2_with fail
        go_ret2
        exact ⟨rfl, hO.keep.below⟩
  · have g1 : ((ws.length : Int) == 1) = false := beq_eq_false_iff_ne.2 (by omega)
    have hnv : ws ≠ nevW := fun e => h1 (by rw [e]; rfl)
    have HPB := Lib.hid (fun h => pars_bad hnv h)
    have HPM := Lib.hid (fun (m : List Rg) (k : Nat) h hk => pars_much (m := m) (k := k) hnv h hk)
    have HPI := Lib.hid (fun (m : List Rg) (k : Nat) h hk => pars_is (m := m) (k := k) hnv h hk)
    clear h1 hnv
    generalize parsF 16 ws = V at *
    go_enter Tryz.func32, Tryz.ntmps32
    go_wp2_with fail
    replace hO := hO.nilRow 46 2
    go_loopw [4, 5, 6] (fun r nv q wr => ∃ (i k : Nat) (m : List Rg), q = .int .i64 i ∧ nv = .int .i64 k ∧ k ≤ i ∧ i ≤ ws.length + 1 ∧ m.length ≤ 7 * k ∧ BndR m ∧ Hid (addW m k (itemsF (ws.drop i)) = itemsF ws) ∧ Own [] w [] [⟨r, m.length, rcs m, 46, 2⟩] (⟨0, 0, scs dayL⟩ :: roS (.slice a ws.length c) (scs ws)) wr) (fun _ _ q _ => ws.length + 4 - (intOf q).toNat)
    case atStart => exact ⟨0, 0, [], rfl, rfl, by omega, by omega, by simp, fun _ h => absurd h List.not_mem_nil, Lib.hid (addW_zero _), hO⟩
    case round =>
      clear hO
      obtain ⟨i, k, m, rfl, rfl, hki, hi, hmk, hmb, HI, hO⟩ := hrel
      have s1 : IntKind.i64.wrap ((i : Int) + 1) = (i : Int) + 1 := IntWalk.i64_in _ (by omega)
      have s2 : IntKind.i64.wrap ((i : Int) + 2) = (i : Int) + 2 := IntWalk.i64_in _ (by omega)
      have s3 : IntKind.i64.wrap ((i : Int) + 3) = (i : Int) + 3 := IntWalk.i64_in _ (by omega)
      have s4 : IntKind.i64.wrap ((k : Int) + 1) = (k : Int) + 1 := IntWalk.i64_in _ (by omega)
      by_cases hlt : i + 1 < ws.length
      · have g2 : decide ((i : Int) + 1 ≥ (ws.length : Int)) = false := decide_eq_false (by omega)
        obtain ⟨g, o, rfl⟩ := ha (by omega)
        rw [show roS (.slice (some ⟨g, o, none⟩) ws.length c) (scs ws) = [⟨g, o, scs ws⟩] from rfl] at hO
        have hl0 : i < ws.length := by omega
        have u1 := scs_at hl0
        have u2 := scs_at hlt
        have HB : Hid (itemF ws[i] ws[i + 1] = none → V = .bad) := Lib.hid fun h => HPB.out (by rw [← HI.out, items_bad hlt h]; rfl)
        have HSep : Hid (∀ h2 : i + 2 < ws.length, ws[i + 2] ≠ [44] → V = .bad) := Lib.hid fun h2 h => HPB.out (by rw [← HI.out, items_sep h2 h]; rfl)
        have HGo : Hid (∀ (L : List Rg) (h2 : i + 2 < ws.length), itemF ws[i] ws[i + 1] = some L → ws[i + 2] = [44] → addW (m ++ L) (k + 1) (itemsF (ws.drop (i + 3))) = itemsF ws) := Lib.hid fun L h2 h3 h4 => by rw [← items_go h2 h3 h4, HI.out]
        have HEnd : Hid (∀ (L : List Rg) (h2 : i + 2 = ws.length), itemF ws[i] ws[i + 1] = some L → itemsF ws = some (m ++ L, k + 1)) := Lib.hid fun L h2 h3 => by rw [← HI.out, items_end h2 h3]
        have nx := hx ws[i] (List.getElem_mem hl0)
        have ny := hx ws[i + 1] (List.getElem_mem hlt)
        clear HI
        generalize ws[i] = x at *
        generalize ws[i + 1] = y at *
        cases hsp : spanR x with
        | none =>
          have hD : ∀ w, Nms w → Calls Tryz.prog 50 #[.string ⟨x.toArray⟩] w fun e w' => (∃ a b, e = .returned (.tuple #[.int .i64 a, .int .i64 b, .bool false]) ∧ True) ∧ Below w.heap.size w w' := fun w h => (days_any x w nx h).mono fun e w' h => by
            rw [hsp] at h
            obtain ⟨⟨p, q, he, -⟩, hb⟩ := h
            exact ⟨⟨p, q, he, trivial⟩, hb⟩
          have hT : ∀ w, Calls Tryz.prog 51 #[.string ⟨y.toArray⟩] w fun e w' => (∃ a b, e = .returned (.tuple #[.int .i64 a, .int .i64 b, .bool (timR y).isSome]) ∧ True) ∧ Below w.heap.size w w' := fun w => (times_any y w ny).mono fun e w' h => by
            obtain ⟨⟨p, q, he, -⟩, hb⟩ := h
            exact ⟨⟨p, q, he, trivial⟩, hb⟩
          obtain rfl := HB.out (item_no1 hsp)
          generalize (timR y).isSome = bt at *
          clear HB HSep HGo HEnd HPB HPM HPI hsp
          go_wp2_with (first | ((with_reducible refine is_load ?_); (refine own_ldV (h := ?_))) | (go_at_call 50; (with_reducible refine (hD _ (hO.nms hN (by simp))).mono ?_); rintro e wv ⟨⟨p1, p2, rfl, hp9⟩, hb9⟩; replace hO := hO.call hb9; clear hb9) | (go_at_call 51; (with_reducible refine (hT _).mono ?_); rintro e wv ⟨⟨q1, q2, rfl, hq9⟩, hb9⟩; replace hO := hO.call hb9; clear hb9))
          go_ret2
          exact ⟨rfl, hO.keep.below⟩
        | some ab =>
          obtain ⟨A, B⟩ := ab
          have hD : ∀ w, Nms w → Calls Tryz.prog 50 #[.string ⟨x.toArray⟩] w fun e w' => e = .returned (.tuple #[.int .i64 A, .int .i64 B, .bool true]) ∧ Below w.heap.size w w' := fun w h => (days_any x w nx h).mono fun e w' h => by
            rw [hsp] at h
            exact h.yes
          cases htm : timR y with
          | none =>
            have hT : ∀ w, Calls Tryz.prog 51 #[.string ⟨y.toArray⟩] w fun e w' => (∃ a b, e = .returned (.tuple #[.int .i64 a, .int .i64 b, .bool false]) ∧ True) ∧ Below w.heap.size w w' := fun w => (times_any y w ny).mono fun e w' h => by
              rw [htm] at h
              obtain ⟨⟨p, q, he, -⟩, hb⟩ := h
              exact ⟨⟨p, q, he, trivial⟩, hb⟩
            obtain rfl := HB.out (item_no2 htm)
            clear HB HSep HGo HEnd HPB HPM HPI hsp htm
            go_wp2_with (first | ((with_reducible refine is_load ?_); (refine own_ldV (h := ?_))) | (go_at_call 50; (with_reducible refine (hD _ (hO.nms hN (by simp))).mono ?_); rintro e wv ⟨rfl, hb9⟩; replace hO := hO.call hb9; clear hb9) | (go_at_call 51; (with_reducible refine (hT _).mono ?_); rintro e wv ⟨⟨q1, q2, rfl, hq9⟩, hb9⟩; replace hO := hO.call hb9; clear hb9))
            go_ret2
            exact ⟨rfl, hO.keep.below⟩
          | some fu =>
            obtain ⟨f, u⟩ := fu
            have hT : ∀ w, Calls Tryz.prog 51 #[.string ⟨y.toArray⟩] w fun e w' => e = .returned (.tuple #[.int .i64 f, .int .i64 u, .bool true]) ∧ Below w.heap.size w w' := fun w => (times_any y w ny).mono fun e w' h => by
              rw [htm] at h
              exact h.yes
            have hit := item_some hsp htm
            obtain ⟨b1, b2, b3⟩ := spanR_bd hsp
            obtain ⟨b4, b5, b6⟩ := timR_bd htm
            clear HB hsp htm
            obtain ⟨N, hN9⟩ : ∃ N : Nat, (B - A + 1).toNat = N := ⟨_, rfl⟩
            have hN8 : (N : Int) = B - A + 1 := by omega
            rw [hN9] at hit
            clear hN9
            have hLB := itR_bnd b1 b4 b5 b6 N (by omega)
            have hLL := itR_len A f u N
            have HX : Hid (∀ j, rcs (m ++ itR A f u (j + 1)) = rcs (m ++ itR A f u j) ++ [.int .u32 (1440 * (A + (j : Int)) + f), .int .u32 (1440 * (A + (j : Int)) + u - 1)]) := Lib.hid fun j => by rw [itR, ← List.append_assoc, rcs_append]; rfl
            have g5 : decide (A ≤ B) = true := decide_eq_true b2
            go_wp2_with (first | ((with_reducible refine is_load ?_); (refine own_ldV (h := ?_))) | (go_at_call 50; (with_reducible refine (hD _ (hO.nms hN (by simp))).mono ?_); rintro e wv ⟨rfl, hb9⟩; replace hO := hO.call hb9; clear hb9) | (go_at_call 51; (with_reducible refine (hT _).mono ?_); rintro e wv ⟨rfl, hb9⟩; replace hO := hO.call hb9; clear hb9))
            go_loopw [4, 13] (fun r q wr => ∃ j : Nat, j ≤ N ∧ q = .int .i64 (A + (j : Int)) ∧ Own [] w [] [⟨r, m.length + j, rcs (m ++ itR A f u j), 46, 2⟩] [⟨0, 0, scs dayL⟩, ⟨g, o, scs ws⟩] wr) (fun _ q _ => (B + 1 - intOf q).toNat)
            case atStart => exact ⟨0, by omega, by simp, by simpa [itR] using hO⟩
            case round =>
              clear hO
              obtain ⟨j, hj, rfl, hO⟩ := hrel
              have s9 : IntKind.i64.wrap (A + (j : Int) + 1) = A + ((j + 1 : Nat) : Int) := by rw [IntWalk.i64_in _ (by omega)]; omega
              by_cases hjN : j < N
              · have g3 : decide (A + (j : Int) ≤ B) = true := decide_eq_true (by omega)
                have HX2 := Lib.hid (HX.out j)
                obtain ⟨E, hE⟩ : ∃ E : Int, E = 1440 * (A + (j : Int)) := ⟨_, rfl⟩
                have t1 : IntKind.i64.wrap ((A + (j : Int)) * 1440) = E := by rw [IntWalk.i64_in _ (by omega)]; omega
                have e0 : 0 ≤ E := by omega
                have e1 : E ≤ 8640 := by omega
                have t2 : IntKind.i64.wrap (E + f) = E + f := IntWalk.i64_in _ (by omega)
                have t3 : IntKind.u32.wrap (E + f) = E + f := by rw [IntKind.wrap_u32]; omega
                have t4 : IntKind.i64.wrap (E + u) = E + u := IntWalk.i64_in _ (by omega)
                have t5 : IntKind.i64.wrap (E + u - 1) = E + u - 1 := IntWalk.i64_in _ (by omega)
                have t6 : IntKind.u32.wrap (E + u - 1) = E + u - 1 := by rw [IntKind.wrap_u32]; omega
                rw [← hE] at HX2
                clear hE HSep HGo HEnd HPB HPM HPI HX
                obtain ⟨a7, c7, rfl, -⟩ := own_view hO List.mem_cons_self
                go_wp2_with (first | ((with_reducible refine is_build ?_); (refine' own_build1 (o := ⟨some 74, _, _, _, _, _⟩) hO (by rfl) rfl rfl ?hu ?hf ?_; (case hu => (with_reducible (exact und_Ranges))); (case hf => kernel_rfl); clear hO; intro n74 wv hO)) | ((with_reducible refine is_append ?_); (refine own_apV (o := ⟨some 75, _, _, _, _, _⟩) (hO := hO) (h := ?_); clear hO; intro g75 c75 wv hO)))
                rw [← HX2.out] at hO
                go_roundw
                case rel => exact ⟨j + 1, by omega, by go_num, hO.sub (X' := []) (List.nil_sublist _) (.refl _) (fun _ h => h)⟩
                case measure => simp [intOf]; omega
              · have g3 : decide (A + (j : Int) ≤ B) = false := decide_eq_false (by omega)
                obtain rfl : j = N := by omega
                have hmL : BndR (m ++ itR A f u j) := fun r hr => (List.mem_append.1 hr).elim (hmb r) (hLB r)
                have hLen : (m ++ itR A f u j).length = m.length + j := by rw [List.length_append, hLL]
                have HG : Hid (∀ h2 : i + 2 < ws.length, ws[i + 2] = [44] → addW (m ++ itR A f u j) (k + 1) (itemsF (ws.drop (i + 3))) = itemsF ws) := Lib.hid fun h2 hc => HGo.out _ h2 hit hc
                have HL : Hid (i + 2 = ws.length → itemsF ws = some (m ++ itR A f u j, k + 1)) := Lib.hid fun h2 => HEnd.out _ h2 hit
                clear HGo HEnd hit HX hLL hLB
                generalize m ++ itR A f u j = mL at *
                rw [← hLen] at hO
                have hnL : mL.length ≤ 7 * (k + 1) := by omega
                clear hLen hD hT
                by_cases hend : i + 2 = ws.length
                · have g4 : ((i : Int) + 2 == (ws.length : Int)) = true := beq_iff_eq.2 (by omega)
                  have hit2 := HL.out hend
                  by_cases h16 : 16 < k + 1
                  · have g6 : decide ((k : Int) + 1 > 16) = true := decide_eq_true (by omega)
                    obtain rfl := HPM.out _ _ hit2 h16
                    clear HPB HPM HPI HG HL HSep hit2 hend h16
                    go_wp2_with fail
                    go_ret2
                    exact ⟨rfl, hO.keep.below⟩
                  · have g6 : decide ((k : Int) + 1 > 16) = false := decide_eq_false (by omega)
                    obtain rfl := HPI.out _ _ hit2 h16
                    have hU : ∀ v w, IsCells w v mL.length (rcs mL) → Calls Tryz.prog 29 #[v, .slice none 0 0] w (RetRgs w (canU mL)) := fun v w h => by
                      have h2 := unionU_any (lb := []) w h (.inl ⟨rfl, rfl, rfl⟩) (by omega) (by simp) hmL (fun _ h => absurd h List.not_mem_nil)
                      rwa [List.append_nil] at h2
                    clear HPB HPM HPI HG HL HSep hit2 hend h16
                    go_wp2_with (go_at_call 29; (with_reducible refine (hU _ _ (own_rgs hO List.mem_cons_self)).mono ?_); rintro e wv ⟨v9, rfl, ⟨hv9, hn9⟩, hb9⟩; have hs9 := hO.keep.size; replace hO := hO.call hb9; clear hb9)
                    go_ret2
                    exact ⟨v9, rfl, ⟨hv9, fun g h => Nat.le_trans hs9 (hn9 g h)⟩, hO.keep.below⟩
                · have g4 : ((i : Int) + 2 == (ws.length : Int)) = false := beq_eq_false_iff_ne.2 (by omega)
                  have hl2 : i + 2 < ws.length := by omega
                  have u3 := scs_at hl2
                  have c2 : (i : Int) + 2 < (ws.length : Int) := by omega
                  have HSp2 := Lib.hid (HSep.out hl2)
                  have HG2 := Lib.hid (HG.out hl2)
                  clear HSep HG HL
                  generalize ws[i + 2] = z at *
                  by_cases hz : z = [44]
                  · have g7 : (z == [44]) = true := beq_iff_eq.2 hz
                    have HI := Lib.hid (HG2.out hz)
                    clear HG2 HSp2 hz hend HPB HPM HPI
                    go_wp2_with ((with_reducible refine is_load ?_); (refine own_ldV (h := ?_)))
                    go_roundw
                    case rel => exact ⟨i + 3, k + 1, mL, by go_num, by go_num, by omega, by omega, hnL, hmL, HI, hO⟩
                    case measure => simp [intOf]; omega
                  · have g7 : (z == [44]) = false := beq_eq_false_iff_ne.2 hz
                    obtain rfl := HSp2.out hz
                    clear HG2 HSp2 hz hend HPB HPM HPI
                    go_wp2_with ((with_reducible refine is_load ?_); (refine own_ldV (h := ?_)))
                    go_ret2
                    exact ⟨rfl, hO.keep.below⟩
      · have g2 : decide ((i : Int) + 1 ≥ (ws.length : Int)) = true := decide_eq_true (by omega)
        obtain rfl := HPB.out (by rw [← HI.out, items_none (by omega)]; rfl)
        clear HI HPB HPM HPI
        go_wp2_with fail
        go_ret2
        exact ⟨rfl, hO.keep.below⟩
end Go.Proofs.YtfhkmkbfgmbbaaaGreatDoor
