/- ref2.Valid; ref9.Window. -/
import Derived.Test.YtfhkmkbfgmbbaaaGreatDoorMH
import Derived.Test.YtfhkmkbfgmbbaaaGreatDoorMO
import Derived.Test.YtfhkmkbfgmbbaaaGreatDoorMN
namespace Go.Proofs.YtfhkmkbfgmbbaaaGreatDoor
open Go.RowKit
set_option maxRecDepth 100000
set_option maxHeartbeats 8000000 in
theorem rvalid9_any {vl : Value} {l : List Rg} (top : Int) (w : World) (hv : IsCells w vl l.length (rcs l)) (hn : l.length ≤ 100000000000) (hb : BndR l) :
    Calls Tryz.prog 42 #[vl, .int .u32 top] w fun e w' => e = .returned (.bool (winB top l)) ∧ Below w.heap.size w w' := by
  have hO := own_cellsA (own_start [] w) hv
  obtain ⟨a, c, rfl, ha⟩ := formC_view (isCells_form hv)
  simp only [List.append_nil] at hO
  clear hv
  go_enter Tryz.func42, Tryz.ntmps42
  go_wp2_with fail
  go_loopw [5] (fun q wr => ∃ i : Nat, i ≤ l.length ∧ q = .int .i64 i ∧ Hid (wokR top l i) ∧ Own [] w [] [] (roS (.slice a l.length c) (rcs l)) wr) (fun q _ => l.length - (intOf q).toNat)
  case atStart => exact ⟨0, by omega, rfl, Lib.hid fun j h _ => by omega, hO⟩
  case round =>
    clear hO
    obtain ⟨i, hi, rfl, HN, hO⟩ := hrel
    have s4 : IntKind.i64.wrap ((i : Int) + 1) = (i : Int) + 1 := IntWalk.i64_in _ (by omega)
    by_cases hlt : i < l.length
    · have g0 : decide ((i : Int) < (l.length : Int)) = true := decide_eq_true (by omega)
      obtain ⟨gl, ol, rfl⟩ := ha (by omega)
      simp only [roS] at hO
      obtain ⟨u1, u3⟩ := rcs_at hlt
      obtain ⟨b1, b2, b3, b4⟩ := hb _ (List.getElem_mem hlt)
      have HB : Hid (¬ (l[i].lo ≤ l[i].hi ∧ l[i].hi ≤ top) → winB top l = false) := Lib.hid (wok_bad1 hlt)
      have HS : Hid (l[i].lo ≤ l[i].hi → l[i].hi ≤ top → (∀ h0 : 0 < i, (l[i - 1]'(by omega)).hi + 2 ≤ l[i].lo) → wokR top l (i + 1)) := Lib.hid (wok_step HN.out hlt)
      clear HN
      by_cases h1 : l[i].hi < l[i].lo
      · have HE := Lib.hid (HB.out (by omega))
        clear HB HS
        generalize l[i] = r at *
        have g1 : decide (r.lo > r.hi) = true := decide_eq_true h1
        go_wp2_with fail
        (refine own_quiet hO (by kernel_rfl) (by kernel_rfl) ?_; clear hO; (repeat (first | go_big_quiet_skip | (go_big_quiet_want; (first | ((with_reducible refine is_loadQ ?_); (refine q_ldV (h := ?_)); (try simp only [Act.put]); (try simp only [List.setIfInBounds_toArray, List.set_cons_zero, List.set_cons_succ]); go_big_quiet_on) | (go_big_quiet_op; (first | go_big_quiet_on | ((refine ⟨_, fun _ _ => rfl, ?_⟩); go_big_quiet_on))))))); (refine wpQuiet_nil ?_); intro wv hO)
        go_wp2_with fail
        go_ret
        exact ⟨by rw [HE.out]; rfl, hO.keep.below⟩
      by_cases h2 : top < l[i].hi
      · have HE := Lib.hid (HB.out (by omega))
        clear HB HS
        generalize l[i] = r at *
        have g1 : decide (r.lo > r.hi) = false := decide_eq_false (by omega)
        have g2 : decide (r.hi > top) = true := decide_eq_true h2
        go_wp2_with fail
        (refine own_quiet hO (by kernel_rfl) (by kernel_rfl) ?_; clear hO; (repeat (first | go_big_quiet_skip | (go_big_quiet_want; (first | ((with_reducible refine is_loadQ ?_); (refine q_ldV (h := ?_)); (try simp only [Act.put]); (try simp only [List.setIfInBounds_toArray, List.set_cons_zero, List.set_cons_succ]); go_big_quiet_on) | (go_big_quiet_op; (first | go_big_quiet_on | ((refine ⟨_, fun _ _ => rfl, ?_⟩); go_big_quiet_on))))))); (refine wpQuiet_nil ?_); intro wv hO)
        go_wp2_with fail
        go_ret
        exact ⟨by rw [HE.out]; rfl, hO.keep.below⟩
      clear HB
      by_cases hz : i = 0
      · have HE := Lib.hid (HS.out (by omega) (by omega) (fun h => absurd h (by omega)))
        clear HS
        generalize l[i] = r at *
        have g1 : decide (r.lo > r.hi) = false := decide_eq_false (by omega)
        have g2 : decide (r.hi > top) = false := decide_eq_false (by omega)
        have g3 : decide ((i : Int) > 0) = false := decide_eq_false (by omega)
        have g5 : decide (0 < i) = false := decide_eq_false (by omega)
        clear hz
        go_wp2_with fail
        (refine own_quiet hO (by kernel_rfl) (by kernel_rfl) ?_; clear hO; (repeat (first | go_big_quiet_skip | (go_big_quiet_want; (first | ((with_reducible refine is_loadQ ?_); (refine q_ldV (h := ?_)); (try simp only [Act.put]); (try simp only [List.setIfInBounds_toArray, List.set_cons_zero, List.set_cons_succ]); go_big_quiet_on) | (go_big_quiet_op; (first | go_big_quiet_on | ((refine ⟨_, fun _ _ => rfl, ?_⟩); go_big_quiet_on))))))); (refine wpQuiet_nil ?_); intro wv hO)
        go_wp2_with fail
        go_roundw
        case rel => exact ⟨i + 1, by omega, by go_num, HE, hO.sub (X' := []) (List.nil_sublist _) (.refl _) (fun _ h => h)⟩
        case measure => simp [intOf]; omega
      · obtain ⟨k, rfl⟩ : ∃ k, i = k + 1 := ⟨i - 1, by omega⟩
        clear hz
        have hk : k < l.length := by omega
        obtain ⟨-, u2⟩ := rcs_at hk
        have k1 := hb _ (List.getElem_mem hk)
        have HB2 : Hid (¬ l[k].hi + 2 ≤ l[k + 1].lo → winB top l = false) := Lib.hid (wok_bad2 hlt)
        have HE : Hid (l[k].hi + 2 ≤ l[k + 1].lo → wokR top l (k + 1 + 1)) := Lib.hid fun h => HS.out (by omega) (by omega) (fun _ => by simpa using h)
        clear HS
        generalize l[k + 1] = r at *
        generalize l[k] = q at *
        have g1 : decide (r.lo > r.hi) = false := decide_eq_false (by omega)
        have g2 : decide (r.hi > top) = false := decide_eq_false (by omega)
        have g3 : decide (((k + 1 : Nat) : Int) > 0) = true := decide_eq_true (by omega)
        have s1 : IntKind.i64.wrap (((k + 1 : Nat) : Int) - 1) = (k : Int) := by rw [IntWalk.i64_in _ (by omega)]; omega
        have s2 : IntKind.u64.wrap r.lo = r.lo := by rw [IntKind.wrap_u64]; omega
        have s3 : IntKind.u64.wrap q.hi = q.hi := by rw [IntKind.wrap_u64]; omega
        have s5 : IntKind.u64.wrap (q.hi + 2) = q.hi + 2 := by rw [IntKind.wrap_u64]; omega
        by_cases hq : r.lo < q.hi + 2
        · have g4 : decide (r.lo < q.hi + 2) = true := decide_eq_true hq
          have HT := Lib.hid (HB2.out (by omega))
          clear HB2 HE hq
          go_wp2_with fail
          (refine own_quiet hO (by kernel_rfl) (by kernel_rfl) ?_; clear hO; (repeat (go_big_quiet_want; (first | ((with_reducible refine is_loadQ ?_); (refine q_ldV (h := ?_)); (try simp only [Act.put]); (try simp only [List.setIfInBounds_toArray, List.set_cons_zero, List.set_cons_succ]); go_big_quiet_on) | (go_big_quiet_op; (first | go_big_quiet_on | ((refine ⟨_, fun _ _ => rfl, ?_⟩); go_big_quiet_on)))))); (refine wpQuiet_nil ?_); intro wv hO)
          go_wp2_with fail
          go_ret
          exact ⟨by rw [HT.out]; rfl, hO.keep.below⟩
        · have g4 : decide (r.lo < q.hi + 2) = false := decide_eq_false hq
          have HT := Lib.hid (HE.out (by omega))
          clear HB2 HE hq
          go_wp2_with fail
          (refine own_quiet hO (by kernel_rfl) (by kernel_rfl) ?_; clear hO; (repeat (go_big_quiet_want; (first | ((with_reducible refine is_loadQ ?_); (refine q_ldV (h := ?_)); (try simp only [Act.put]); (try simp only [List.setIfInBounds_toArray, List.set_cons_zero, List.set_cons_succ]); go_big_quiet_on) | (go_big_quiet_op; (first | go_big_quiet_on | ((refine ⟨_, fun _ _ => rfl, ?_⟩); go_big_quiet_on)))))); (refine wpQuiet_nil ?_); intro wv hO)
          go_wp2_with fail
          go_roundw
          case rel => exact ⟨k + 1 + 1, by omega, by go_num, HT, hO.sub (X' := []) (List.nil_sublist _) (.refl _) (fun _ h => h)⟩
          case measure => simp [intOf]; omega
    · obtain rfl : i = l.length := by omega
      have HE : Hid (winB top l = true) := Lib.hid (winB_iff.2 HN.out)
      clear HN
      go_wp2_with fail
      go_ret
      exact ⟨by rw [HE.out]; rfl, hO.keep.below⟩
set_option maxHeartbeats 4000000 in
theorem rwin_any {vl : Value} {l : List Rg} (w : World) (hv : IsCells w vl l.length (rcs l)) (hn : l.length ≤ 100000000000) (hb : BndR l) :
    Calls Tryz.prog 23 #[vl] w fun e w' => e = .returned (.bool (winB 10079 l)) ∧ Below w.heap.size w w' := by
  have hO := own_cellsA (own_start [] w) hv
  have f0 := isCells_form hv
  have z0 := rcs_nil_of l
  obtain ⟨a, c, rfl, ha⟩ := formC_view f0
  have h1 := fun w h => rvalid9_any (vl := .slice a l.length c) (l := l) 10079 w h hn hb
  clear hv hb
  go_enter Tryz.func23, Tryz.ntmps23
  go_wp2_with (go_at_call 42; (with_reducible refine (h1 _ (hO.isC f0 z0 (by intro q hq; repeat (exact List.mem_append_left _ hq)))).mono ?_); rintro e wv ⟨rfl, hb⟩; replace hO := hO.call hb; clear hb)
  go_ret
  exact ⟨rfl, hO.keep.below⟩
end Go.Proofs.YtfhkmkbfgmbbaaaGreatDoor

/- The reference's Active, Same, Ints, Segments; the tape's ranges. -/
namespace Go.Proofs.YtfhkmkbfgmbbaaaGreatDoor
open Go.RowKit
set_option maxRecDepth 100000
set_option maxHeartbeats 2000000 in
theorem ractive_any {vl : Value} {l : List Rg} (m : Int) (w : World) (hv : IsCells w vl l.length (rcs l)) (hl : l.length ≤ 100000000000) (hb : BndR l) :
    Calls Tryz.prog 12 #[vl, .int .i64 m] w fun e w' => e = .returned (.bool (memB l m)) ∧ Below w.heap.size w w' := by
  have hO := own_start [] w
  have hc := fun w hv => rctn_any (vl := vl) (l := l) m w hv hl
  by_cases h1 : 0 ≤ m
  · have g1 : decide (m ≥ 0) = true := decide_eq_true h1
    by_cases h2 : m ≤ 4294967295
    · have g2 : decide (m ≤ 4294967295) = true := decide_eq_true h2
      have s1 : IntKind.u32.wrap m = m := by rw [IntKind.wrap_u32]; omega
      clear hb
      generalize memB l m = R at *
      go_enter Tryz.func12, Tryz.ntmps12
      go_wp2_with (go_at_call 28; (with_reducible refine (hc _ (hv.below hO.keep.below)).mono ?_); rintro e wv ⟨rfl, hb⟩; replace hO := hO.call hb; clear hb)
      go_ret
      exact ⟨rfl, hO.keep.below⟩
    · have g2 : decide (m ≤ 4294967295) = false := decide_eq_false h2
      rw [memB_out hb (by omega)]
      clear hc
      go_enter Tryz.func12, Tryz.ntmps12
      go_wp2_with fail
      go_ret
      exact ⟨rfl, hO.keep.below⟩
  · have g1 : decide (m ≥ 0) = false := decide_eq_false h1
    rw [memB_out hb (by omega)]
    clear hc
    go_enter Tryz.func12, Tryz.ntmps12
    go_wp2_with fail
    go_ret
    exact ⟨rfl, hO.keep.below⟩
set_option maxHeartbeats 4000000 in
theorem rsameS_any (v u : Value) (l : List Bs) (w : World) (hv : IsCells w v l.length (scs l)) (hu : IsCells w u l.length (scs l)) (hn : l.length ≤ 100000000000) :
    Calls Tryz.prog 8 #[v, u] w fun e w' => e = .returned (.bool true) ∧ Below w.heap.size w w' := by
  have hO := own_cellsA (own_cellsA (own_start [] w) hu) hv
  obtain ⟨a, c, rfl, ha⟩ := formC_view (isCells_form hv)
  obtain ⟨a2, c2, rfl, ha2⟩ := formC_view (isCells_form hu)
  simp only [List.append_nil] at hO
  clear hv hu
  have g0 : ((l.length : Int) != (l.length : Int)) = false := by simp
  go_enter Tryz.func8, Tryz.ntmps8
  go_wp2_with fail
  go_loopw [5] (fun q wr => ∃ i : Nat, i ≤ l.length ∧ q = .int .i64 i ∧ Own [] w [] [] (roS (.slice a l.length c) (scs l) ++ roS (.slice a2 l.length c2) (scs l)) wr) (fun q _ => l.length - (intOf q).toNat)
  case atStart => exact ⟨0, by omega, rfl, hO⟩
  case round =>
    clear hO
    obtain ⟨i, hi, rfl, hO⟩ := hrel
    have s4 : IntKind.i64.wrap ((i : Int) + 1) = (i : Int) + 1 := IntWalk.i64_in _ (by omega)
    by_cases hlt : i < l.length
    · obtain ⟨gl, ol, rfl⟩ := ha (by omega)
      obtain ⟨g2, o2, rfl⟩ := ha2 (by omega)
      simp only [roS, List.cons_append, List.nil_append] at hO
      have t1 := scs_at hlt
      generalize l[i] = r9 at *
      have g1 : decide ((i : Int) < (l.length : Int)) = true := decide_eq_true (by omega)
      go_wp2_with fail
      (refine own_quiet hO (by kernel_rfl) (by kernel_rfl) ?_; clear hO; (repeat (go_big_quiet_want; (first | ((with_reducible refine is_loadQ ?_); (refine q_ldV (h := ?_)); (try simp only [Act.put]); (try simp only [List.setIfInBounds_toArray, List.set_cons_zero, List.set_cons_succ]); go_big_quiet_on) | (go_big_quiet_op; (first | go_big_quiet_on | ((refine ⟨_, fun _ _ => rfl, ?_⟩); go_big_quiet_on)))))); (refine wpQuiet_nil ?_); intro wv hO)
      go_wp2_with fail
      go_roundw
      case rel => exact ⟨i + 1, by omega, by go_num, hO⟩
      case measure => simp [intOf]; omega
    · have g1 : decide ((i : Int) < (l.length : Int)) = false := decide_eq_false (by omega)
      obtain rfl : i = l.length := by omega
      go_wp2_with fail
      go_ret
      exact ⟨rfl, hO.keep.below⟩
set_option maxHeartbeats 4000000 in
theorem rints_any (v u : Value) (l : List Int) (w : World) (hv : IsCells w v l.length (ints l)) (hu : IsCells w u l.length (ints l)) (hn : l.length ≤ 100000000000) :
    Calls Tryz.prog 13 #[v, u] w fun e w' => e = .returned (.bool true) ∧ Below w.heap.size w w' := by
  have hO := own_cellsA (own_cellsA (own_start [] w) hu) hv
  obtain ⟨a, c, rfl, ha⟩ := formC_view (isCells_form hv)
  obtain ⟨a2, c2, rfl, ha2⟩ := formC_view (isCells_form hu)
  simp only [List.append_nil] at hO
  clear hv hu
  have g0 : ((l.length : Int) != (l.length : Int)) = false := by simp
  go_enter Tryz.func13, Tryz.ntmps13
  go_wp2_with fail
  go_loopw [5] (fun q wr => ∃ i : Nat, i ≤ l.length ∧ q = .int .i64 i ∧ Own [] w [] [] (roS (.slice a l.length c) (ints l) ++ roS (.slice a2 l.length c2) (ints l)) wr) (fun q _ => l.length - (intOf q).toNat)
  case atStart => exact ⟨0, by omega, rfl, hO⟩
  case round =>
    clear hO
    obtain ⟨i, hi, rfl, hO⟩ := hrel
    have s4 : IntKind.i64.wrap ((i : Int) + 1) = (i : Int) + 1 := IntWalk.i64_in _ (by omega)
    by_cases hlt : i < l.length
    · obtain ⟨gl, ol, rfl⟩ := ha (by omega)
      obtain ⟨g2, o2, rfl⟩ := ha2 (by omega)
      simp only [roS, List.cons_append, List.nil_append] at hO
      have t1 := intsK_at hlt
      generalize l[i] = r9 at *
      have g1 : decide ((i : Int) < (l.length : Int)) = true := decide_eq_true (by omega)
      have g3 : (r9 != r9) = false := by simp
      go_wp2_with fail
      (refine own_quiet hO (by kernel_rfl) (by kernel_rfl) ?_; clear hO; (repeat (go_big_quiet_want; (first | ((with_reducible refine is_loadQ ?_); (refine q_ldV (h := ?_)); (try simp only [Act.put]); (try simp only [List.setIfInBounds_toArray, List.set_cons_zero, List.set_cons_succ]); go_big_quiet_on) | (go_big_quiet_op; (first | go_big_quiet_on | ((refine ⟨_, fun _ _ => rfl, ?_⟩); go_big_quiet_on)))))); (refine wpQuiet_nil ?_); intro wv hO)
      go_wp2_with fail
      go_roundw
      case rel => exact ⟨i + 1, by omega, by go_num, hO⟩
      case measure => simp [intOf]; omega
    · have g1 : decide ((i : Int) < (l.length : Int)) = false := decide_eq_false (by omega)
      obtain rfl : i = l.length := by omega
      go_wp2_with fail
      go_ret
      exact ⟨rfl, hO.keep.below⟩
end Go.Proofs.YtfhkmkbfgmbbaaaGreatDoor

/- The reference's Segments. -/
namespace Go.Proofs.YtfhkmkbfgmbbaaaGreatDoor
open Go.RowKit
set_option maxRecDepth 100000
theorem segR_succ (Ks : List (List Rg)) (k : Nat) : segR Ks (k + 1) = segR Ks k ++ (if (Ks.any fun l => turnB l ((k : Int) + 1)) then [(k : Int) + 1] else []) := by
  unfold segR
  rw [mins, List.filter_append, List.cons_append]
  by_cases h : (Ks.any fun l => turnB l ((k : Int) + 1)) = true
  · rw [if_pos h, show List.filter (fun m => Ks.any fun l => turnB l m) [(k : Int) + 1] = [(k : Int) + 1] by simp only [List.filter_cons, List.filter_nil, h, if_true]]
  · rw [if_neg h, show List.filter (fun m => Ks.any fun l => turnB l m) [(k : Int) + 1] = [] by simp only [List.filter_cons, List.filter_nil, h, if_false, Bool.false_eq_true]]
theorem any_take_succ {Ks : List (List Rg)} {i : Nat} (h : i < Ks.length) (f : List Rg → Bool) : (Ks.take (i + 1)).any f = ((Ks.take i).any f || f Ks[i]) := by
  rw [List.take_succ_eq_append_getElem h, List.any_append]
  simp
set_option maxHeartbeats 16000000 in
theorem rsegs_any {vl : Value} {vs : List Value} {Ks : List (List Rg)} (w : World) (hlen : vs.length = Ks.length) (hv : IsCells w vl Ks.length vs) (hK : ∀ k (h : k < Ks.length), IsCells w (vs[k]'(by omega)) Ks[k].length (rcs Ks[k])) (hk10 : Ks.length ≤ 10) (hKl : ∀ K ∈ Ks, K.length ≤ 100000) (hb : ∀ K ∈ Ks, BndR K) :
    Calls Tryz.prog 15 #[vl] w (RetInts w (segR Ks 10079)) := by
  have hO := own_cellsA (own_start [] w) hv
  obtain ⟨a, c, rfl, ha⟩ := formC_view (isCells_form hv)
  simp only [List.append_nil] at hO
  clear hv
  go_enter Tryz.func15, Tryz.ntmps15
  go_upto_region 2 with ((with_reducible refine is_build ?_); (refine' own_buildP (o := ⟨some 7, _, _, _, _, _⟩) [.int .i64 0] hO (by rfl) rfl slice_intsS rfl rfl (by rfl) (by decide) (by decide) ?_); clear hO; intro n7 wv hO)
  replace hO : Own [] w [] [⟨.slice (some ⟨n7, 0, none⟩) 1 1, (segR Ks 0).length, ints (segR Ks 0), 3, 1⟩] (roS (.slice a Ks.length c) vs) wv := hO.chunkRow (k := 1) (size := 1) rfl (by decide)
  go_wp2_with fail
  go_loopw [3, 4] (fun r q wr => ∃ (k : Nat) (m : List Int), k ≤ 10079 ∧ q = .int .i64 ((k : Int) + 1) ∧ m.length ≤ k + 1 ∧ Hid (m = segR Ks k) ∧ Own [] w [] [⟨r, m.length, ints m, 3, 1⟩] (roS (.slice a Ks.length c) vs) wr) (fun _ q _ => 10080 - (intOf q).toNat)
  case atStart => exact ⟨0, segR Ks 0, by omega, rfl, by simp [segR, mins], Lib.hid rfl, hO⟩
  case round =>
    clear hO
    obtain ⟨k, m, hk, rfl, hml, HM, hO⟩ := hrel
    obtain ⟨M, hM⟩ : ∃ M : Int, (k : Int) + 1 = M := ⟨_, rfl⟩
    rw [hM]
    have HS := Lib.hid (segR_succ Ks k)
    rw [← HM.out, hM] at HS
    have M1 : 1 ≤ M := by omega
    have M2 : M ≤ 10080 := by omega
    have HK := Lib.hid hM
    clear hM
    have s4 : IntKind.i64.wrap (M + 1) = M + 1 := IntWalk.i64_in _ (by omega)
    have s5 : IntKind.i64.wrap (M - 1) = M - 1 := IntWalk.i64_in _ (by omega)
    by_cases hlt : M < 10080
    · have g1 : decide (M < 10080) = true := decide_eq_true hlt
      obtain ⟨a7, c7, rfl, -⟩ := own_view hO List.mem_cons_self
      go_wp2_with fail
      go_loopw [5, 6] (fun b q wr => ∃ (i : Nat), i ≤ Ks.length ∧ q = .int .i64 i ∧ b = .bool ((Ks.take i).any fun K => turnB K M) ∧ Own [] w [] [⟨.slice a7 m.length c7, m.length, ints m, 3, 1⟩] (roS (.slice a Ks.length c) vs) wr) (fun _ q _ => Ks.length - (intOf q).toNat)
      case atStart => exact ⟨0, by omega, rfl, by simp, hO⟩
      case round =>
        clear hO
        obtain ⟨i, hi, rfl, rfl, hO⟩ := hrel
        have s6 : IntKind.i64.wrap ((i : Int) + 1) = (i : Int) + 1 := IntWalk.i64_in _ (by omega)
        by_cases hlt2 : i < Ks.length
        · have g2 : decide ((i : Int) < (Ks.length : Int)) = true := decide_eq_true (by omega)
          obtain ⟨g, o, rfl⟩ := ha (by omega)
          rw [show roS (.slice (some ⟨g, o, none⟩) Ks.length c) vs = [⟨g, o, vs⟩] from rfl] at hO
          have hlv : i < vs.length := by omega
          have u1 : vs[i]? = some vs[i] := List.getElem?_eq_getElem hlv
          have hKk := hK i hlt2
          have hKn := hKl _ (List.getElem_mem hlt2)
          have hKb := hb _ (List.getElem_mem hlt2)
          have HT := Lib.hid (any_take_succ hlt2 fun K => turnB K M)
          have hT : turnB Ks[i] M = (memB Ks[i] M != memB Ks[i] (M - 1)) := rfl
          rw [hT] at HT
          clear hT
          have hA1 := fun (wq : World) (h : Keep [] w wq) => (ractive_any M wq (hKk.below h.below) (by omega) hKb)
          have hA2 := fun (wq : World) (h : Keep [] w wq) => (ractive_any (M - 1) wq (hKk.below h.below) (by omega) hKb)
          obtain ⟨bb, hbb⟩ : ∃ bb, ((Ks.take i).any fun K => turnB K M) = bb := ⟨_, rfl⟩
          rw [hbb] at HT
          rw [hbb]
          clear hbb hKk
          generalize memB Ks[i] M = p1 at *
          generalize memB Ks[i] (M - 1) = p2 at *
          generalize vs[i] = vk at *
          clear hKn hKb
          cases bb
          all_goals
            go_wp2_with fail
            refine wp_region_any (by kernel_rfl) ?_
            replace hO := hO.drew
            have ix9 := Ix.mk [0, 1, 2, 3, 4, 6, 8, 9, 10, 12, 13]
            iterate 11 (refine wpAny_tk ix9 ?_; replace ix9 := ix9.tail; (first | go_big_quiet_skip | (go_big_quiet_want; (go_big_quiet_op; (first | go_big_quiet_on | ((refine ⟨_, fun _ _ => rfl, ?_⟩); go_big_quiet_on))))); (refine wpQuiet_nil ?_); (try simp only [Act.put]); (try simp only [List.setIfInBounds_toArray, List.set_cons_zero, List.set_cons_succ]))
            clear ix9
            refine wpAny_all (rs := [5, 11]) (by kernel_rfl) (by simp) (ord_cons ?_ (ord_cons ?_ ord_nil))
            rotate_left 2
            all_goals
              refine wpOp_of_listL rfl ?_
              (first | ((with_reducible refine is_load ?_); (refine own_ldV (hl := ld_one one_rgsS (hO.roCell List.mem_cons_self u1)) (h := ?_))) | ((refine wpList_step (fun K hK => ?_)); go_simp; ((refine hK _ _ ?_); clear hK K))); (try simp only [Act.put]); (try simp only [List.setIfInBounds_toArray, List.set_cons_zero, List.set_cons_succ])
              refine wpList_done (qk_intro ?_)
            refine wpAny_all (rs := [7, 11]) (by kernel_rfl) (by simp) (ord_cons ?_ (ord_cons ?_ ord_nil))
            rotate_left 2
            refine wpAny_all (rs := [5]) (by kernel_rfl) (by simp) (ord_cons ?_ ord_nil)
            rotate_left 1
            all_goals
              refine wpOp_of_listL rfl ?_
              (first | ((with_reducible refine is_load ?_); (refine own_ldV (hl := ld_one one_rgsS (hO.roCell List.mem_cons_self u1)) (h := ?_))) | ((refine wpList_step (fun K hK => ?_)); go_simp; (first | ((refine hK _ _ ?_); clear hK K) | ((go_at_call 12; (with_reducible refine (hA1 _ hO.keep).mono ?_); rintro e wv ⟨rfl, hb9⟩; replace hO := hO.call hb9; clear hb9); (try simp only []); (refine hK _ _ ?_); clear hK K)))); (try simp only [Act.put]); (try simp only [List.setIfInBounds_toArray, List.set_cons_zero, List.set_cons_succ])
              refine wpList_done (qk_intro ?_)
            refine wpAny_all (rs := [11]) (by kernel_rfl) (by simp) (ord_cons ?_ ord_nil)
            rotate_left 1
            refine wpAny_all (rs := [7]) (by kernel_rfl) (by simp) (ord_cons ?_ ord_nil)
            rotate_left 1
            refine wpAny_all (rs := [7]) (by kernel_rfl) (by simp) (ord_cons ?_ ord_nil)
            rotate_left 1
            all_goals
              refine wpOp_of_listL rfl ?_
              (first | ((with_reducible refine is_load ?_); (refine own_ldV (hl := ld_one one_rgsS (hO.roCell List.mem_cons_self u1)) (h := ?_))) | ((refine wpList_step (fun K hK => ?_)); go_simp; (first | ((refine hK _ _ ?_); clear hK K) | ((go_at_call 12; (with_reducible refine (hA1 _ hO.keep).mono ?_); rintro e wv ⟨rfl, hb9⟩; replace hO := hO.call hb9; clear hb9); (try simp only []); (refine hK _ _ ?_); clear hK K)))); (try simp only [Act.put]); (try simp only [List.setIfInBounds_toArray, List.set_cons_zero, List.set_cons_succ])
              refine wpList_done (qk_intro ?_)
            refine wpAny_all (rs := [14]) (by kernel_rfl) (by simp) (ord_cons ?_ ord_nil)
            rotate_left 1
            refine wpAny_all (rs := [14]) (by kernel_rfl) (by simp) (ord_cons ?_ ord_nil)
            rotate_left 1
            refine wpAny_all (rs := [14]) (by kernel_rfl) (by simp) (ord_cons ?_ ord_nil)
            rotate_left 1
            all_goals
              refine wpOp_of_listL rfl ?_
              ((refine wpList_step (fun K hK => ?_)); go_simp; (first | ((refine hK _ _ ?_); clear hK K) | ((go_at_call 12; (with_reducible refine (hA2 _ hO.keep).mono ?_); rintro e wv ⟨rfl, hb9⟩; replace hO := hO.call hb9; clear hb9); (try simp only []); (refine hK _ _ ?_); clear hK K)))
              refine wpList_done (qk_intro ?_)
            have ix9 := Ix.mk [15, 16]
            iterate 2 (refine wpAny_tk ix9 ?_; replace ix9 := ix9.tail; (first | go_big_quiet_skip | (go_big_quiet_want; (go_big_quiet_op; (first | go_big_quiet_on | ((refine ⟨_, fun _ _ => rfl, ?_⟩); go_big_quiet_on))))); (refine wpQuiet_nil ?_); (try simp only [Act.put]); (try simp only [List.setIfInBounds_toArray, List.set_cons_zero, List.set_cons_succ]))
            clear ix9
            refine wpAny_all (rs := [17]) (by kernel_rfl) (by simp) (ord_cons ?_ ord_nil)
            rotate_left 1
            have ix9 := Ix.mk [15, 16]
            iterate 2 (refine wpAny_tk ix9 ?_; replace ix9 := ix9.tail; (first | go_big_quiet_skip | (go_big_quiet_want; (go_big_quiet_op; (first | go_big_quiet_on | ((refine ⟨_, fun _ _ => rfl, ?_⟩); go_big_quiet_on))))); (refine wpQuiet_nil ?_); (try simp only [Act.put]); (try simp only [List.setIfInBounds_toArray, List.set_cons_zero, List.set_cons_succ]))
            clear ix9
            refine wpAny_all (rs := [17]) (by kernel_rfl) (by simp) (ord_cons ?_ ord_nil)
            rotate_left 1
            have ix9 := Ix.mk [15, 16]
            iterate 2 (refine wpAny_tk ix9 ?_; replace ix9 := ix9.tail; (first | go_big_quiet_skip | (go_big_quiet_want; (go_big_quiet_op; (first | go_big_quiet_on | ((refine ⟨_, fun _ _ => rfl, ?_⟩); go_big_quiet_on))))); (refine wpQuiet_nil ?_); (try simp only [Act.put]); (try simp only [List.setIfInBounds_toArray, List.set_cons_zero, List.set_cons_succ]))
            clear ix9
            refine wpAny_all (rs := [17]) (by kernel_rfl) (by simp) (ord_cons ?_ ord_nil)
            rotate_left 1
            all_goals
              refine wpOp_of_listL rfl ?_
              ((refine wpList_step (fun K hK => ?_)); go_simp; ((refine hK _ _ ?_); clear hK K))
              refine wpList_done (qk_intro ?_)
            refine wpAny_done (by kernel_rfl) ?_ _
            rotate_left
            refine wpAny_done (by kernel_rfl) ?_ _
            rotate_left
            refine wpAny_done (by kernel_rfl) ?_ _
            rotate_left
            all_goals
              go_wp2_with fail
              go_roundw
              case rel => exact ⟨i + 1, by omega, by go_num, by rw [HT.out]; rfl, hO⟩
              case measure => simp [intOf]; omega
        · have g2 : decide ((i : Int) < (Ks.length : Int)) = false := decide_eq_false (by omega)
          have e9 : ((Ks.take i).any fun K => turnB K M) = (Ks.any fun K => turnB K M) := by rw [show i = Ks.length by omega, List.take_length]
          rw [e9]
          clear e9
          obtain ⟨B, hB⟩ : ∃ B, (Ks.any fun K => turnB K M) = B := ⟨_, rfl⟩
          rw [hB] at HS
          rw [hB]
          clear hB
          cases B
          · have HQ : Hid (m = segR Ks (k + 1)) := Lib.hid (by rw [HS.out]; simp)
            clear HS
            go_wp2_with fail
            go_roundw
            case rel => exact ⟨k + 1, m, by have := HK.out; omega, congrArg (Value.int .i64) (by have := HK.out; omega), by omega, HQ, hO⟩
            case measure => simp [intOf]; omega
          · have HQ : Hid (m ++ [M] = segR Ks (k + 1)) := Lib.hid (by rw [HS.out]; simp)
            have HC : Hid (ints m ++ [Value.int .i64 M] = ints (m ++ [M])) := Lib.hid (by simp [ints])
            clear HS
            go_wp2_with (first | ((with_reducible refine is_build ?_); (refine' own_buildP (o := ⟨some 38, _, _, _, _, _⟩) [.int .i64 M] hO (by rfl) rfl slice_intsS rfl rfl (by rfl) (by decide) (by decide) ?_); clear hO; intro n38 wv hO) | ((with_reducible refine is_append ?_); (refine own_append (o := ⟨some 39, _, _, _, _, _⟩) hO rfl rfl slice_intsS rfl rfl List.mem_cons_self rfl (by omega) rfl (fun _ _ => by repeat (exact UpdR.here)) (by (omega)) (by unfold maxLen; (omega)) ?_); clear hO; intro g39 c39 wv hO))
            rw [HC.out] at hO
            go_roundw
            case rel => exact ⟨k + 1, m ++ [M], by have := HK.out; omega, congrArg (Value.int .i64) (by have := HK.out; omega), by simp; omega, HQ, by rw [List.length_append]; exact hO.sub (X' := []) (List.nil_sublist _) (.refl _) (fun _ h => h)⟩
            case measure => simp [intOf]; omega
    · have g1 : decide (M < 10080) = false := decide_eq_false hlt
      have HQ : Hid (m = segR Ks 10079) := Lib.hid (by rw [HM.out, show k = 10079 by have := HK.out; omega])
      clear HM HK HS s4 s5
      obtain ⟨a7, c7, rfl, -⟩ := own_view hO List.mem_cons_self
      go_wp2_with fail
      go_ret
      have HE := HQ.out
      subst HE
      exact ⟨_, rfl, ⟨hO.rowIs List.mem_cons_self, own_new hO List.mem_cons_self⟩, hO.keep.below⟩
end Go.Proofs.YtfhkmkbfgmbbaaaGreatDoor

/- Tape.Ranges. -/
namespace Go.Proofs.YtfhkmkbfgmbbaaaGreatDoor
open Go.RowKit
set_option maxRecDepth 100000
theorem tape_new {w0 w : World} {n : Nat} {cs : List Value} {t : TypeId} {X : List Chunk} {R : List Row} {S : List Ro} (hO : Own [n] w0 X R S w) (hm : (⟨n, cs, t⟩ : Chunk) ∈ X) {r : Row} (hr : r ∈ R) : NewFrom w0 r.v := fun g hg => by
  have h1 : g ∈ R.filterMap (·.v.ownBlock) := List.mem_filterMap.2 ⟨_, hr, hg⟩
  have h2 : n ∈ X.map (·.n) := List.mem_map.2 ⟨_, hm, rfl⟩
  rcases hO.free g (List.mem_append.2 (.inr h1)) with h | h
  · obtain rfl := List.mem_singleton.1 h
    exact absurd rfl ((List.nodup_append.1 hO.nd).2.2 g h2 g h1)
  · exact h
set_option maxHeartbeats 16000000 in
theorem ranges_any {w : World} {n : Nat} {sl : Value} {zs : List Int} {i : Nat} (hZ : ZsOk sl zs) (hT : TapeIn w n sl zs i) :
    Calls Tryz.prog 6 #[.pointer (some ⟨n, 0, none⟩), .int .i64 4, .int .u32 20160, .bool true] w (TPost w n sl zs fun v w' => ∃ K : List Rg, K.length ≤ 4 ∧ (∀ r ∈ K, 0 ≤ r.lo ∧ r.lo ≤ 20160 ∧ 0 ≤ r.hi ∧ r.hi ≤ 20160) ∧ IsCells w' v K.length (rcs K) ∧ NewFrom w v) := by
  have hO := own_tape hT
  obtain ⟨sa, sc, rfl, -⟩ := hZ.view
  go_enter Tryz.func6, Tryz.ntmps6
  go_wp2_with (go_at_call 17; (with_reducible refine (next_pos 5 hZ (hO.tapeIn List.mem_cons_self (fun _ h => h) hT.le) (by omega) (by omega)).mono ?_); rintro e wv ⟨v, i1, rfl, hv, hk9, hT1⟩; replace hO := hO.after (by (repeat (exact Upd.here))) hk9 hT1.blk; replace hT := hT1; clear hT1 hk9; obtain ⟨r, rfl, hr1, hs1⟩ := hv; obtain ⟨J, rfl⟩ : ∃ J : Nat, r = (J : Int) := ⟨r.toNat, by omega⟩)
  replace hO := hO.nilRow 46 2
  go_loopw [9, 10] (fun r q wr => ∃ (K : List Rg) (i1 j : Nat), q = .int .i64 j ∧ K.length + j ≤ 4 ∧ (∀ r ∈ K, 0 ≤ r.lo ∧ r.lo ≤ 20160 ∧ 0 ≤ r.hi ∧ r.hi ≤ 20160) ∧ TapeIn wr n (.slice sa zs.length sc) zs i1 ∧ Own [n] w [⟨n, tcs (.slice sa zs.length sc) i1, 40⟩] [⟨r, K.length, rcs K, 46, 2⟩] (roS (.slice sa zs.length sc) (ints zs)) wr) (fun _ q _ => (intOf q).toNat)
  case atStart => exact ⟨[], i1, J, rfl, by simp; omega, by simp, hT, hO⟩
  case round =>
    clear hO hT hr1 hs1
    obtain ⟨K, i1, j, rfl, hKj, hKb, hT, hO⟩ := hrel
    obtain ⟨a7, c7, rfl, ha7⟩ := own_view hO List.mem_cons_self
    by_cases hj : 0 < j
    · obtain ⟨j, rfl⟩ : ∃ k, j = k + 1 := ⟨j - 1, by omega⟩
      have g1 : decide (((j + 1 : Nat) : Int) > 0) = true := decide_eq_true (by omega)
      have s1 : IntKind.i64.wrap (((j + 1 : Nat) : Int) - 1) = (j : Int) := by rw [IntWalk.i64_in _ (by omega)]; omega
      go_upto_region 6 with (first | ((with_reducible refine is_store ?_); (refine own_stRV (hO := hO) (h := ?_); clear hO; intro wv hO)) | ((with_reducible refine is_alloc ?_); (refine own_alV (o := ⟨some 11, _, _, _, _, _⟩) (hO := hO) (h := ?_); clear hO; intro n11 wv hO)) | (go_at_call 19; (with_reducible refine (range_any 20160 hZ (hO.tapeIn List.mem_cons_self (fun _ h => h) hT.le) (by omega) (by omega)).mono ?_); rintro e wv ⟨v, i2, rfl, ⟨x, y, rfl, x0, xy, y1⟩, hk9, hT1⟩; replace hO := hO.after (by (repeat (exact Upd.here))) hk9 hT1.blk; replace hT := hT1; clear hT1 hk9))
      have hN : ∀ p q : Int, (p = x ∧ q = y) ∨ (p = y ∧ q = x) → ∀ r ∈ K ++ [⟨p, q⟩], 0 ≤ r.lo ∧ r.lo ≤ 20160 ∧ 0 ≤ r.hi ∧ r.hi ≤ 20160 := fun p q h r hr => by
        rcases List.mem_append.1 hr with hr | hr
        · exact hKb r hr
        · obtain rfl := List.mem_singleton.1 hr
          dsimp only
          omega
      have HC : ∀ p q : Int, Hid (rcs K ++ [.int .u32 p, .int .u32 q] = rcs (K ++ [⟨p, q⟩])) := fun p q => Lib.hid (by rw [rcs_append]; rfl)
      go_wp2_with (first | ((with_reducible refine is_load ?_); (refine own_ldV (h := ?_))) | ((with_reducible refine is_store ?_); (refine own_st1V (hO := hO) (h := ?_); clear hO; intro wv hO)) | ((with_reducible refine is_build ?_); (refine' own_build1 (o := ⟨some 37, _, _, _, _, _⟩) hO (by rfl) rfl rfl ?hu ?hf ?_; (case hu => (with_reducible (exact und_Ranges))); (case hf => kernel_rfl); clear hO; intro n37 wv hO)) | ((with_reducible refine is_append ?_); (refine own_apV (o := ⟨some 38, _, _, _, _, _⟩) (hO := hO) (h := ?_); clear hO; intro g38 c38 wv hO)) | (go_at_call 17; (with_reducible refine (next_pos 8 hZ (hO.tapeIn (by (repeat (first | exact List.mem_cons_self | refine List.mem_cons_of_mem _ ?_))) (fun _ h => h) hT.le) (by omega) (by omega)).mono ?_); rintro e wv ⟨v, i3, rfl, hv, hk9, hT1⟩; replace hO := hO.after (by (repeat (first | exact Upd.here | apply Upd.there))) hk9 hT1.blk; replace hT := hT1; clear hT1 hk9; obtain ⟨r, rfl, hr1, hs1⟩ := hv))
      all_goals
        go_roundw
        case rel =>
          first
          | exact ⟨K ++ [⟨x, y⟩], i3, j, by go_num, by simp; omega, hN x y (.inl ⟨rfl, rfl⟩), (hO.tapeIn (by (repeat (first | exact List.mem_cons_self | refine List.mem_cons_of_mem _ ?_))) (fun _ h => h) hT.le), by rw [List.length_append, ← (HC x y).out]; exact hO.sub (X' := [⟨n, tcs (.slice sa zs.length sc) i3, 40⟩]) (by repeat (first | exact List.Sublist.refl _ | apply List.Sublist.cons)) (.refl _) (fun _ h => h)⟩
          | exact ⟨K ++ [⟨y, x⟩], i3, j, by go_num, by simp; omega, hN y x (.inr ⟨rfl, rfl⟩), (hO.tapeIn (by (repeat (first | exact List.mem_cons_self | refine List.mem_cons_of_mem _ ?_))) (fun _ h => h) hT.le), by rw [List.length_append, ← (HC y x).out]; exact hO.sub (X' := [⟨n, tcs (.slice sa zs.length sc) i3, 40⟩]) (by repeat (first | exact List.Sublist.refl _ | apply List.Sublist.cons)) (.refl _) (fun _ h => h)⟩
        case measure => simp [intOf]
    · obtain rfl : j = 0 := by omega
      have g1 : decide (((0 : Nat) : Int) > 0) = false := rfl
      go_wp2_with fail
      go_ret
      exact ⟨_, i1, rfl, ⟨K, by omega, hKb, hO.rowIs List.mem_cons_self, tape_new hO List.mem_cons_self List.mem_cons_self⟩, hO.keep, (hO.tapeIn List.mem_cons_self (fun _ h => h) hT.le)⟩
end Go.Proofs.YtfhkmkbfgmbbaaaGreatDoor
