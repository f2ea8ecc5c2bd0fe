/- Contracts of the reference of layer 3 (boxes): the same values as the program's. -/
import Derived.Test.YtnhjcbmlplfpmaaDoorLawFld
namespace Go.Proofs.YtnhjcbmlplfpmaaDoor
open Go.RowKit
set_option maxRecDepth 100000

theorem rtop_any (k : Nat) (w : World) (hk : k < 5) : Calls Tryd.prog 39 #[.int .i64 k] w fun e w' => e = .returned (.int .u32 (topOf k)) ∧ w = w' := by
  rcases five hk with rfl | rfl | rfl | rfl | rfl
  all_goals
    go_enter Tryd.func39, Tryd.ntmps39
    go_wp2
    go_ret
    exact ⟨rfl, rfl⟩
theorem rtop_all (f : Int) (w : World) : Calls Tryd.prog 39 #[.int .i64 f] w fun e w' => e = .returned (.int .u32 (topI f)) ∧ w = w' := by
  by_cases h : 0 ≤ f ∧ f < 5
  · obtain ⟨k, rfl, hk⟩ := nat_of h.1 h.2
    rw [topI_nat hk]; exact rtop_any k w hk
  · have h0 : (f == 0) = false := by simp; omega
    have h1 : (f == 1) = false := by simp; omega
    have h2 : (f == 2) = false := by simp; omega
    have h3 : (f == 3) = false := by simp; omega
    have h4 : (f == 4) = false := by simp; omega
    have E := Lib.hid (show topI f = 0 by unfold topI; rw [if_neg h])
    clear h
    go_enter Tryd.func39, Tryd.ntmps39
    go_wp2
    go_ret
    exact ⟨ret_int E.out.symm, rfl⟩
theorem rpoint_any (h : Hd) (w : World) (ho : h.ok) :
    Calls Tryd.prog 57 #[hv h] w fun e w' => e = .returned (pv h.at) ∧ Below w.heap.size w w' := by
  obtain ⟨⟨a0, a1⟩, ⟨b0, b1⟩, ⟨c0, c1⟩, ⟨d0, d1⟩, e0, e1⟩ := ho
  have hO := own_start [] w
  go_enter Tryd.func57, Tryd.ntmps57
  go_wp2_with (first | ((with_reducible refine is_load ?_); (first | (refine own_ld (h := ?_)))) | ((with_reducible refine is_store ?_); (first | (refine own_stR (hO := hO) (h := ?_); clear hO; intro wv hO) | (refine own_st1 (hO := hO) (h := ?_); clear hO; intro wv hO))) | ((with_reducible refine is_box ?_); (first | (refine own_bx (o := ⟨some 1, _, _, _, _, _⟩) (hO := hO) (h := ?_); clear hO; intro n1 wv hO))) | ((with_reducible refine is_alloc ?_); (first | (refine own_al (o := ⟨some 2, _, _, _, _, _⟩) (hO := hO) (h := ?_); clear hO; intro n2 wv hO))))
  exact bodyPost_ret (own_res_cell hO Tryd.results57 rfl (by (repeat (first | exact List.mem_cons_self | refine List.mem_cons_of_mem _ ?_))) (by (exact row_len (by (with_reducible (first | exact row_Box | exact row_Range | exact row_Header | exact row_Five | exact row_Tape | exact row_Prefix | exact row_Truths | exact row_Packet))) (by rfl))) rfl) rfl ⟨rfl, hO.keep.below⟩
theorem rheader_any (p : Nat → Int) (w : World) (ho : (Hd.of p).ok) :
    Calls Tryd.prog 46 #[pv p] w fun e w' => e = .returned (hv (Hd.of p)) ∧ Below w.heap.size w w' := by
  obtain ⟨⟨a0, a1⟩, ⟨b0, b1⟩, ⟨c0, c1⟩, ⟨d0, d1⟩, e0, e1⟩ := ho
  simp only [Hd.of] at a0 a1 b0 b1 c0 c1 d0 d1 e0 e1
  have hO := own_start [] w
  go_enter Tryd.func46, Tryd.ntmps46
  go_wp2_with (first | ((with_reducible refine is_load ?_); (first | (refine own_ld (h := ?_)))) | ((with_reducible refine is_store ?_); (first | (refine own_stR (hO := hO) (h := ?_); clear hO; intro wv hO) | (refine own_st1 (hO := hO) (h := ?_); clear hO; intro wv hO))) | ((with_reducible refine is_box ?_); (first | (refine own_bx (o := ⟨some 1, _, _, _, _, _⟩) (hO := hO) (h := ?_); clear hO; intro n1 wv hO))) | ((with_reducible refine is_alloc ?_); (first | (refine own_al (o := ⟨some 2, _, _, _, _, _⟩) (hO := hO) (h := ?_); clear hO; intro n2 wv hO))))
  exact bodyPost_ret (own_res_cell hO Tryd.results46 rfl (by (repeat (first | exact List.mem_cons_self | refine List.mem_cons_of_mem _ ?_))) (by (exact row_len (by (with_reducible (first | exact row_Box | exact row_Range | exact row_Header | exact row_Five | exact row_Tape | exact row_Prefix | exact row_Truths | exact row_Packet))) (by rfl))) rfl) rfl ⟨rfl, hO.keep.below⟩
theorem rfull_any (w : World) :
    Calls Tryd.prog 36 #[] w fun e w' => e = .returned (bv fullBx) ∧ Below w.heap.size w w' := by
  have hO := own_start [] w
  go_enter Tryd.func36, Tryd.ntmps36
  go_wp2_with (first | ((with_reducible refine is_load ?_); (first | (refine own_ld (h := ?_)))) | ((with_reducible refine is_store ?_); (first | (refine own_stR (hO := hO) (h := ?_); clear hO; intro wv hO) | (refine own_st1 (hO := hO) (h := ?_); clear hO; intro wv hO))) | ((with_reducible refine is_alloc ?_); (first | (refine own_al (o := ⟨some 0, _, _, _, _, _⟩) (hO := hO) (h := ?_); clear hO; intro n0 wv hO) | (refine own_al (o := ⟨some 1, _, _, _, _, _⟩) (hO := hO) (h := ?_); clear hO; intro n1 wv hO))))
  go_loopw [2] (fun i wr => ∃ k : Nat, k ≤ 5 ∧ i = .int .i64 k ∧ Own [] w [⟨n1, bcs (fullK k), 26⟩, ⟨n0, bcs zeroBx, 26⟩] [] [] wr) (fun i _ => 5 - (intOf i).toNat)
  case atStart => exact ⟨0, by omega, rfl, hO⟩
  case round =>
    clear hO
    obtain ⟨k, hk, rfl, hO⟩ := hrel
    by_cases hlt : k < 5
    · go_wp2_with (first | ((with_reducible refine is_load ?_); (first | (refine own_ld (h := ?_)))) | ((with_reducible refine is_store ?_); (first | (refine own_stR (hO := hO) (h := ?_); clear hO; intro wv hO) | (refine own_st1 (hO := hO) (h := ?_); clear hO; intro wv hO))) | (go_at_call 39; refine (rtop_any _ _ hlt).mono ?_; rintro e _ ⟨rfl, rfl⟩))
      go_roundw
      case rel => exact ⟨k + 1, by omega, by go_num, by rw [← fullK_succ k hlt]; exact hO⟩
      case measure => simp [intOf]; omega
    · obtain rfl : k = 5 := by omega
      rw [fullK_five] at hO
      go_wp2_with (first | ((with_reducible refine is_load ?_); (first | (refine own_ld (h := ?_)))) | ((with_reducible refine is_store ?_); (first | (refine own_stR (hO := hO) (h := ?_); clear hO; intro wv hO) | (refine own_st1 (hO := hO) (h := ?_); clear hO; intro wv hO))))
      exact bodyPost_ret (own_res_cell hO Tryd.results36 rfl (by (repeat (first | exact List.mem_cons_self | refine List.mem_cons_of_mem _ ?_))) (by (exact row_len (by (with_reducible (first | exact row_Box | exact row_Range | exact row_Header | exact row_Five | exact row_Tape | exact row_Prefix | exact row_Truths | exact row_Packet))) (by rfl))) rfl) rfl ⟨rfl, hO.keep.below⟩
theorem rof_any (h : Hd) (w : World) (ho : h.ok) :
    Calls Tryd.prog 40 #[hv h] w fun e w' => e = .returned (bv (ofHd h)) ∧ Below w.heap.size w w' := by
  have hO := own_start [] w
  go_enter Tryd.func40, Tryd.ntmps40
  go_wp2_with (first | ((with_reducible refine is_load ?_); (first | (refine own_ld (h := ?_)))) | ((with_reducible refine is_store ?_); (first | (refine own_stR (hO := hO) (h := ?_); clear hO; intro wv hO) | (refine own_st1 (hO := hO) (h := ?_); clear hO; intro wv hO))) | ((with_reducible refine is_box ?_); (first | (refine own_bx (o := ⟨some 1, _, _, _, _, _⟩) (hO := hO) (h := ?_); clear hO; intro n1 wv hO))) | ((with_reducible refine is_alloc ?_); (first | (refine own_al (o := ⟨some 2, _, _, _, _, _⟩) (hO := hO) (h := ?_); clear hO; intro n2 wv hO) | (refine own_al (o := ⟨some 3, _, _, _, _, _⟩) (hO := hO) (h := ?_); clear hO; intro n3 wv hO) | (refine own_al (o := ⟨some 4, _, _, _, _, _⟩) (hO := hO) (h := ?_); clear hO; intro n4 wv hO))) | (go_at_call 57; refine (rpoint_any h _ ho).mono ?_; rintro e wv ⟨rfl, hb⟩; replace hO := hO.call hb; clear hb))
  go_loopw [5] (fun i wr => ∃ k : Nat, k ≤ 5 ∧ i = .int .i64 k ∧ Own [] w [⟨n4, fcs h.at, 62⟩, ⟨n3, bcs (ofK h k), 26⟩, ⟨n2, bcs zeroBx, 26⟩] [] [] wr) (fun i _ => 5 - (intOf i).toNat)
  case atStart => exact ⟨0, by omega, rfl, hO.sub (.cons_cons _ (.cons_cons _ (.cons_cons _ (.cons _ .slnil)))) (.refl _) (fun _ h => h)⟩
  case round =>
    clear hO
    obtain ⟨k, hk, rfl, hO⟩ := hrel
    by_cases hlt : k < 5
    · go_wp2_with (first | ((with_reducible refine is_load ?_); (first | (refine own_ld (h := ?_)))) | ((with_reducible refine is_store ?_); (first | (refine own_stR (hO := hO) (h := ?_); clear hO; intro wv hO) | (refine own_st1 (hO := hO) (h := ?_); clear hO; intro wv hO))))
      (try simp only [Act.put]); (refine own_tail 9 hO (by kernel_rfl) (by kernel_rfl) (by repeat (first | exact Split.zero _ | apply Split.succ)) ?_; clear hO; intro wv hO; (repeat ((refine wpStill_step (fun K hK => ?_)); (first | ((rw [if_pos (by rfl)]); (with_reducible refine is_loadS ?_); (first | (refine s_ld (h := ?_))); (try simp only [Act.put]); (try simp only [List.setIfInBounds_toArray, List.set_cons_zero, List.set_cons_succ]); (refine hK _ ?_); clear hK K) | (go_simp; (refine hK _ ?_); clear hK K)))); (refine wpStill_nil ?_))
      go_wp2_with (first | ((with_reducible refine is_load ?_); (first | (refine own_ld (h := ?_)))) | ((with_reducible refine is_store ?_); (first | (refine own_stR (hO := hO) (h := ?_); clear hO; intro wv hO) | (refine own_st1 (hO := hO) (h := ?_); clear hO; intro wv hO))))
      go_roundw
      case rel => exact ⟨k + 1, by omega, by go_num, by rw [← ofK_succ h k]; exact hO⟩
      case measure => simp [intOf]; omega
    · obtain rfl : k = 5 := by omega
      rw [ofK_five] at hO
      go_wp2_with (first | ((with_reducible refine is_load ?_); (first | (refine own_ld (h := ?_)))) | ((with_reducible refine is_store ?_); (first | (refine own_stR (hO := hO) (h := ?_); clear hO; intro wv hO) | (refine own_st1 (hO := hO) (h := ?_); clear hO; intro wv hO))))
      exact bodyPost_ret (own_res_cell hO Tryd.results40 rfl (by (repeat (first | exact List.mem_cons_self | refine List.mem_cons_of_mem _ ?_))) (by (exact row_len (by (with_reducible (first | exact row_Box | exact row_Range | exact row_Header | exact row_Five | exact row_Tape | exact row_Prefix | exact row_Truths | exact row_Packet))) (by rfl))) rfl) rfl ⟨rfl, hO.keep.below⟩
theorem rvalue_any (h : Hd) (f : Nat) (w : World) (ho : h.ok) (h5 : f < 5) :
    Calls Tryd.prog 41 #[hv h, .int .i64 f] w fun e w' => e = .returned (.int .u32 (h.at f)) ∧ Below w.heap.size w w' := by
  have hO := own_start [] w
  have hix := fun w => ix5_at w h.at h5
  go_enter Tryd.func41, Tryd.ntmps41
  go_wp2_with (first | ((with_reducible refine is_load ?_); (first | (refine own_ld (h := ?_)))) | ((with_reducible refine is_store ?_); (first | (refine own_stR (hO := hO) (h := ?_); clear hO; intro wv hO) | (refine own_st1 (hO := hO) (h := ?_); clear hO; intro wv hO))) | ((with_reducible refine is_box ?_); (first | (refine own_bx (o := ⟨some 2, _, _, _, _, _⟩) (hO := hO) (h := ?_); clear hO; intro n2 wv hO))) | (go_at_call 57; refine (rpoint_any h _ ho).mono ?_; rintro e wv ⟨rfl, hb⟩; replace hO := hO.call hb; clear hb))
  go_ret
  exact ⟨rfl, hO.keep.below⟩
theorem rvalue_out (h : Hd) (f : Int) (w : World) (hf : f < 0 ∨ 5 ≤ f) :
    Calls Tryd.prog 41 #[hv h, .int .i64 f] w fun e w' => e = .returned (.int .u32 0) ∧ Below w.heap.size w w' := by
  have hO := own_start [] w
  rcases hf with hf | hf
  · go_enter Tryd.func41, Tryd.ntmps41
    go_wp2_with (first | ((with_reducible refine is_load ?_); (first | (refine own_ld (h := ?_)))) | ((with_reducible refine is_store ?_); (first | (refine own_stR (hO := hO) (h := ?_); clear hO; intro wv hO) | (refine own_st1 (hO := hO) (h := ?_); clear hO; intro wv hO))) | ((with_reducible refine is_box ?_); (first | (refine own_bx (o := ⟨some 2, _, _, _, _, _⟩) (hO := hO) (h := ?_); clear hO; intro n2 wv hO))))
    go_ret
    exact ⟨rfl, hO.keep.below⟩
  · have h' : ¬ f < 0 := by omega
    go_enter Tryd.func41, Tryd.ntmps41
    go_wp2_with (first | ((with_reducible refine is_load ?_); (first | (refine own_ld (h := ?_)))) | ((with_reducible refine is_store ?_); (first | (refine own_stR (hO := hO) (h := ?_); clear hO; intro wv hO) | (refine own_st1 (hO := hO) (h := ?_); clear hO; intro wv hO))) | ((with_reducible refine is_box ?_); (first | (refine own_bx (o := ⟨some 2, _, _, _, _, _⟩) (hO := hO) (h := ?_); clear hO; intro n2 wv hO))))
    go_ret
    exact ⟨rfl, hO.keep.below⟩
theorem rvalue_all (h : Hd) (f : Int) (w : World) (ho : h.ok) : Calls Tryd.prog 41 #[hv h, .int .i64 f] w fun e w' => e = .returned (.int .u32 (valI h f)) ∧ Below w.heap.size w w' := by
  by_cases h1 : 0 ≤ f ∧ f < 5
  · obtain ⟨k, rfl, hk⟩ := nat_of h1.1 h1.2
    rw [valI_nat h hk]; exact rvalue_any h k w ho hk
  · rw [show valI h f = 0 by unfold valI; rw [if_neg h1]]; exact rvalue_out h f w (by omega)
theorem rvalid_any (b : Bx) (w : World) :
    Calls Tryd.prog 43 #[bv b] w fun e w' => e = .returned (.bool (vld b)) ∧ Below w.heap.size w w' := by
  have hO := own_start [] w
  go_enter Tryd.func43, Tryd.ntmps43
  go_wp2_with (first | ((with_reducible refine is_load ?_); (first | (refine own_ld (h := ?_)))) | ((with_reducible refine is_store ?_); (first | (refine own_stR (hO := hO) (h := ?_); clear hO; intro wv hO) | (refine own_st1 (hO := hO) (h := ?_); clear hO; intro wv hO))) | ((with_reducible refine is_box ?_); (first | (refine own_bx (o := ⟨some 1, _, _, _, _, _⟩) (hO := hO) (h := ?_); clear hO; intro n1 wv hO))))
  go_loopw [3] (fun i wr => ∃ k : Nat, k ≤ 5 ∧ i = .int .i64 k ∧ vldTo b k ∧ Own [] w [⟨n1, bcs b, 26⟩] [] [] wr) (fun i _ => 5 - (intOf i).toNat)
  case atStart => exact ⟨0, by omega, rfl, fun i hi => by omega, hO⟩
  case round =>
    clear hO
    obtain ⟨k, hk, rfl, hv, hO⟩ := hrel
    have HV := Lib.hid hv
    clear hv
    by_cases hlt : k < 5
    · by_cases h1 : (b.at k).lo ≤ (b.at k).hi
      · have h1' : decide ((b.at k).hi < (b.at k).lo) = false := by simp; omega
        by_cases h2 : (b.at k).hi ≤ topOf k
        · have h2' : decide (topOf k < (b.at k).hi) = false := by simp; omega
          go_wp2_with (first | ((with_reducible refine is_load ?_); (first | (refine own_ld (h := ?_)))) | ((with_reducible refine is_store ?_); (first | (refine own_stR (hO := hO) (h := ?_); clear hO; intro wv hO) | (refine own_st1 (hO := hO) (h := ?_); clear hO; intro wv hO))))
          (try simp only [Act.put]); (refine own_quiet hO (by kernel_rfl) (by kernel_rfl) ?_; clear hO; (repeat (first | go_big_quiet_skip | (go_big_quiet_want; (first | ((with_reducible refine is_loadQ ?_); (first | (refine q_ld (h := ?_))); (try simp only [Act.put]); (try simp only [List.setIfInBounds_toArray, List.set_cons_zero, List.set_cons_succ]); go_big_quiet_on) | (go_big_quiet_op; (first | go_big_quiet_on | ((refine ⟨_, fun _ _ => rfl, ?_⟩); go_big_quiet_on) | go_big_quiet_call ((intro hq; go_at_call 39; exact q_same (rtop_any _ _ hlt) hq)))))))); (refine wpQuiet_nil ?_); intro wv hO)
          go_wp2_with (first | ((with_reducible refine is_load ?_); (first | (refine own_ld (h := ?_)))) | ((with_reducible refine is_store ?_); (first | (refine own_stR (hO := hO) (h := ?_); clear hO; intro wv hO) | (refine own_st1 (hO := hO) (h := ?_); clear hO; intro wv hO))))
          go_roundw
          case rel => exact ⟨k + 1, by omega, by go_num, vldTo_snoc HV.out h1 h2, hO⟩
          case measure => simp [intOf]; omega
        · have h2' : decide (topOf k < (b.at k).hi) = true := by simp; omega
          have HF := Lib.hid (vld_no hlt (fun h => h2 h.2))
          go_wp2_with (first | ((with_reducible refine is_load ?_); (first | (refine own_ld (h := ?_)))) | ((with_reducible refine is_store ?_); (first | (refine own_stR (hO := hO) (h := ?_); clear hO; intro wv hO) | (refine own_st1 (hO := hO) (h := ?_); clear hO; intro wv hO))))
          (try simp only [Act.put]); (refine own_quiet hO (by kernel_rfl) (by kernel_rfl) ?_; clear hO; (repeat (first | go_big_quiet_skip | (go_big_quiet_want; (first | ((with_reducible refine is_loadQ ?_); (first | (refine q_ld (h := ?_))); (try simp only [Act.put]); (try simp only [List.setIfInBounds_toArray, List.set_cons_zero, List.set_cons_succ]); go_big_quiet_on) | (go_big_quiet_op; (first | go_big_quiet_on | ((refine ⟨_, fun _ _ => rfl, ?_⟩); go_big_quiet_on) | go_big_quiet_call ((intro hq; go_at_call 39; exact q_same (rtop_any _ _ hlt) hq)))))))); (refine wpQuiet_nil ?_); intro wv hO)
          go_wp2_with (first | ((with_reducible refine is_load ?_); (first | (refine own_ld (h := ?_)))) | ((with_reducible refine is_store ?_); (first | (refine own_stR (hO := hO) (h := ?_); clear hO; intro wv hO) | (refine own_st1 (hO := hO) (h := ?_); clear hO; intro wv hO))))
          go_ret
          exact ⟨ret_bool HF.out.symm, hO.keep.below⟩
      · have h1' : decide ((b.at k).hi < (b.at k).lo) = true := by simp; omega
        have HF := Lib.hid (vld_no hlt (fun h => h1 h.1))
        go_wp2_with (first | ((with_reducible refine is_load ?_); (first | (refine own_ld (h := ?_)))) | ((with_reducible refine is_store ?_); (first | (refine own_stR (hO := hO) (h := ?_); clear hO; intro wv hO) | (refine own_st1 (hO := hO) (h := ?_); clear hO; intro wv hO))))
        (try simp only [Act.put]); (refine own_quiet hO (by kernel_rfl) (by kernel_rfl) ?_; clear hO; (repeat (first | go_big_quiet_skip | (go_big_quiet_want; (first | ((with_reducible refine is_loadQ ?_); (first | (refine q_ld (h := ?_))); (try simp only [Act.put]); (try simp only [List.setIfInBounds_toArray, List.set_cons_zero, List.set_cons_succ]); go_big_quiet_on) | (go_big_quiet_op; (first | go_big_quiet_on | ((refine ⟨_, fun _ _ => rfl, ?_⟩); go_big_quiet_on) | go_big_quiet_call ((intro hq; go_at_call 39; exact q_same (rtop_any _ _ hlt) hq)))))))); (refine wpQuiet_nil ?_); intro wv hO)
        go_wp2_with (first | ((with_reducible refine is_load ?_); (first | (refine own_ld (h := ?_)))) | ((with_reducible refine is_store ?_); (first | (refine own_stR (hO := hO) (h := ?_); clear hO; intro wv hO) | (refine own_st1 (hO := hO) (h := ?_); clear hO; intro wv hO))))
        go_ret
        exact ⟨ret_bool HF.out.symm, hO.keep.below⟩
    · go_wp2_with (first | ((with_reducible refine is_load ?_); (first | (refine own_ld (h := ?_)))) | ((with_reducible refine is_store ?_); (first | (refine own_stR (hO := hO) (h := ?_); clear hO; intro wv hO) | (refine own_st1 (hO := hO) (h := ?_); clear hO; intro wv hO))))
      go_ret
      exact ⟨ret_bool (vld_yes (fun i hi => HV.out i (by omega))).symm, hO.keep.below⟩
end Go.Proofs.YtnhjcbmlplfpmaaDoor
