/- Contracts of the reference of layer 3 (second part): With, Contains, Subset, Intersect, Subtract, Hull, Same, Compare. -/
import Derived.Test.YtnhjcbmlplfpmaaDoorRefBox
namespace Go.Proofs.YtnhjcbmlplfpmaaDoor
open Go.RowKit
set_option maxRecDepth 100000

theorem rwith_out (h : Hd) (f v : Int) (w : World) (hf : f < 0 ∨ 5 ≤ f) :
    Calls Tryd.prog 42 #[hv h, .int .i64 f, .int .u32 v] w fun e w' => e = .returned (hv h) ∧ Below w.heap.size w w' := by
  have hO := own_start [] w
  rcases hf with hf | hf
  · go_enter Tryd.func42, Tryd.ntmps42
    go_wp2_with (first | ((with_reducible refine is_load ?_); (first | (refine own_ld (h := ?_)))) | ((with_reducible refine is_store ?_); (first | (refine own_stR (hO := hO) (h := ?_); clear hO; intro wv hO) | (refine own_st1 (hO := hO) (h := ?_); clear hO; intro wv hO))) | ((with_reducible refine is_box ?_); (first | (refine own_bx (o := ⟨some 3, _, _, _, _, _⟩) (hO := hO) (h := ?_); clear hO; intro n3 wv hO))) | ((with_reducible refine is_alloc ?_); (first | (refine own_al (o := ⟨some 6, _, _, _, _, _⟩) (hO := hO) (h := ?_); clear hO; intro n6 wv hO))))
    exact bodyPost_ret (own_res_cell hO Tryd.results42 rfl (by (repeat (first | exact List.mem_cons_self | refine List.mem_cons_of_mem _ ?_))) (by (exact row_len (by (with_reducible (first | exact row_Box | exact row_Range | exact row_Header | exact row_Five | exact row_Tape | exact row_Prefix | exact row_Truths | exact row_Packet))) (by rfl))) rfl) rfl ⟨rfl, hO.keep.below⟩
  · have h' : ¬ f < 0 := by omega
    go_enter Tryd.func42, Tryd.ntmps42
    go_wp2_with (first | ((with_reducible refine is_load ?_); (first | (refine own_ld (h := ?_)))) | ((with_reducible refine is_store ?_); (first | (refine own_stR (hO := hO) (h := ?_); clear hO; intro wv hO) | (refine own_st1 (hO := hO) (h := ?_); clear hO; intro wv hO))) | ((with_reducible refine is_box ?_); (first | (refine own_bx (o := ⟨some 3, _, _, _, _, _⟩) (hO := hO) (h := ?_); clear hO; intro n3 wv hO))) | ((with_reducible refine is_alloc ?_); (first | (refine own_al (o := ⟨some 6, _, _, _, _, _⟩) (hO := hO) (h := ?_); clear hO; intro n6 wv hO))))
    exact bodyPost_ret (own_res_cell hO Tryd.results42 rfl (by (repeat (first | exact List.mem_cons_self | refine List.mem_cons_of_mem _ ?_))) (by (exact row_len (by (with_reducible (first | exact row_Box | exact row_Range | exact row_Header | exact row_Five | exact row_Tape | exact row_Prefix | exact row_Truths | exact row_Packet))) (by rfl))) rfl) rfl ⟨rfl, hO.keep.below⟩
theorem rwith_in (h : Hd) (f : Nat) (v : Int) (w : World) (hf : f < 5) (ho : h.ok) (h0 : 0 ≤ v) :
    Calls Tryd.prog 42 #[hv h, .int .i64 f, .int .u32 v] w fun e w' => e = .returned (hv (withHd h f v)) ∧ Below w.heap.size w w' := by
  have hO := own_start [] w
  have q0 : decide ((f : Int) < 0) = false := by simp
  have q5 : decide ((5 : Int) ≤ f) = false := by simp; omega
  by_cases h1 : v ≤ topOf f
  · have h1' : decide (topOf f < v) = false := by simp; omega
    have E := Lib.hid (show withHd h f v = h.set f v by unfold withHd; rw [if_pos ⟨by omega, by omega, by simpa using h1⟩]; simp)
    have hs := Hd.set_ok ho h0 h1 hf
    have hp : fcs (fupd h.at f v) = fcs (h.set f v).at := rfl
    go_enter Tryd.func42, Tryd.ntmps42
    go_wp2_with (first | ((with_reducible refine is_load ?_); (first | (refine own_ld (h := ?_)))) | ((with_reducible refine is_store ?_); (first | (refine own_stR (hO := hO) (h := ?_); clear hO; intro wv hO) | (refine own_st1 (hO := hO) (h := ?_); clear hO; intro wv hO))) | ((with_reducible refine is_box ?_); (first | (refine own_bx (o := ⟨some 3, _, _, _, _, _⟩) (hO := hO) (h := ?_); clear hO; intro n3 wv hO))) | ((with_reducible refine is_alloc ?_); (first | (refine own_al (o := ⟨some 6, _, _, _, _, _⟩) (hO := hO) (h := ?_); clear hO; intro n6 wv hO) | (refine own_al (o := ⟨some 7, _, _, _, _, _⟩) (hO := hO) (h := ?_); clear hO; intro n7 wv hO))) | (go_at_call 39; refine (rtop_any _ _ hf).mono ?_; rintro e _ ⟨rfl, rfl⟩) | (go_at_call 57; refine (rpoint_any h _ ho).mono ?_; rintro e wv ⟨rfl, hb⟩; replace hO := hO.call hb; clear hb) | (go_at_call 46; refine (rheader_any (fupd h.at f v) _ hs).mono ?_; rintro e wv ⟨rfl, hb⟩; replace hO := hO.call hb; clear hb))
    refine bodyPost_ret (own_res_cell hO Tryd.results42 rfl (by (repeat (first | exact List.mem_cons_self | refine List.mem_cons_of_mem _ ?_))) (by (exact row_len (by (with_reducible (first | exact row_Box | exact row_Range | exact row_Header | exact row_Five | exact row_Tape | exact row_Prefix | exact row_Truths | exact row_Packet))) (by rfl))) rfl) rfl ⟨?_, hO.keep.below⟩
    rw [E.out]
    rfl
  · have h1' : decide (topOf f < v) = true := by simp; omega
    have E := Lib.hid (show withHd h f v = h by unfold withHd; rw [if_neg]; rintro ⟨_, _, h2⟩; simp at h2; omega)
    go_enter Tryd.func42, Tryd.ntmps42
    go_wp2_with (first | ((with_reducible refine is_load ?_); (first | (refine own_ld (h := ?_)))) | ((with_reducible refine is_store ?_); (first | (refine own_stR (hO := hO) (h := ?_); clear hO; intro wv hO) | (refine own_st1 (hO := hO) (h := ?_); clear hO; intro wv hO))) | ((with_reducible refine is_box ?_); (first | (refine own_bx (o := ⟨some 3, _, _, _, _, _⟩) (hO := hO) (h := ?_); clear hO; intro n3 wv hO))) | ((with_reducible refine is_alloc ?_); (first | (refine own_al (o := ⟨some 6, _, _, _, _, _⟩) (hO := hO) (h := ?_); clear hO; intro n6 wv hO))) | (go_at_call 39; refine (rtop_any _ _ hf).mono ?_; rintro e _ ⟨rfl, rfl⟩))
    refine bodyPost_ret (own_res_cell hO Tryd.results42 rfl (by (repeat (first | exact List.mem_cons_self | refine List.mem_cons_of_mem _ ?_))) (by (exact row_len (by (with_reducible (first | exact row_Box | exact row_Range | exact row_Header | exact row_Five | exact row_Tape | exact row_Prefix | exact row_Truths | exact row_Packet))) (by rfl))) rfl) rfl ⟨?_, hO.keep.below⟩
    rw [E.out]
theorem rwith_all (h : Hd) (f v : Int) (w : World) (ho : h.ok) (h0 : 0 ≤ v) : Calls Tryd.prog 42 #[hv h, .int .i64 f, .int .u32 v] w fun e w' => e = .returned (hv (withHd h f v)) ∧ Below w.heap.size w w' := by
  by_cases p : 0 ≤ f ∧ f < 5
  · obtain ⟨k, rfl, hk⟩ := nat_of p.1 p.2
    exact rwith_in h k v w hk ho h0
  · rw [show withHd h f v = h by unfold withHd; rw [if_neg (by omega)]]; exact rwith_out h f v w (by omega)

set_option maxHeartbeats 1000000 in
theorem rcontains_any (b : Bx) (h : Hd) (w : World) (ho : h.ok) :
    Calls Tryd.prog 44 #[bv b, hv h] w fun e w' => e = .returned (.bool (hasB b h)) ∧ Below w.heap.size w w' := by
  have hO := own_start [] w
  go_enter Tryd.func44, Tryd.ntmps44
  go_wp2_with (first | ((with_reducible refine is_load ?_); (first | (refine own_ld (h := ?_)))) | ((with_reducible refine is_store ?_); (first | (refine own_stR (hO := hO) (h := ?_); clear hO; intro wv hO) | (refine own_st1 (hO := hO) (h := ?_); clear hO; intro wv hO))) | ((with_reducible refine is_box ?_); (first | (refine own_bx (o := ⟨some 2, _, _, _, _, _⟩) (hO := hO) (h := ?_); clear hO; intro n2 wv hO) | (refine own_bx (o := ⟨some 3, _, _, _, _, _⟩) (hO := hO) (h := ?_); clear hO; intro n3 wv hO))) | ((with_reducible refine is_alloc ?_); (first | (refine own_al (o := ⟨some 5, _, _, _, _, _⟩) (hO := hO) (h := ?_); clear hO; intro n5 wv hO))) | (go_at_call 57; refine (rpoint_any h _ ho).mono ?_; rintro e wv ⟨rfl, hb⟩; replace hO := hO.call hb; clear hb))
  go_loopw [6] (fun i wr => ∃ k : Nat, k ≤ 5 ∧ i = .int .i64 k ∧ inTo b h k ∧ Own [] w [⟨n5, fcs h.at, 62⟩, ⟨n3, hcs h, 29⟩, ⟨n2, bcs b, 26⟩] [] [] wr) (fun i _ => 5 - (intOf i).toNat)
  case atStart => exact ⟨0, by omega, rfl, fun i hi => by omega, hO⟩
  case round =>
    clear hO
    obtain ⟨k, hk, rfl, hin, hO⟩ := hrel
    have HI := Lib.hid hin
    clear hin
    by_cases hlt : k < 5
    · by_cases h1 : (b.at k).lo ≤ h.at k
      · have h1' : decide (h.at k < (b.at k).lo) = false := by simp; omega
        by_cases h2 : h.at k ≤ (b.at k).hi
        · have h2' : decide ((b.at k).hi < h.at k) = false := by simp; omega
          go_wp2_with (first | ((with_reducible refine is_load ?_); (first | (refine own_ld (h := ?_)))) | ((with_reducible refine is_store ?_); (first | (refine own_stR (hO := hO) (h := ?_); clear hO; intro wv hO) | (refine own_st1 (hO := hO) (h := ?_); clear hO; intro wv hO))))
          (try simp only [Act.put]); (refine own_quiet hO (by kernel_rfl) (by kernel_rfl) ?_; clear hO; (repeat (first | go_big_quiet_skip | (go_big_quiet_want; (first | ((with_reducible refine is_loadQ ?_); (first | (refine q_ld (h := ?_))); (try simp only [Act.put]); (try simp only [List.setIfInBounds_toArray, List.set_cons_zero, List.set_cons_succ]); go_big_quiet_on) | (go_big_quiet_op; (first | go_big_quiet_on | ((refine ⟨_, fun _ _ => rfl, ?_⟩); go_big_quiet_on) | go_big_quiet_call (fail))))))); (refine wpQuiet_nil ?_); intro wv hO)
          go_wp2_with (first | ((with_reducible refine is_load ?_); (first | (refine own_ld (h := ?_)))) | ((with_reducible refine is_store ?_); (first | (refine own_stR (hO := hO) (h := ?_); clear hO; intro wv hO) | (refine own_st1 (hO := hO) (h := ?_); clear hO; intro wv hO))))
          go_roundw
          case rel => exact ⟨k + 1, by omega, by go_num, inTo_snoc HI.out h1 h2, hO⟩
          case measure => simp [intOf]; omega
        · have h2' : decide ((b.at k).hi < h.at k) = true := by simp; omega
          have HF := Lib.hid (hasB_no (b := b) hlt (fun h => h2 h.2))
          go_wp2_with (first | ((with_reducible refine is_load ?_); (first | (refine own_ld (h := ?_)))) | ((with_reducible refine is_store ?_); (first | (refine own_stR (hO := hO) (h := ?_); clear hO; intro wv hO) | (refine own_st1 (hO := hO) (h := ?_); clear hO; intro wv hO))))
          (try simp only [Act.put]); (refine own_quiet hO (by kernel_rfl) (by kernel_rfl) ?_; clear hO; (repeat (first | go_big_quiet_skip | (go_big_quiet_want; (first | ((with_reducible refine is_loadQ ?_); (first | (refine q_ld (h := ?_))); (try simp only [Act.put]); (try simp only [List.setIfInBounds_toArray, List.set_cons_zero, List.set_cons_succ]); go_big_quiet_on) | (go_big_quiet_op; (first | go_big_quiet_on | ((refine ⟨_, fun _ _ => rfl, ?_⟩); go_big_quiet_on) | go_big_quiet_call (fail))))))); (refine wpQuiet_nil ?_); intro wv hO)
          go_wp2_with (first | ((with_reducible refine is_load ?_); (first | (refine own_ld (h := ?_)))) | ((with_reducible refine is_store ?_); (first | (refine own_stR (hO := hO) (h := ?_); clear hO; intro wv hO) | (refine own_st1 (hO := hO) (h := ?_); clear hO; intro wv hO))))
          go_ret
          exact ⟨ret_bool HF.out.symm, hO.keep.below⟩
      · have h1' : decide (h.at k < (b.at k).lo) = true := by simp; omega
        have HF := Lib.hid (hasB_no (b := b) hlt (fun h => h1 h.1))
        go_wp2_with (first | ((with_reducible refine is_load ?_); (first | (refine own_ld (h := ?_)))) | ((with_reducible refine is_store ?_); (first | (refine own_stR (hO := hO) (h := ?_); clear hO; intro wv hO) | (refine own_st1 (hO := hO) (h := ?_); clear hO; intro wv hO))))
        (try simp only [Act.put]); (refine own_quiet hO (by kernel_rfl) (by kernel_rfl) ?_; clear hO; (repeat (first | go_big_quiet_skip | (go_big_quiet_want; (first | ((with_reducible refine is_loadQ ?_); (first | (refine q_ld (h := ?_))); (try simp only [Act.put]); (try simp only [List.setIfInBounds_toArray, List.set_cons_zero, List.set_cons_succ]); go_big_quiet_on) | (go_big_quiet_op; (first | go_big_quiet_on | ((refine ⟨_, fun _ _ => rfl, ?_⟩); go_big_quiet_on) | go_big_quiet_call (fail))))))); (refine wpQuiet_nil ?_); intro wv hO)
        go_wp2_with (first | ((with_reducible refine is_load ?_); (first | (refine own_ld (h := ?_)))) | ((with_reducible refine is_store ?_); (first | (refine own_stR (hO := hO) (h := ?_); clear hO; intro wv hO) | (refine own_st1 (hO := hO) (h := ?_); clear hO; intro wv hO))))
        go_ret
        exact ⟨ret_bool HF.out.symm, hO.keep.below⟩
    · have E := Lib.hid (show vld b = hasB b h by unfold hasB; rw [decide_eq_true (p := inTo b h 5) (fun i hi => HI.out i (by omega)), Bool.and_true])
      go_wp2_with (first | ((with_reducible refine is_load ?_); (first | (refine own_ld (h := ?_)))) | ((with_reducible refine is_store ?_); (first | (refine own_stR (hO := hO) (h := ?_); clear hO; intro wv hO) | (refine own_st1 (hO := hO) (h := ?_); clear hO; intro wv hO))) | (go_at_call 43; refine (rvalid_any _ _).mono ?_; rintro e wv ⟨rfl, hb⟩; replace hO := hO.call hb; clear hb))
      go_ret
      exact ⟨ret_bool E.out, hO.keep.below⟩

set_option maxHeartbeats 1000000 in
theorem rsubset_any (a b : Bx) (w : World) :
    Calls Tryd.prog 50 #[bv a, bv b] w fun e w' => e = .returned (.bool (subB a b)) ∧ Below w.heap.size w w' := by
  have hO := own_start [] w
  go_enter Tryd.func50, Tryd.ntmps50
  go_wp2_with (first | ((with_reducible refine is_load ?_); (first | (refine own_ld (h := ?_)))) | ((with_reducible refine is_store ?_); (first | (refine own_stR (hO := hO) (h := ?_); clear hO; intro wv hO) | (refine own_st1 (hO := hO) (h := ?_); clear hO; intro wv hO))) | ((with_reducible refine is_box ?_); (first | (refine own_bx (o := ⟨some 2, _, _, _, _, _⟩) (hO := hO) (h := ?_); clear hO; intro n2 wv hO) | (refine own_bx (o := ⟨some 3, _, _, _, _, _⟩) (hO := hO) (h := ?_); clear hO; intro n3 wv hO))))
  go_loopw [5] (fun i wr => ∃ k : Nat, k ≤ 5 ∧ i = .int .i64 k ∧ subTo a b k ∧ Own [] w [⟨n3, bcs b, 26⟩, ⟨n2, bcs a, 26⟩] [] [] wr) (fun i _ => 5 - (intOf i).toNat)
  case atStart => exact ⟨0, by omega, rfl, fun i hi => by omega, hO⟩
  case round =>
    clear hO
    obtain ⟨k, hk, rfl, hin, hO⟩ := hrel
    have HI := Lib.hid hin
    clear hin
    by_cases hlt : k < 5
    · by_cases h1 : (b.at k).lo ≤ (a.at k).lo
      · have h1' : decide ((a.at k).lo < (b.at k).lo) = false := by simp; omega
        by_cases h2 : (a.at k).hi ≤ (b.at k).hi
        · have h2' : decide ((b.at k).hi < (a.at k).hi) = false := by simp; omega
          go_wp2_with (first | ((with_reducible refine is_load ?_); (first | (refine own_ld (h := ?_)))) | ((with_reducible refine is_store ?_); (first | (refine own_stR (hO := hO) (h := ?_); clear hO; intro wv hO) | (refine own_st1 (hO := hO) (h := ?_); clear hO; intro wv hO))))
          (try simp only [Act.put]); (refine own_quiet hO (by kernel_rfl) (by kernel_rfl) ?_; clear hO; (repeat (first | go_big_quiet_skip | (go_big_quiet_want; (first | ((with_reducible refine is_loadQ ?_); (first | (refine q_ld (h := ?_))); (try simp only [Act.put]); (try simp only [List.setIfInBounds_toArray, List.set_cons_zero, List.set_cons_succ]); go_big_quiet_on) | (go_big_quiet_op; (first | go_big_quiet_on | ((refine ⟨_, fun _ _ => rfl, ?_⟩); go_big_quiet_on) | go_big_quiet_call (fail))))))); (refine wpQuiet_nil ?_); intro wv hO)
          go_wp2_with (first | ((with_reducible refine is_load ?_); (first | (refine own_ld (h := ?_)))) | ((with_reducible refine is_store ?_); (first | (refine own_stR (hO := hO) (h := ?_); clear hO; intro wv hO) | (refine own_st1 (hO := hO) (h := ?_); clear hO; intro wv hO))))
          go_roundw
          case rel => exact ⟨k + 1, by omega, by go_num, subTo_snoc HI.out h1 h2, hO⟩
          case measure => simp [intOf]; omega
        · have h2' : decide ((b.at k).hi < (a.at k).hi) = true := by simp; omega
          have HF := Lib.hid (sub_no (a := a) (b := b) hlt (fun h => h2 h.2))
          go_wp2_with (first | ((with_reducible refine is_load ?_); (first | (refine own_ld (h := ?_)))) | ((with_reducible refine is_store ?_); (first | (refine own_stR (hO := hO) (h := ?_); clear hO; intro wv hO) | (refine own_st1 (hO := hO) (h := ?_); clear hO; intro wv hO))))
          (try simp only [Act.put]); (refine own_quiet hO (by kernel_rfl) (by kernel_rfl) ?_; clear hO; (repeat (first | go_big_quiet_skip | (go_big_quiet_want; (first | ((with_reducible refine is_loadQ ?_); (first | (refine q_ld (h := ?_))); (try simp only [Act.put]); (try simp only [List.setIfInBounds_toArray, List.set_cons_zero, List.set_cons_succ]); go_big_quiet_on) | (go_big_quiet_op; (first | go_big_quiet_on | ((refine ⟨_, fun _ _ => rfl, ?_⟩); go_big_quiet_on) | go_big_quiet_call (fail))))))); (refine wpQuiet_nil ?_); intro wv hO)
          go_wp2_with (first | ((with_reducible refine is_load ?_); (first | (refine own_ld (h := ?_)))) | ((with_reducible refine is_store ?_); (first | (refine own_stR (hO := hO) (h := ?_); clear hO; intro wv hO) | (refine own_st1 (hO := hO) (h := ?_); clear hO; intro wv hO))) | (go_at_call 43; refine (rvalid_any _ _).mono ?_; rintro e wv ⟨rfl, hb⟩; replace hO := hO.call hb; clear hb))
          go_ret
          exact ⟨ret_bool (by simp [subB, HF.out]), hO.keep.below⟩
      · have h1' : decide ((a.at k).lo < (b.at k).lo) = true := by simp; omega
        have HF := Lib.hid (sub_no (a := a) (b := b) hlt (fun h => h1 h.1))
        go_wp2_with (first | ((with_reducible refine is_load ?_); (first | (refine own_ld (h := ?_)))) | ((with_reducible refine is_store ?_); (first | (refine own_stR (hO := hO) (h := ?_); clear hO; intro wv hO) | (refine own_st1 (hO := hO) (h := ?_); clear hO; intro wv hO))))
        (try simp only [Act.put]); (refine own_quiet hO (by kernel_rfl) (by kernel_rfl) ?_; clear hO; (repeat (first | go_big_quiet_skip | (go_big_quiet_want; (first | ((with_reducible refine is_loadQ ?_); (first | (refine q_ld (h := ?_))); (try simp only [Act.put]); (try simp only [List.setIfInBounds_toArray, List.set_cons_zero, List.set_cons_succ]); go_big_quiet_on) | (go_big_quiet_op; (first | go_big_quiet_on | ((refine ⟨_, fun _ _ => rfl, ?_⟩); go_big_quiet_on) | go_big_quiet_call (fail))))))); (refine wpQuiet_nil ?_); intro wv hO)
        go_wp2_with (first | ((with_reducible refine is_load ?_); (first | (refine own_ld (h := ?_)))) | ((with_reducible refine is_store ?_); (first | (refine own_stR (hO := hO) (h := ?_); clear hO; intro wv hO) | (refine own_st1 (hO := hO) (h := ?_); clear hO; intro wv hO))) | (go_at_call 43; refine (rvalid_any _ _).mono ?_; rintro e wv ⟨rfl, hb⟩; replace hO := hO.call hb; clear hb))
        go_ret
        exact ⟨ret_bool (by simp [subB, HF.out]), hO.keep.below⟩
    · have h5 := Lib.hid (show subTo a b 5 from fun i hi => HI.out i (by omega))
      cases ha : vld a
      · go_wp2_with (first | ((with_reducible refine is_load ?_); (first | (refine own_ld (h := ?_)))) | ((with_reducible refine is_store ?_); (first | (refine own_stR (hO := hO) (h := ?_); clear hO; intro wv hO) | (refine own_st1 (hO := hO) (h := ?_); clear hO; intro wv hO))) | (go_at_call 43; refine (rvalid_any _ _).mono ?_; rintro e wv ⟨rfl, hb⟩; replace hO := hO.call hb; clear hb))
        go_ret
        exact ⟨ret_bool (by simp [subB, ha]), hO.keep.below⟩
      · go_wp2_with (first | ((with_reducible refine is_load ?_); (first | (refine own_ld (h := ?_)))) | ((with_reducible refine is_store ?_); (first | (refine own_stR (hO := hO) (h := ?_); clear hO; intro wv hO) | (refine own_st1 (hO := hO) (h := ?_); clear hO; intro wv hO))) | (go_at_call 43; refine (rvalid_any _ _).mono ?_; rintro e wv ⟨rfl, hb⟩; replace hO := hO.call hb; clear hb))
        go_ret
        exact ⟨ret_bool (by simp [subB, ha, h5.out]), hO.keep.below⟩

set_option maxHeartbeats 1000000 in
theorem rintersect_any (a b : Bx) (w : World) :
    Calls Tryd.prog 30 #[bv a, bv b] w fun e w' => e = .returned (.tuple #[bv (interB a b).1, .bool (interB a b).2]) ∧ Below w.heap.size w w' := by
  have hO := own_start [] w
  go_enter Tryd.func30, Tryd.ntmps30
  go_wp2_with (first | ((with_reducible refine is_load ?_); (first | (refine own_ld (h := ?_)))) | ((with_reducible refine is_store ?_); (first | (refine own_stR (hO := hO) (h := ?_); clear hO; intro wv hO) | (refine own_st1 (hO := hO) (h := ?_); clear hO; intro wv hO))) | ((with_reducible refine is_box ?_); (first | (refine own_bx (o := ⟨some 2, _, _, _, _, _⟩) (hO := hO) (h := ?_); clear hO; intro n2 wv hO) | (refine own_bx (o := ⟨some 3, _, _, _, _, _⟩) (hO := hO) (h := ?_); clear hO; intro n3 wv hO))) | ((with_reducible refine is_alloc ?_); (first | (refine own_al (o := ⟨some 4, _, _, _, _, _⟩) (hO := hO) (h := ?_); clear hO; intro n4 wv hO) | (refine own_al (o := ⟨some 6, _, _, _, _, _⟩) (hO := hO) (h := ?_); clear hO; intro n6 wv hO))))
  go_loopw [7] (fun i wr => ∃ k : Nat, k ≤ 5 ∧ i = .int .i64 k ∧ Own [] w [⟨n6, bcs (interK a b k), 26⟩, ⟨n4, bcs zeroBx, 26⟩, ⟨n3, bcs b, 26⟩, ⟨n2, bcs a, 26⟩] [] [] wr) (fun i _ => 5 - (intOf i).toNat)
  case atStart => exact ⟨0, by omega, rfl, hO⟩
  case round =>
    clear hO
    obtain ⟨k, hk, rfl, hO⟩ := hrel
    by_cases hlt : k < 5
    · go_wp2_with (first | ((with_reducible refine is_load ?_); (first | (refine own_ld (h := ?_)))) | ((with_reducible refine is_store ?_); (first | (refine own_stR (hO := hO) (h := ?_); clear hO; intro wv hO) | (refine own_st1 (hO := hO) (h := ?_); clear hO; intro wv hO))))
      (try simp only [Act.put]); (refine own_tail 21 hO (by kernel_rfl) (by kernel_rfl) (by repeat (first | exact Split.zero _ | apply Split.succ)) ?_; clear hO; intro wv hO; (repeat ((refine wpStill_step (fun K hK => ?_)); (first | ((rw [if_pos (by rfl)]); (with_reducible refine is_loadS ?_); (first | (refine s_ld (h := ?_))); (try simp only [Act.put]); (try simp only [List.setIfInBounds_toArray, List.set_cons_zero, List.set_cons_succ]); (refine hK _ ?_); clear hK K) | (go_simp; (refine hK _ ?_); clear hK K)))); (refine wpStill_nil ?_))
      go_wp2_with (first | ((with_reducible refine is_load ?_); (first | (refine own_ld (h := ?_)))) | ((with_reducible refine is_store ?_); (first | (refine own_stR (hO := hO) (h := ?_); clear hO; intro wv hO) | (refine own_st1 (hO := hO) (h := ?_); clear hO; intro wv hO))))
      go_roundw
      case rel => exact ⟨k + 1, by omega, by go_num, by rw [← interK_succ a b k]; exact hO⟩
      case measure => simp [intOf]; omega
    · obtain rfl : k = 5 := by omega
      rw [interK_five] at hO
      cases ha : vld a
      · have E := Lib.hid (show interB a b = (zeroBx, false) by simp [interB, ha])
        go_wp2_with (first | ((with_reducible refine is_load ?_); (first | (refine own_ld (h := ?_)))) | ((with_reducible refine is_store ?_); (first | (refine own_stR (hO := hO) (h := ?_); clear hO; intro wv hO) | (refine own_st1 (hO := hO) (h := ?_); clear hO; intro wv hO))) | (go_at_call 43; refine (rvalid_any _ _).mono ?_; rintro e wv ⟨rfl, hb⟩; replace hO := hO.call hb; clear hb))
        refine bodyPost_ret (own_res_cell_tmp hO Tryd.results30 rfl (by (repeat (first | exact List.mem_cons_self | refine List.mem_cons_of_mem _ ?_))) (by (exact row_len (by (with_reducible (first | exact row_Box | exact row_Range | exact row_Header | exact row_Five | exact row_Tape | exact row_Prefix | exact row_Truths | exact row_Packet))) (by rfl))) rfl rfl) rfl ⟨?_, hO.keep.below⟩
        rw [E.out]; rfl
      cases hb : vld b
      · have E := Lib.hid (show interB a b = (zeroBx, false) by simp [interB, hb])
        go_wp2_with (first | ((with_reducible refine is_load ?_); (first | (refine own_ld (h := ?_)))) | ((with_reducible refine is_store ?_); (first | (refine own_stR (hO := hO) (h := ?_); clear hO; intro wv hO) | (refine own_st1 (hO := hO) (h := ?_); clear hO; intro wv hO))) | (go_at_call 43; refine (rvalid_any _ _).mono ?_; rintro e wv ⟨rfl, hb⟩; replace hO := hO.call hb; clear hb))
        refine bodyPost_ret (own_res_cell_tmp hO Tryd.results30 rfl (by (repeat (first | exact List.mem_cons_self | refine List.mem_cons_of_mem _ ?_))) (by (exact row_len (by (with_reducible (first | exact row_Box | exact row_Range | exact row_Header | exact row_Five | exact row_Tape | exact row_Prefix | exact row_Truths | exact row_Packet))) (by rfl))) rfl rfl) rfl ⟨?_, hO.keep.below⟩
        rw [E.out]; rfl
      cases hi : vld (interTo a b)
      · have E := Lib.hid (show interB a b = (zeroBx, false) by simp [interB, hi])
        go_wp2_with (first | ((with_reducible refine is_load ?_); (first | (refine own_ld (h := ?_)))) | ((with_reducible refine is_store ?_); (first | (refine own_stR (hO := hO) (h := ?_); clear hO; intro wv hO) | (refine own_st1 (hO := hO) (h := ?_); clear hO; intro wv hO))) | (go_at_call 43; refine (rvalid_any _ _).mono ?_; rintro e wv ⟨rfl, hb⟩; replace hO := hO.call hb; clear hb))
        refine bodyPost_ret (own_res_cell_tmp hO Tryd.results30 rfl (by (repeat (first | exact List.mem_cons_self | refine List.mem_cons_of_mem _ ?_))) (by (exact row_len (by (with_reducible (first | exact row_Box | exact row_Range | exact row_Header | exact row_Five | exact row_Tape | exact row_Prefix | exact row_Truths | exact row_Packet))) (by rfl))) rfl rfl) rfl ⟨?_, hO.keep.below⟩
        rw [E.out]; rfl
      · have E := Lib.hid (show interB a b = (interTo a b, true) by simp [interB, hi, ha, hb])
        go_wp2_with (first | ((with_reducible refine is_load ?_); (first | (refine own_ld (h := ?_)))) | ((with_reducible refine is_store ?_); (first | (refine own_stR (hO := hO) (h := ?_); clear hO; intro wv hO) | (refine own_st1 (hO := hO) (h := ?_); clear hO; intro wv hO))) | (go_at_call 43; refine (rvalid_any _ _).mono ?_; rintro e wv ⟨rfl, hb⟩; replace hO := hO.call hb; clear hb))
        refine bodyPost_ret (own_res_cell_tmp hO Tryd.results30 rfl (by (repeat (first | exact List.mem_cons_self | refine List.mem_cons_of_mem _ ?_))) (by (exact row_len (by (with_reducible (first | exact row_Box | exact row_Range | exact row_Header | exact row_Five | exact row_Tape | exact row_Prefix | exact row_Truths | exact row_Packet))) (by rfl))) rfl rfl) rfl ⟨?_, hO.keep.below⟩
        rw [E.out]; rfl

theorem order_u32 (x y : Int) (w : World) : Calls Tryd.prog 59 #[.int .u32 x, .int .u32 y] w fun e w' => e = .returned (.int .i64 (cmpI x y)) ∧ w = w' := by
  by_cases h1 : x < y
  · have E := Lib.hid (show cmpI x y = -1 by unfold cmpI; rw [if_pos h1])
    go_enter Tryd.func59, Tryd.ntmps59
    go_wp2
    go_ret
    exact ⟨ret_int E.out.symm, rfl⟩
  · by_cases h2 : y < x
    · have E := Lib.hid (show cmpI x y = 1 by unfold cmpI; rw [if_neg h1, if_pos h2])
      go_enter Tryd.func59, Tryd.ntmps59
      go_wp2
      go_ret
      exact ⟨ret_int E.out.symm, rfl⟩
    · have E := Lib.hid (show cmpI x y = 0 by unfold cmpI; rw [if_neg h1, if_neg h2])
      go_enter Tryd.func59, Tryd.ntmps59
      go_wp2
      go_ret
      exact ⟨ret_int E.out.symm, rfl⟩
theorem cmpI_ne {x y : Int} (h : x ≠ y) : cmpI x y ≠ 0 := fun e => h (cmpI_zero.1 e)
set_option maxHeartbeats 1000000 in
theorem rcompare_any (a b : Bx) (w : World) :
    Calls Tryd.prog 53 #[bv a, bv b] w fun e w' => e = .returned (.int .i64 (cmpB a b)) ∧ Below w.heap.size w w' := by
  have hO := own_start [] w
  go_enter Tryd.func53, Tryd.ntmps53
  go_wp2_with (first | ((with_reducible refine is_load ?_); (first | (refine own_ld (h := ?_)))) | ((with_reducible refine is_store ?_); (first | (refine own_stR (hO := hO) (h := ?_); clear hO; intro wv hO) | (refine own_st1 (hO := hO) (h := ?_); clear hO; intro wv hO))) | ((with_reducible refine is_box ?_); (first | (refine own_bx (o := ⟨some 2, _, _, _, _, _⟩) (hO := hO) (h := ?_); clear hO; intro n2 wv hO) | (refine own_bx (o := ⟨some 3, _, _, _, _, _⟩) (hO := hO) (h := ?_); clear hO; intro n3 wv hO))))
  go_loopw [5] (fun i wr => ∃ k : Nat, k ≤ 5 ∧ i = .int .i64 k ∧ (∀ i, i < k → a.at i = b.at i) ∧ Own [] w [⟨n3, bcs b, 26⟩, ⟨n2, bcs a, 26⟩] [] [] wr) (fun i _ => 5 - (intOf i).toNat)
  case atStart => exact ⟨0, by omega, rfl, fun i hi => by omega, hO⟩
  case round =>
    clear hO
    obtain ⟨k, hk, rfl, hin, hO⟩ := hrel
    have HI := Lib.hid hin
    clear hin
    by_cases hlt : k < 5
    · by_cases h1 : (a.at k).lo = (b.at k).lo
      · have q1 : ((a.at k).lo != (b.at k).lo) = false := by simp [h1]
        by_cases h2 : (a.at k).hi = (b.at k).hi
        · have q2 : ((a.at k).hi != (b.at k).hi) = false := by simp [h2]
          have HC := Lib.hid (show a.at k = b.at k by cases ha : a.at k; cases hb : b.at k; simp_all)
          clear h1 h2
          go_wp2_with (first | ((with_reducible refine is_load ?_); (first | (refine own_ld (h := ?_)))) | ((with_reducible refine is_store ?_); (first | (refine own_stR (hO := hO) (h := ?_); clear hO; intro wv hO) | (refine own_st1 (hO := hO) (h := ?_); clear hO; intro wv hO))))
          (try simp only [Act.put]); (refine own_quiet hO (by kernel_rfl) (by kernel_rfl) ?_; clear hO; (repeat (first | go_big_quiet_skip | (go_big_quiet_want; (first | ((with_reducible refine is_loadQ ?_); (first | (refine q_ld (h := ?_))); (try simp only [Act.put]); (try simp only [List.setIfInBounds_toArray, List.set_cons_zero, List.set_cons_succ]); go_big_quiet_on) | (go_big_quiet_op; (first | go_big_quiet_on | ((refine ⟨_, fun _ _ => rfl, ?_⟩); go_big_quiet_on) | go_big_quiet_call (fail))))))); (refine wpQuiet_nil ?_); intro wv hO)
          go_wp2_with (first | ((with_reducible refine is_load ?_); (first | (refine own_ld (h := ?_)))) | ((with_reducible refine is_store ?_); (first | (refine own_stR (hO := hO) (h := ?_); clear hO; intro wv hO) | (refine own_st1 (hO := hO) (h := ?_); clear hO; intro wv hO))))
          (try simp only [Act.put]); (refine own_quiet hO (by kernel_rfl) (by kernel_rfl) ?_; clear hO; (repeat (first | go_big_quiet_skip | (go_big_quiet_want; (first | ((with_reducible refine is_loadQ ?_); (first | (refine q_ld (h := ?_))); (try simp only [Act.put]); (try simp only [List.setIfInBounds_toArray, List.set_cons_zero, List.set_cons_succ]); go_big_quiet_on) | (go_big_quiet_op; (first | go_big_quiet_on | ((refine ⟨_, fun _ _ => rfl, ?_⟩); go_big_quiet_on) | go_big_quiet_call (fail))))))); (refine wpQuiet_nil ?_); intro wv hO)
          go_wp2_with (first | ((with_reducible refine is_load ?_); (first | (refine own_ld (h := ?_)))) | ((with_reducible refine is_store ?_); (first | (refine own_stR (hO := hO) (h := ?_); clear hO; intro wv hO) | (refine own_st1 (hO := hO) (h := ?_); clear hO; intro wv hO))))
          go_roundw
          case rel =>
            refine ⟨k + 1, by omega, by go_num, fun i hi => ?_, hO⟩
            by_cases e : i = k
            · rw [e]; exact HC.out
            · exact HI.out i (by omega)
          case measure => simp [intOf]; omega
        · have q2 : ((a.at k).hi != (b.at k).hi) = true := by simp [h2]
          have E := Lib.hid (show cmpB a b = cmpI (a.at k).hi (b.at k).hi by
            have e : cmpR (a.at k) (b.at k) = cmpI (a.at k).hi (b.at k).hi := by unfold cmpR orI; rw [if_pos (cmpI_zero.2 h1)]
            rw [← e]; exact cmpB_at hlt HI.out (by rw [e]; exact cmpI_ne h2))
          clear h1 h2
          go_wp2_with (first | ((with_reducible refine is_load ?_); (first | (refine own_ld (h := ?_)))) | ((with_reducible refine is_store ?_); (first | (refine own_stR (hO := hO) (h := ?_); clear hO; intro wv hO) | (refine own_st1 (hO := hO) (h := ?_); clear hO; intro wv hO))))
          (try simp only [Act.put]); (refine own_quiet hO (by kernel_rfl) (by kernel_rfl) ?_; clear hO; (repeat (first | go_big_quiet_skip | (go_big_quiet_want; (first | ((with_reducible refine is_loadQ ?_); (first | (refine q_ld (h := ?_))); (try simp only [Act.put]); (try simp only [List.setIfInBounds_toArray, List.set_cons_zero, List.set_cons_succ]); go_big_quiet_on) | (go_big_quiet_op; (first | go_big_quiet_on | ((refine ⟨_, fun _ _ => rfl, ?_⟩); go_big_quiet_on) | go_big_quiet_call (fail))))))); (refine wpQuiet_nil ?_); intro wv hO)
          go_wp2_with (first | ((with_reducible refine is_load ?_); (first | (refine own_ld (h := ?_)))) | ((with_reducible refine is_store ?_); (first | (refine own_stR (hO := hO) (h := ?_); clear hO; intro wv hO) | (refine own_st1 (hO := hO) (h := ?_); clear hO; intro wv hO))))
          (try simp only [Act.put]); (refine own_quiet hO (by kernel_rfl) (by kernel_rfl) ?_; clear hO; (repeat (first | go_big_quiet_skip | (go_big_quiet_want; (first | ((with_reducible refine is_loadQ ?_); (first | (refine q_ld (h := ?_))); (try simp only [Act.put]); (try simp only [List.setIfInBounds_toArray, List.set_cons_zero, List.set_cons_succ]); go_big_quiet_on) | (go_big_quiet_op; (first | go_big_quiet_on | ((refine ⟨_, fun _ _ => rfl, ?_⟩); go_big_quiet_on) | go_big_quiet_call (fail))))))); (refine wpQuiet_nil ?_); intro wv hO)
          go_wp2_with (first | ((with_reducible refine is_load ?_); (first | (refine own_ld (h := ?_)))) | ((with_reducible refine is_store ?_); (first | (refine own_stR (hO := hO) (h := ?_); clear hO; intro wv hO) | (refine own_st1 (hO := hO) (h := ?_); clear hO; intro wv hO))))
          (try simp only [Act.put]); (refine own_quiet hO (by kernel_rfl) (by kernel_rfl) ?_; clear hO; (repeat (first | go_big_quiet_skip | (go_big_quiet_want; (first | ((with_reducible refine is_loadQ ?_); (first | (refine q_ld (h := ?_))); (try simp only [Act.put]); (try simp only [List.setIfInBounds_toArray, List.set_cons_zero, List.set_cons_succ]); go_big_quiet_on) | (go_big_quiet_op; (first | go_big_quiet_on | ((refine ⟨_, fun _ _ => rfl, ?_⟩); go_big_quiet_on) | go_big_quiet_call ((intro hq; go_at_call 59; exact q_same (order_u32 _ _ _) hq)))))))); (refine wpQuiet_nil ?_); intro wv hO)
          go_wp2_with (first | ((with_reducible refine is_load ?_); (first | (refine own_ld (h := ?_)))) | ((with_reducible refine is_store ?_); (first | (refine own_stR (hO := hO) (h := ?_); clear hO; intro wv hO) | (refine own_st1 (hO := hO) (h := ?_); clear hO; intro wv hO))))
          go_ret
          exact ⟨ret_int E.out.symm, hO.keep.below⟩
      · have q1 : ((a.at k).lo != (b.at k).lo) = true := by simp [h1]
        have E := Lib.hid (show cmpB a b = cmpI (a.at k).lo (b.at k).lo by
          have e : cmpR (a.at k) (b.at k) = cmpI (a.at k).lo (b.at k).lo := by unfold cmpR orI; rw [if_neg (cmpI_ne h1)]
          rw [← e]; exact cmpB_at hlt HI.out (by rw [e]; exact cmpI_ne h1))
        clear h1
        go_wp2_with (first | ((with_reducible refine is_load ?_); (first | (refine own_ld (h := ?_)))) | ((with_reducible refine is_store ?_); (first | (refine own_stR (hO := hO) (h := ?_); clear hO; intro wv hO) | (refine own_st1 (hO := hO) (h := ?_); clear hO; intro wv hO))))
        (try simp only [Act.put]); (refine own_quiet hO (by kernel_rfl) (by kernel_rfl) ?_; clear hO; (repeat (first | go_big_quiet_skip | (go_big_quiet_want; (first | ((with_reducible refine is_loadQ ?_); (first | (refine q_ld (h := ?_))); (try simp only [Act.put]); (try simp only [List.setIfInBounds_toArray, List.set_cons_zero, List.set_cons_succ]); go_big_quiet_on) | (go_big_quiet_op; (first | go_big_quiet_on | ((refine ⟨_, fun _ _ => rfl, ?_⟩); go_big_quiet_on) | go_big_quiet_call (fail))))))); (refine wpQuiet_nil ?_); intro wv hO)
        go_wp2_with (first | ((with_reducible refine is_load ?_); (first | (refine own_ld (h := ?_)))) | ((with_reducible refine is_store ?_); (first | (refine own_stR (hO := hO) (h := ?_); clear hO; intro wv hO) | (refine own_st1 (hO := hO) (h := ?_); clear hO; intro wv hO))))
        (try simp only [Act.put]); (refine own_quiet hO (by kernel_rfl) (by kernel_rfl) ?_; clear hO; (repeat (first | go_big_quiet_skip | (go_big_quiet_want; (first | ((with_reducible refine is_loadQ ?_); (first | (refine q_ld (h := ?_))); (try simp only [Act.put]); (try simp only [List.setIfInBounds_toArray, List.set_cons_zero, List.set_cons_succ]); go_big_quiet_on) | (go_big_quiet_op; (first | go_big_quiet_on | ((refine ⟨_, fun _ _ => rfl, ?_⟩); go_big_quiet_on) | go_big_quiet_call ((intro hq; go_at_call 59; exact q_same (order_u32 _ _ _) hq)))))))); (refine wpQuiet_nil ?_); intro wv hO)
        go_wp2_with (first | ((with_reducible refine is_load ?_); (first | (refine own_ld (h := ?_)))) | ((with_reducible refine is_store ?_); (first | (refine own_stR (hO := hO) (h := ?_); clear hO; intro wv hO) | (refine own_st1 (hO := hO) (h := ?_); clear hO; intro wv hO))))
        go_ret
        exact ⟨ret_int E.out.symm, hO.keep.below⟩
    · have E := Lib.hid (cmpB_zero.2 (Bx.ext_at fun i hi => HI.out i (by omega)))
      go_wp2_with (first | ((with_reducible refine is_load ?_); (first | (refine own_ld (h := ?_)))) | ((with_reducible refine is_store ?_); (first | (refine own_stR (hO := hO) (h := ?_); clear hO; intro wv hO) | (refine own_st1 (hO := hO) (h := ?_); clear hO; intro wv hO))))
      go_ret
      exact ⟨ret_int E.out.symm, hO.keep.below⟩
end Go.Proofs.YtnhjcbmlplfpmaaDoor
