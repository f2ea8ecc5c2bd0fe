/- Contracts of the reference of layer 3 (third part): Subtract, Hull. -/
import Derived.Test.YtnhjcbmlplfpmaaDoorRefBoxB
import Derived.Test.YtnhjcbmlplfpmaaDoorSepM
namespace Go.Proofs.YtnhjcbmlplfpmaaDoor
open Go.RowKit
set_option maxRecDepth 100000

set_option maxHeartbeats 4000000 in
theorem rsubtract_any (a b : Bx) (w : World) (ka : a.ok) (kb : b.ok) :
    Calls Tryd.prog 52 #[bv a, bv b] w (RetBoxes w (subtrB a b)) := by
  have hO := own_start [] w
  cases ha : vld a
  · have E := Lib.hid (show subtrB a b = [] by simp [subtrB, ha])
    go_enter Tryd.func52, Tryd.ntmps52
    go_wp2_with (first | ((with_reducible refine is_load ?_); (first | (refine own_ld (h := ?_)))) | ((with_reducible refine is_store ?_); (first | (refine own_stR (hO := hO) (h := ?_); clear hO; intro wv hO) | (refine own_st1 (hO := hO) (h := ?_); clear hO; intro wv hO))) | ((with_reducible refine is_box ?_); (first | (refine own_bx (o := ⟨some 2, _, _, _, _, _⟩) (hO := hO) (h := ?_); clear hO; intro n2 wv hO) | (refine own_bx (o := ⟨some 3, _, _, _, _, _⟩) (hO := hO) (h := ?_); clear hO; intro n3 wv hO))) | (go_at_call 43; refine (rvalid_any _ _).mono ?_; rintro e wv ⟨rfl, hb⟩; replace hO := hO.call hb; clear hb))
    go_ret
    exact ⟨_, rfl, ⟨by rw [E.out]; exact .inl ⟨rfl, rfl⟩, fun g hg => by cases hg⟩, hO.keep.below⟩
  cases hi : (interB a b).2
  · have E := Lib.hid (show subtrB a b = [a] by simp [subtrB, ha, hi])
    go_enter Tryd.func52, Tryd.ntmps52
    go_wp2_with (first | ((with_reducible refine is_load ?_); (first | (refine own_ld (h := ?_)))) | ((with_reducible refine is_store ?_); (first | (refine own_stR (hO := hO) (h := ?_); clear hO; intro wv hO) | (refine own_st1 (hO := hO) (h := ?_); clear hO; intro wv hO))) | ((with_reducible refine is_box ?_); (first | (refine own_bx (o := ⟨some 2, _, _, _, _, _⟩) (hO := hO) (h := ?_); clear hO; intro n2 wv hO) | (refine own_bx (o := ⟨some 3, _, _, _, _, _⟩) (hO := hO) (h := ?_); clear hO; intro n3 wv hO))) | ((with_reducible refine is_alloc ?_); (first | (refine own_al (o := ⟨some 5, _, _, _, _, _⟩) (hO := hO) (h := ?_); clear hO; intro n5 wv hO))) | ((with_reducible refine is_build ?_); (first | (refine' own_build1 (o := ⟨some 24, _, _, _, _, _⟩) hO (by rfl) rfl rfl ?hu ?hf ?_; (case hu => (first | exact Tryd.underlying33 | exact und_Set)); (case hf => kernel_rfl); clear hO; intro n24 wv hO))) | (go_at_call 43; refine (rvalid_any _ _).mono ?_; rintro e wv ⟨rfl, hb⟩; replace hO := hO.call hb; clear hb) | (go_at_call 30; refine (rintersect_any _ _ _).mono ?_; rintro e wv ⟨rfl, hb⟩; replace hO := hO.call hb; clear hb))
    go_ret
    exact ⟨_, rfl, ⟨by rw [E.out]; exact own_boxesC hO (l := [a]) List.mem_cons_self (cellsB_one a).symm (by simp), own_newC hO List.mem_cons_self⟩, hO.keep.below⟩
  have E := Lib.hid (show subtrB a b = subL a (interB a b).1 5 by simp [subtrB, ha, hi])
  have kx := interB_ok ka kb
  go_enter Tryd.func52, Tryd.ntmps52
  go_wp2_with (first | ((with_reducible refine is_load ?_); (first | (refine own_ld (h := ?_)))) | ((with_reducible refine is_store ?_); (first | (refine own_stR (hO := hO) (h := ?_); clear hO; intro wv hO) | (refine own_st1 (hO := hO) (h := ?_); clear hO; intro wv hO))) | ((with_reducible refine is_box ?_); (first | (refine own_bx (o := ⟨some 2, _, _, _, _, _⟩) (hO := hO) (h := ?_); clear hO; intro n2 wv hO) | (refine own_bx (o := ⟨some 3, _, _, _, _, _⟩) (hO := hO) (h := ?_); clear hO; intro n3 wv hO))) | ((with_reducible refine is_alloc ?_); (first | (refine own_al (o := ⟨some 5, _, _, _, _, _⟩) (hO := hO) (h := ?_); clear hO; intro n5 wv hO) | (refine own_al (o := ⟨some 8, _, _, _, _, _⟩) (hO := hO) (h := ?_); clear hO; intro n8 wv hO))) | (go_at_call 43; refine (rvalid_any _ _).mono ?_; rintro e wv ⟨rfl, hb⟩; replace hO := hO.call hb; clear hb) | (go_at_call 30; refine (rintersect_any _ _ _).mono ?_; rintro e wv ⟨rfl, hb⟩; replace hO := hO.call hb; clear hb))
  generalize (interB a b).1 = x at *
  replace hO := hO.nilRow 26 10
  go_loopw [7, 9] (fun v i wr => ∃ k : Nat, k ≤ 5 ∧ i = .int .i64 k ∧ Own [] w [⟨n8, bcs (subK a x k), 26⟩, ⟨n5, bcs x, 26⟩] [⟨v, (subL a x k).length, cellsB (subL a x k), 26, 10⟩] [] wr) (fun _ i _ => 5 - (intOf i).toNat)
  case atStart => exact ⟨0, by omega, rfl, hO.sub (.cons_cons _ (.cons_cons _ (.cons _ (.cons _ .slnil)))) (.refl _) (fun _ h => h)⟩
  case round =>
    clear hO ha hi
    obtain ⟨k, hk, rfl, hO⟩ := hrel
    by_cases hlt : k < 5
    · have hL := subL_le a x k
      have hA := ka k hlt
      have hX := kx k hlt
      have hat := subK_at a x hlt
      have hs := subK_succ a x k
      have hn : subL a x (k + 1) = subL a x k ++ subParts (subK a x k) x k := rfl
      simp only [subParts, hat] at hn
      have HN := Lib.hid hn
      have HS := Lib.hid hs
      clear hn hs
      generalize hl : subL a x k = l at *
      clear hl
      generalize subK a x k = c at *
      obtain ⟨⟨A1, A2⟩, A3, A4⟩ := hA
      obtain ⟨⟨X1, X2⟩, X3, X4⟩ := hX
      by_cases h1 : (a.at k).lo < (x.at k).lo
      · by_cases h2 : (x.at k).hi < (a.at k).hi
        · have h1' : decide ((a.at k).lo < (x.at k).lo) = true := by simp; omega
          have h2' : decide ((x.at k).hi < (a.at k).hi) = true := by simp; omega
          go_wp2_with (first | ((with_reducible refine is_load ?_); (first | (refine own_ld (h := ?_)))) | ((with_reducible refine is_store ?_); (first | (refine own_stR (hO := hO) (h := ?_); clear hO; intro wv hO) | (refine own_st1 (hO := hO) (h := ?_); clear hO; intro wv hO))))
          (try simp only [Act.put]); (refine own_quiet hO (by kernel_rfl) (by kernel_rfl) ?_; clear hO; (repeat (first | go_big_quiet_skip | (go_big_quiet_want; (first | ((with_reducible refine is_loadQ ?_); (first | (refine q_ld (h := ?_))); (try simp only [Act.put]); (try simp only [List.setIfInBounds_toArray, List.set_cons_zero, List.set_cons_succ]); go_big_quiet_on) | (go_big_quiet_op; (first | go_big_quiet_on | ((refine ⟨_, fun _ _ => rfl, ?_⟩); go_big_quiet_on) | go_big_quiet_call (fail))))))); (refine wpQuiet_nil ?_); intro wv hO)
          go_wp2_with (first | ((with_reducible refine is_load ?_); (first | (refine own_ld (h := ?_)))) | ((with_reducible refine is_store ?_); (first | (refine own_stR (hO := hO) (h := ?_); clear hO; intro wv hO) | (refine own_st1 (hO := hO) (h := ?_); clear hO; intro wv hO))) | ((with_reducible refine is_alloc ?_); (first | (refine own_al (o := ⟨some 10, _, _, _, _, _⟩) (hO := hO) (h := ?_); clear hO; intro n10 wv hO))) | ((with_reducible refine is_build ?_); (first | (refine' own_build1 (o := ⟨some 50, _, _, _, _, _⟩) hO (by rfl) rfl rfl ?hu ?hf ?_; (case hu => (first | exact Tryd.underlying33 | exact und_Set)); (case hf => kernel_rfl); clear hO; intro n50 wv hO))) | ((with_reducible refine is_append ?_); (first | (refine own_ap (o := ⟨some 51, _, _, _, _, _⟩) (hO := hO) (h := ?_); clear hO; intro g51 c51 wv hO))))
          (try simp only [Act.put]); (refine own_quiet hO (by kernel_rfl) (by kernel_rfl) ?_; clear hO; (repeat (first | go_big_quiet_skip | (go_big_quiet_want; (first | ((with_reducible refine is_loadQ ?_); (first | (refine q_ld (h := ?_))); (try simp only [Act.put]); (try simp only [List.setIfInBounds_toArray, List.set_cons_zero, List.set_cons_succ]); go_big_quiet_on) | (go_big_quiet_op; (first | go_big_quiet_on | ((refine ⟨_, fun _ _ => rfl, ?_⟩); go_big_quiet_on) | go_big_quiet_call (fail))))))); (refine wpQuiet_nil ?_); intro wv hO)
          go_wp2_with (first | ((with_reducible refine is_load ?_); (first | (refine own_ld (h := ?_)))) | ((with_reducible refine is_store ?_); (first | (refine own_stR (hO := hO) (h := ?_); clear hO; intro wv hO) | (refine own_st1 (hO := hO) (h := ?_); clear hO; intro wv hO))) | ((with_reducible refine is_alloc ?_); (first | (refine own_al (o := ⟨some 11, _, _, _, _, _⟩) (hO := hO) (h := ?_); clear hO; intro n11 wv hO))) | ((with_reducible refine is_build ?_); (first | (refine' own_build1 (o := ⟨some 72, _, _, _, _, _⟩) hO (by rfl) rfl rfl ?hu ?hf ?_; (case hu => (first | exact Tryd.underlying33 | exact und_Set)); (case hf => kernel_rfl); clear hO; intro n72 wv hO))) | ((with_reducible refine is_append ?_); (first | (refine own_ap (o := ⟨some 73, _, _, _, _, _⟩) (hO := hO) (h := ?_); clear hO; intro g73 c73 wv hO))))
          go_roundw
          case rel =>
            refine ⟨k + 1, by omega, by go_num, ?_⟩
            rw [HN.out, ← HS.out, if_pos h1, if_pos h2]
            (try simp only [hat] at hO)
            simp only [cellsB_append, List.length_append, List.length_cons, List.length_nil, List.append_nil, ← List.append_assoc, Nat.zero_add, cellsB]
            exact hO.sub (.cons _ (.cons _ (.cons _ (.cons _ (.refl _))))) (.refl _) (fun _ h => h)
          case measure => simp [intOf]; omega
        · have h1' : decide ((a.at k).lo < (x.at k).lo) = true := by simp; omega
          have h2' : decide ((x.at k).hi < (a.at k).hi) = false := by simp; omega
          go_wp2_with (first | ((with_reducible refine is_load ?_); (first | (refine own_ld (h := ?_)))) | ((with_reducible refine is_store ?_); (first | (refine own_stR (hO := hO) (h := ?_); clear hO; intro wv hO) | (refine own_st1 (hO := hO) (h := ?_); clear hO; intro wv hO))))
          (try simp only [Act.put]); (refine own_quiet hO (by kernel_rfl) (by kernel_rfl) ?_; clear hO; (repeat (first | go_big_quiet_skip | (go_big_quiet_want; (first | ((with_reducible refine is_loadQ ?_); (first | (refine q_ld (h := ?_))); (try simp only [Act.put]); (try simp only [List.setIfInBounds_toArray, List.set_cons_zero, List.set_cons_succ]); go_big_quiet_on) | (go_big_quiet_op; (first | go_big_quiet_on | ((refine ⟨_, fun _ _ => rfl, ?_⟩); go_big_quiet_on) | go_big_quiet_call (fail))))))); (refine wpQuiet_nil ?_); intro wv hO)
          go_wp2_with (first | ((with_reducible refine is_load ?_); (first | (refine own_ld (h := ?_)))) | ((with_reducible refine is_store ?_); (first | (refine own_stR (hO := hO) (h := ?_); clear hO; intro wv hO) | (refine own_st1 (hO := hO) (h := ?_); clear hO; intro wv hO))) | ((with_reducible refine is_alloc ?_); (first | (refine own_al (o := ⟨some 10, _, _, _, _, _⟩) (hO := hO) (h := ?_); clear hO; intro n10 wv hO))) | ((with_reducible refine is_build ?_); (first | (refine' own_build1 (o := ⟨some 50, _, _, _, _, _⟩) hO (by rfl) rfl rfl ?hu ?hf ?_; (case hu => (first | exact Tryd.underlying33 | exact und_Set)); (case hf => kernel_rfl); clear hO; intro n50 wv hO))) | ((with_reducible refine is_append ?_); (first | (refine own_ap (o := ⟨some 51, _, _, _, _, _⟩) (hO := hO) (h := ?_); clear hO; intro g51 c51 wv hO))))
          (try simp only [Act.put]); (refine own_quiet hO (by kernel_rfl) (by kernel_rfl) ?_; clear hO; (repeat (first | go_big_quiet_skip | (go_big_quiet_want; (first | ((with_reducible refine is_loadQ ?_); (first | (refine q_ld (h := ?_))); (try simp only [Act.put]); (try simp only [List.setIfInBounds_toArray, List.set_cons_zero, List.set_cons_succ]); go_big_quiet_on) | (go_big_quiet_op; (first | go_big_quiet_on | ((refine ⟨_, fun _ _ => rfl, ?_⟩); go_big_quiet_on) | go_big_quiet_call (fail))))))); (refine wpQuiet_nil ?_); intro wv hO)
          go_wp2_with (first | ((with_reducible refine is_load ?_); (first | (refine own_ld (h := ?_)))) | ((with_reducible refine is_store ?_); (first | (refine own_stR (hO := hO) (h := ?_); clear hO; intro wv hO) | (refine own_st1 (hO := hO) (h := ?_); clear hO; intro wv hO))))
          go_roundw
          case rel =>
            refine ⟨k + 1, by omega, by go_num, ?_⟩
            rw [HN.out, ← HS.out, if_pos h1, if_neg (by omega)]
            (try simp only [hat] at hO)
            simp only [cellsB_append, List.length_append, List.length_cons, List.length_nil, List.append_nil, Nat.zero_add, cellsB]
            exact hO.sub (.cons _ (.cons _ (.refl _))) (.refl _) (fun _ h => h)
          case measure => simp [intOf]; omega
      · by_cases h2 : (x.at k).hi < (a.at k).hi
        · have h1' : decide ((a.at k).lo < (x.at k).lo) = false := by simp; omega
          have h2' : decide ((x.at k).hi < (a.at k).hi) = true := by simp; omega
          go_wp2_with (first | ((with_reducible refine is_load ?_); (first | (refine own_ld (h := ?_)))) | ((with_reducible refine is_store ?_); (first | (refine own_stR (hO := hO) (h := ?_); clear hO; intro wv hO) | (refine own_st1 (hO := hO) (h := ?_); clear hO; intro wv hO))))
          (try simp only [Act.put]); (refine own_quiet hO (by kernel_rfl) (by kernel_rfl) ?_; clear hO; (repeat (first | go_big_quiet_skip | (go_big_quiet_want; (first | ((with_reducible refine is_loadQ ?_); (first | (refine q_ld (h := ?_))); (try simp only [Act.put]); (try simp only [List.setIfInBounds_toArray, List.set_cons_zero, List.set_cons_succ]); go_big_quiet_on) | (go_big_quiet_op; (first | go_big_quiet_on | ((refine ⟨_, fun _ _ => rfl, ?_⟩); go_big_quiet_on) | go_big_quiet_call (fail))))))); (refine wpQuiet_nil ?_); intro wv hO)
          go_wp2_with (first | ((with_reducible refine is_load ?_); (first | (refine own_ld (h := ?_)))) | ((with_reducible refine is_store ?_); (first | (refine own_stR (hO := hO) (h := ?_); clear hO; intro wv hO) | (refine own_st1 (hO := hO) (h := ?_); clear hO; intro wv hO))))
          (try simp only [Act.put]); (refine own_quiet hO (by kernel_rfl) (by kernel_rfl) ?_; clear hO; (repeat (first | go_big_quiet_skip | (go_big_quiet_want; (first | ((with_reducible refine is_loadQ ?_); (first | (refine q_ld (h := ?_))); (try simp only [Act.put]); (try simp only [List.setIfInBounds_toArray, List.set_cons_zero, List.set_cons_succ]); go_big_quiet_on) | (go_big_quiet_op; (first | go_big_quiet_on | ((refine ⟨_, fun _ _ => rfl, ?_⟩); go_big_quiet_on) | go_big_quiet_call (fail))))))); (refine wpQuiet_nil ?_); intro wv hO)
          go_wp2_with (first | ((with_reducible refine is_load ?_); (first | (refine own_ld (h := ?_)))) | ((with_reducible refine is_store ?_); (first | (refine own_stR (hO := hO) (h := ?_); clear hO; intro wv hO) | (refine own_st1 (hO := hO) (h := ?_); clear hO; intro wv hO))) | ((with_reducible refine is_alloc ?_); (first | (refine own_al (o := ⟨some 11, _, _, _, _, _⟩) (hO := hO) (h := ?_); clear hO; intro n11 wv hO))) | ((with_reducible refine is_build ?_); (first | (refine' own_build1 (o := ⟨some 72, _, _, _, _, _⟩) hO (by rfl) rfl rfl ?hu ?hf ?_; (case hu => (first | exact Tryd.underlying33 | exact und_Set)); (case hf => kernel_rfl); clear hO; intro n72 wv hO))) | ((with_reducible refine is_append ?_); (first | (refine own_ap (o := ⟨some 73, _, _, _, _, _⟩) (hO := hO) (h := ?_); clear hO; intro g73 c73 wv hO))))
          go_roundw
          case rel =>
            refine ⟨k + 1, by omega, by go_num, ?_⟩
            rw [HN.out, ← HS.out, if_neg (by omega), if_pos h2]
            (try simp only [hat] at hO)
            simp only [cellsB_append, List.length_append, List.length_cons, List.length_nil, List.nil_append, List.append_nil, Nat.zero_add, cellsB]
            exact hO.sub (.cons _ (.cons _ (.refl _))) (.refl _) (fun _ h => h)
          case measure => simp [intOf]; omega
        · have h1' : decide ((a.at k).lo < (x.at k).lo) = false := by simp; omega
          have h2' : decide ((x.at k).hi < (a.at k).hi) = false := by simp; omega
          go_wp2_with (first | ((with_reducible refine is_load ?_); (first | (refine own_ld (h := ?_)))) | ((with_reducible refine is_store ?_); (first | (refine own_stR (hO := hO) (h := ?_); clear hO; intro wv hO) | (refine own_st1 (hO := hO) (h := ?_); clear hO; intro wv hO))))
          (try simp only [Act.put]); (refine own_quiet hO (by kernel_rfl) (by kernel_rfl) ?_; clear hO; (repeat (first | go_big_quiet_skip | (go_big_quiet_want; (first | ((with_reducible refine is_loadQ ?_); (first | (refine q_ld (h := ?_))); (try simp only [Act.put]); (try simp only [List.setIfInBounds_toArray, List.set_cons_zero, List.set_cons_succ]); go_big_quiet_on) | (go_big_quiet_op; (first | go_big_quiet_on | ((refine ⟨_, fun _ _ => rfl, ?_⟩); go_big_quiet_on) | go_big_quiet_call (fail))))))); (refine wpQuiet_nil ?_); intro wv hO)
          go_wp2_with (first | ((with_reducible refine is_load ?_); (first | (refine own_ld (h := ?_)))) | ((with_reducible refine is_store ?_); (first | (refine own_stR (hO := hO) (h := ?_); clear hO; intro wv hO) | (refine own_st1 (hO := hO) (h := ?_); clear hO; intro wv hO))))
          (try simp only [Act.put]); (refine own_quiet hO (by kernel_rfl) (by kernel_rfl) ?_; clear hO; (repeat (first | go_big_quiet_skip | (go_big_quiet_want; (first | ((with_reducible refine is_loadQ ?_); (first | (refine q_ld (h := ?_))); (try simp only [Act.put]); (try simp only [List.setIfInBounds_toArray, List.set_cons_zero, List.set_cons_succ]); go_big_quiet_on) | (go_big_quiet_op; (first | go_big_quiet_on | ((refine ⟨_, fun _ _ => rfl, ?_⟩); go_big_quiet_on) | go_big_quiet_call (fail))))))); (refine wpQuiet_nil ?_); intro wv hO)
          go_wp2_with (first | ((with_reducible refine is_load ?_); (first | (refine own_ld (h := ?_)))) | ((with_reducible refine is_store ?_); (first | (refine own_stR (hO := hO) (h := ?_); clear hO; intro wv hO) | (refine own_st1 (hO := hO) (h := ?_); clear hO; intro wv hO))))
          go_roundw
          case rel =>
            refine ⟨k + 1, by omega, by go_num, ?_⟩
            rw [HN.out, ← HS.out, if_neg (by omega), if_neg (by omega)]
            (try simp only [hat] at hO)
            simp only [List.append_nil]
            exact hO.sub (.refl _) (.refl _) (fun _ h => h)
          case measure => simp [intOf]; omega
    · obtain rfl : k = 5 := by omega
      go_wp2_with (first | ((with_reducible refine is_load ?_); (first | (refine own_ld (h := ?_)))) | ((with_reducible refine is_store ?_); (first | (refine own_stR (hO := hO) (h := ?_); clear hO; intro wv hO) | (refine own_st1 (hO := hO) (h := ?_); clear hO; intro wv hO))))
      go_ret
      exact ⟨_, rfl, ⟨by rw [E.out]; exact own_boxes hO List.mem_cons_self, own_new hO List.mem_cons_self⟩, hO.keep.below⟩

set_option maxHeartbeats 2000000 in
theorem rhull_any (v : Value) (l : List Bx) (w : World) (hv : IsBoxes w v l) (hm : l.length ≤ 9223372036854775807) :
    Calls Tryd.prog 32 #[v] w fun e w' => e = .returned (.tuple #[bv (hullL l).1, .bool (hullL l).2]) ∧ Below w.heap.size w w' := by
  have hO := own_arg hv
  obtain ⟨a, c, rfl, ha⟩ := hv.view
  clear hv
  go_enter Tryd.func32, Tryd.ntmps32
  go_wp2_with (first | ((with_reducible refine is_load ?_); (first | (refine own_ld (h := ?_)))) | ((with_reducible refine is_store ?_); (first | (refine own_stR (hO := hO) (h := ?_); clear hO; intro wv hO) | (refine own_st1 (hO := hO) (h := ?_); clear hO; intro wv hO))) | ((with_reducible refine is_alloc ?_); (first | (refine own_al (o := ⟨some 2, _, _, _, _, _⟩) (hO := hO) (h := ?_); clear hO; intro n2 wv hO) | (refine own_al (o := ⟨some 4, _, _, _, _, _⟩) (hO := hO) (h := ?_); clear hO; intro n4 wv hO))))
  go_loopw [5, 6] (fun f i wr => ∃ k : Nat, k ≤ l.length ∧ i = .int .i64 k ∧ f = .bool (hullL (l.take k)).2 ∧ Own [] w [⟨n4, bcs (hullL (l.take k)).1, 26⟩, ⟨n2, bcs zeroBx, 26⟩] [] (roS (.slice a l.length c) (cellsB l)) wr) (fun _ i _ => l.length - (intOf i).toNat)
  case atStart => exact ⟨0, by omega, rfl, rfl, hO⟩
  case round =>
    clear hO
    obtain ⟨k, hk, rfl, rfl, hO⟩ := hrel
    by_cases hlt : k < l.length
    · obtain ⟨g, o, rfl⟩ := ha (by omega)
      have HT := Lib.hid (hullL_take l hlt)
      simp only [roS] at hO
      have hvd := fun w => rvalid_any l[k] w
      cases hvb : vld l[k] <;> rw [hvb] at hvd
      · have HV := Lib.hid (show hullStep (hullL (l.take k)) l[k] = hullL (l.take k) by simp [hullStep, hvb])
        clear hvb
        go_wp2_with (first | ((with_reducible refine is_load ?_); (first | (refine own_ld (h := ?_)))) | ((with_reducible refine is_store ?_); (first | (refine own_stR (hO := hO) (h := ?_); clear hO; intro wv hO) | (refine own_st1 (hO := hO) (h := ?_); clear hO; intro wv hO))) | (go_at_call 43; refine (hvd _).mono ?_; rintro e wv ⟨rfl, hb⟩; replace hO := hO.call hb; clear hb))
        go_roundw
        case rel => exact ⟨k + 1, by omega, by go_num, by rw [HT.out, HV.out], by rw [HT.out, HV.out]; exact hO⟩
        case measure => simp [intOf]; omega
      · have HS : ∃ cur, hullStep (hullL (l.take k)) l[k] = (hullTo cur l[k], true) ∧ cur = (if (hullL (l.take k)).2 then (hullL (l.take k)).1 else l[k]) := ⟨_, by simp [hullStep, hvb], rfl⟩
        obtain ⟨cur, HV, hcur⟩ := HS
        replace HV := Lib.hid HV
        generalize hullL (l.take k) = s at *
        obtain ⟨cu, f⟩ := s
        have hput : putAt (bcs cu) 0 (bcs l[k]) = bcs l[k] := bput_all
        cases f <;> simp only [Bool.false_eq_true, if_false, if_true] at hcur <;> subst hcur
        · clear hvb
          go_wp2_with (first | ((with_reducible refine is_load ?_); (first | (refine own_ld (h := ?_)))) | ((with_reducible refine is_store ?_); (first | (refine own_stR (hO := hO) (h := ?_); clear hO; intro wv hO) | (refine own_st1 (hO := hO) (h := ?_); clear hO; intro wv hO))) | (go_at_call 43; refine (hvd _).mono ?_; rintro e wv ⟨rfl, hb⟩; replace hO := hO.call hb; clear hb))
          go_loopw [7] (fun i wr => ∃ j : Nat, j ≤ 5 ∧ i = .int .i64 j ∧ Own [] w [⟨n4, bcs (hullK l[k] l[k] j), 26⟩, ⟨n2, bcs zeroBx, 26⟩] [] [⟨g, o, cellsB l⟩] wr) (fun i _ => 5 - (intOf i).toNat)
          case atStart => exact ⟨0, by omega, rfl, by rw [hullK_zero]; exact hO⟩
          case round =>
            clear hO
            obtain ⟨j, hj, rfl, hO⟩ := hrel
            by_cases hjl : j < 5
            · have hat := hullK_at l[k] l[k] hjl
              have HK := Lib.hid (hullK_succ l[k] l[k] j)
              go_wp2_with (first | ((with_reducible refine is_load ?_); (first | (refine own_ld (h := ?_)))) | ((with_reducible refine is_store ?_); (first | (refine own_stR (hO := hO) (h := ?_); clear hO; intro wv hO) | (refine own_st1 (hO := hO) (h := ?_); clear hO; intro wv hO))))
              (try simp only [Act.put]); (refine own_tail 27 hO (by kernel_rfl) (by kernel_rfl) (by repeat (first | exact Split.zero _ | apply Split.succ)) ?_; clear hO; intro wv hO; (repeat ((refine wpStill_step (fun K hK => ?_)); (first | ((rw [if_pos (by rfl)]); (with_reducible refine is_loadS ?_); (first | (refine s_ld (h := ?_))); (try simp only [Act.put]); (try simp only [List.setIfInBounds_toArray, List.set_cons_zero, List.set_cons_succ]); (refine hK _ ?_); clear hK K) | (go_simp; (refine hK _ ?_); clear hK K)))); (refine wpStill_nil ?_))
              go_wp2_with (first | ((with_reducible refine is_load ?_); (first | (refine own_ld (h := ?_)))) | ((with_reducible refine is_store ?_); (first | (refine own_stR (hO := hO) (h := ?_); clear hO; intro wv hO) | (refine own_st1 (hO := hO) (h := ?_); clear hO; intro wv hO))))
              go_roundw
              case rel =>
                refine ⟨j + 1, by omega, by go_num, ?_⟩
                rw [← HK.out]
                first
                  | exact hO
                  | (simp only [Int.min_self, Int.max_self]; exact hO)
              case measure => simp [intOf]; omega
            · obtain rfl : j = 5 := by omega
              rw [hullK_five] at hO
              go_wp2_with (first | ((with_reducible refine is_load ?_); (first | (refine own_ld (h := ?_)))) | ((with_reducible refine is_store ?_); (first | (refine own_stR (hO := hO) (h := ?_); clear hO; intro wv hO) | (refine own_st1 (hO := hO) (h := ?_); clear hO; intro wv hO))))
              go_roundw
              case rel => exact ⟨k + 1, by omega, by go_num, by rw [HT.out, HV.out], by rw [HT.out, HV.out]; exact hO⟩
              case measure => simp [intOf]; omega
        · clear hvb
          go_wp2_with (first | ((with_reducible refine is_load ?_); (first | (refine own_ld (h := ?_)))) | ((with_reducible refine is_store ?_); (first | (refine own_stR (hO := hO) (h := ?_); clear hO; intro wv hO) | (refine own_st1 (hO := hO) (h := ?_); clear hO; intro wv hO))) | (go_at_call 43; refine (hvd _).mono ?_; rintro e wv ⟨rfl, hb⟩; replace hO := hO.call hb; clear hb))
          go_loopw [7] (fun i wr => ∃ j : Nat, j ≤ 5 ∧ i = .int .i64 j ∧ Own [] w [⟨n4, bcs (hullK cur l[k] j), 26⟩, ⟨n2, bcs zeroBx, 26⟩] [] [⟨g, o, cellsB l⟩] wr) (fun i _ => 5 - (intOf i).toNat)
          case atStart => exact ⟨0, by omega, rfl, by rw [hullK_zero]; exact hO⟩
          case round =>
            clear hO
            obtain ⟨j, hj, rfl, hO⟩ := hrel
            by_cases hjl : j < 5
            · have hat := hullK_at cur l[k] hjl
              have HK := Lib.hid (hullK_succ cur l[k] j)
              go_wp2_with (first | ((with_reducible refine is_load ?_); (first | (refine own_ld (h := ?_)))) | ((with_reducible refine is_store ?_); (first | (refine own_stR (hO := hO) (h := ?_); clear hO; intro wv hO) | (refine own_st1 (hO := hO) (h := ?_); clear hO; intro wv hO))))
              (try simp only [Act.put]); (refine own_tail 27 hO (by kernel_rfl) (by kernel_rfl) (by repeat (first | exact Split.zero _ | apply Split.succ)) ?_; clear hO; intro wv hO; (repeat ((refine wpStill_step (fun K hK => ?_)); (first | ((rw [if_pos (by rfl)]); (with_reducible refine is_loadS ?_); (first | (refine s_ld (h := ?_))); (try simp only [Act.put]); (try simp only [List.setIfInBounds_toArray, List.set_cons_zero, List.set_cons_succ]); (refine hK _ ?_); clear hK K) | (go_simp; (refine hK _ ?_); clear hK K)))); (refine wpStill_nil ?_))
              go_wp2_with (first | ((with_reducible refine is_load ?_); (first | (refine own_ld (h := ?_)))) | ((with_reducible refine is_store ?_); (first | (refine own_stR (hO := hO) (h := ?_); clear hO; intro wv hO) | (refine own_st1 (hO := hO) (h := ?_); clear hO; intro wv hO))))
              go_roundw
              case rel =>
                refine ⟨j + 1, by omega, by go_num, ?_⟩
                rw [← HK.out]
                first
                  | exact hO
                  | (simp only [Int.min_self, Int.max_self]; exact hO)
              case measure => simp [intOf]; omega
            · obtain rfl : j = 5 := by omega
              rw [hullK_five] at hO
              go_wp2_with (first | ((with_reducible refine is_load ?_); (first | (refine own_ld (h := ?_)))) | ((with_reducible refine is_store ?_); (first | (refine own_stR (hO := hO) (h := ?_); clear hO; intro wv hO) | (refine own_st1 (hO := hO) (h := ?_); clear hO; intro wv hO))))
              go_roundw
              case rel => exact ⟨k + 1, by omega, by go_num, by rw [HT.out, HV.out], by rw [HT.out, HV.out]; exact hO⟩
              case measure => simp [intOf]; omega
    · obtain rfl : k = l.length := by omega
      rw [List.take_length] at hO ⊢
      go_wp2_with (first | ((with_reducible refine is_load ?_); (first | (refine own_ld (h := ?_)))) | ((with_reducible refine is_store ?_); (first | (refine own_stR (hO := hO) (h := ?_); clear hO; intro wv hO) | (refine own_st1 (hO := hO) (h := ?_); clear hO; intro wv hO))))
      refine bodyPost_ret (own_res_cell_tmp hO Tryd.results32 rfl (by (repeat (first | exact List.mem_cons_self | refine List.mem_cons_of_mem _ ?_))) (by (exact row_len (by (with_reducible (first | exact row_Box | exact row_Range | exact row_Header | exact row_Five | exact row_Tape | exact row_Prefix | exact row_Truths | exact row_Packet))) (by rfl))) rfl rfl) rfl ⟨rfl, hO.keep.below⟩
end Go.Proofs.YtnhjcbmlplfpmaaDoor
