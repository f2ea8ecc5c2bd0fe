/- BoxMembers: intersections and differences contain exactly the headers that they should; the walk. -/
import Derived.Test.YtnhjcbmlplfpmaaDoorLawA
import Derived.Test.YtnhjcbmlplfpmaaDoorBoxLaw
namespace Go.Proofs.YtnhjcbmlplfpmaaDoor
open Go.RowKit
set_option maxRecDepth 100000

theorem cnt_le (h : Hd) (l : List Bx) (k : Nat) : cnt h (l.take k) ≤ cnt h l := by
  conv => rhs; rw [← List.take_append_drop k l]
  rw [cnt_append]; omega
theorem cnt_len (h : Hd) (l : List Bx) : cnt h l ≤ l.length := List.length_filter_le _ _
theorem own_offS {M : List Nat} {w0 w : World} {X : List Chunk} {R : List Row} {S : List Ro} (hO : Own M w0 X R S w) {v : Value} {l : List Bx} (h : IsOff (excl X R) w v l) :
    ∃ a c, v = .slice a l.length c ∧ (0 < l.length → ∃ g o, a = some ⟨g, o, none⟩) ∧ Own M w0 X R (roS (.slice a l.length c) (cellsB l) ++ S) w := by
  obtain ⟨rfl, rfl⟩ | ⟨g, o, c, rfl, hO⟩ := own_off hO h
  · exact ⟨none, 0, rfl, fun h => by simp at h, hO⟩
  · exact ⟨some ⟨g, o, none⟩, c, rfl, fun _ => ⟨g, o, rfl⟩, hO⟩
set_option maxHeartbeats 16000000 in
theorem members_law (a b : Bx) (h : Hd) (w : World) (ht : Tops w) (ka : a.ok) (kb : b.ok) (ho : h.ok) :
    Calls Tryd.prog 3 #[bv a, bv b, hv h] w fun e w' => e = .returned (.bool true) ∧ Below w.heap.size w w' := by
  have hO := own_tops ht
  have hsub := fun w ht => subtract_any a b w ht ka kb
  have hI := interB_has a b h
  have hvl := subtrB_vld a b
  have hcn := subtrB_cnt a b h
  have hle := subtrB_le a b
  have hss := @subB_has a b h
  have hin := fun w ht => intersect_any a b w ht
  generalize subtrB a b = l at *
  generalize interB a b = r at *
  obtain ⟨c, ok⟩ := r
  dsimp only at hI hin
  have HV := Lib.hid hvl
  clear hvl
  have hcl := cnt_le h l
  have HL := Lib.hid hcl
  clear hcl
  cases hx : hasB a h <;> cases hy : hasB b h <;> cases ok <;> simp only [hx, hy, Bool.false_and, Bool.true_and, Bool.and_false, Bool.and_true, Bool.not_true, Bool.not_false, Bool.false_eq_true, if_false, if_true] at hI hcn hss <;> (try (cases hI; done))
  all_goals
    have HC := Lib.hid hcn
    have HS := Lib.hid hss
    clear hcn hss
    go_enter Tryd.func3, Tryd.ntmps3
    go_wp2_with (first | ((with_reducible refine is_load ?_); (first | (refine own_ld (h := ?_)))) | ((with_reducible refine is_store ?_); (first | (refine own_stR (hO := hO) (h := ?_); clear hO; intro wv hO) | (refine own_st1 (hO := hO) (h := ?_); clear hO; intro wv hO))) | ((with_reducible refine is_box ?_); (first | (refine own_bx (o := ⟨some 3, _, _, _, _, _⟩) (hO := hO) (h := ?_); clear hO; intro n3 wv hO) | (refine own_bx (o := ⟨some 4, _, _, _, _, _⟩) (hO := hO) (h := ?_); clear hO; intro n4 wv hO) | (refine own_bx (o := ⟨some 5, _, _, _, _, _⟩) (hO := hO) (h := ?_); clear hO; intro n5 wv hO))))
    (try simp only [Act.put]); (refine own_quiet hO (by kernel_rfl) (by kernel_rfl) ?_; clear hO; (repeat (first | go_big_quiet_skip | (go_big_quiet_want; (first | ((with_reducible refine is_loadQ ?_); (first | (refine q_ld (h := ?_))); (try simp only [Act.put]); (try simp only [List.setIfInBounds_toArray, List.set_cons_zero, List.set_cons_succ]); go_big_quiet_on) | (go_big_quiet_op; (first | go_big_quiet_on | ((refine ⟨_, fun _ _ => rfl, ?_⟩); go_big_quiet_on) | go_big_quiet_call ((intro hq; go_at_call 10; exact q_call (contains_any _ _ _ (hq.tops ht (by simp)) ho) hq)))))))); (refine wpQuiet_nil ?_); intro wv hO)
    go_wp2_with (first | ((with_reducible refine is_load ?_); (first | (refine own_ld (h := ?_)))) | ((with_reducible refine is_store ?_); (first | (refine own_stR (hO := hO) (h := ?_); clear hO; intro wv hO) | (refine own_st1 (hO := hO) (h := ?_); clear hO; intro wv hO))) | ((with_reducible refine is_alloc ?_); (first | (refine own_al (o := ⟨some 9, _, _, _, _, _⟩) (hO := hO) (h := ?_); clear hO; intro n9 wv hO))) | (go_at_call 11; refine (hin _ (hO.tops ht (by simp))).mono ?_; rintro e wv ⟨rfl, hb⟩; replace hO := hO.call hb; clear hb) | (go_at_call 10; refine (contains_any _ _ _ (hO.tops ht (by simp)) ho).mono ?_; rintro e wv ⟨rfl, hb⟩; replace hO := hO.call hb; clear hb) | (go_at_call 12; refine (hsub _ (hO.tops ht (by simp))).mono ?_; rintro e wv ⟨v, rfl, ⟨hv, hn⟩, hb⟩; have hsl := And.intro hv (off_of_new hO hn); replace hO := hO.call hb; clear hb hv hn))
    obtain ⟨a0, cp, rfl, ha, hO⟩ := own_offS hO hsl
    clear hsl hsub
    skip
    go_loopw [11, 13] (fun n i wr => ∃ k : Nat, k ≤ l.length ∧ i = .int .i64 k ∧ n = .int .i64 (cnt h (l.take k) : Nat) ∧ Own [] w [⟨n9, bcs c, 26⟩, ⟨n5, hcs h, 29⟩, ⟨n4, bcs b, 26⟩, ⟨n3, bcs a, 26⟩] [] (roS (.slice a0 l.length cp) (cellsB l) ++ [⟨0, 0, topsL⟩]) wr) (fun _ i _ => l.length - (intOf i).toNat)
    case atStart => exact ⟨0, by omega, rfl, rfl, hO⟩
    case round =>
      clear hO
      obtain ⟨k, hk, rfl, rfl, hO⟩ := hrel
      by_cases hlt : k < l.length
      · obtain ⟨g, o, rfl⟩ := ha (by omega)
        have hv := HV.out _ (List.getElem_mem hlt)
        have HT := Lib.hid (cnt_take h l hlt)
        have hc1 := HL.out k
        have hc2 : ((cnt h (l.take k) : Nat) : Int) ≤ 10 := by have := cnt_len h l; omega
        have hcon := fun w ht => contains_any l[k] h w ht ho
        have HT := Lib.hid HT.out
        simp only [roS] at hO
        cases hb : hasB l[k] h <;> rw [hb] at hcon
        · go_wp2_with (first | ((with_reducible refine is_load ?_); (first | (refine own_ld (h := ?_)))) | ((with_reducible refine is_store ?_); (first | (refine own_stR (hO := hO) (h := ?_); clear hO; intro wv hO) | (refine own_st1 (hO := hO) (h := ?_); clear hO; intro wv hO))) | (go_at_call 13; refine (valid_any _ _ (hO.tops ht (by simp))).mono ?_; rintro e wv ⟨rfl, hb⟩; replace hO := hO.call hb; clear hb))
          (try simp only [Act.put]); (refine own_quiet hO (by kernel_rfl) (by kernel_rfl) ?_; clear hO; (repeat (first | go_big_quiet_skip | (go_big_quiet_want; (first | ((with_reducible refine is_loadQ ?_); (first | (refine q_ld (h := ?_))); (try simp only [Act.put]); (try simp only [List.setIfInBounds_toArray, List.set_cons_zero, List.set_cons_succ]); go_big_quiet_on) | (go_big_quiet_op; (first | go_big_quiet_on | ((refine ⟨_, fun _ _ => rfl, ?_⟩); go_big_quiet_on) | go_big_quiet_call ((intro hq; go_at_call 10; exact q_call (hcon _ (hq.tops ht (by simp))) hq)))))))); (refine wpQuiet_nil ?_); intro wv hO)
          go_wp2_with (first | ((with_reducible refine is_load ?_); (first | (refine own_ld (h := ?_)))) | ((with_reducible refine is_store ?_); (first | (refine own_stR (hO := hO) (h := ?_); clear hO; intro wv hO) | (refine own_st1 (hO := hO) (h := ?_); clear hO; intro wv hO))))
          go_roundw
          case rel => exact ⟨k + 1, by omega, by go_num, by rw [HT.out, hb]; rfl, hO⟩
          case measure => simp [intOf]; omega
        · have hb1 : (if hasB l[k] h = true then 1 else 0) = 1 := by rw [if_pos hb]
          go_wp2_with (first | ((with_reducible refine is_load ?_); (first | (refine own_ld (h := ?_)))) | ((with_reducible refine is_store ?_); (first | (refine own_stR (hO := hO) (h := ?_); clear hO; intro wv hO) | (refine own_st1 (hO := hO) (h := ?_); clear hO; intro wv hO))) | (go_at_call 13; refine (valid_any _ _ (hO.tops ht (by simp))).mono ?_; rintro e wv ⟨rfl, hb⟩; replace hO := hO.call hb; clear hb))
          (try simp only [Act.put]); (refine own_quiet hO (by kernel_rfl) (by kernel_rfl) ?_; clear hO; (repeat (first | go_big_quiet_skip | (go_big_quiet_want; (first | ((with_reducible refine is_loadQ ?_); (first | (refine q_ld (h := ?_))); (try simp only [Act.put]); (try simp only [List.setIfInBounds_toArray, List.set_cons_zero, List.set_cons_succ]); go_big_quiet_on) | (go_big_quiet_op; (first | go_big_quiet_on | ((refine ⟨_, fun _ _ => rfl, ?_⟩); go_big_quiet_on) | go_big_quiet_call ((intro hq; go_at_call 10; exact q_call (hcon _ (hq.tops ht (by simp))) hq)))))))); (refine wpQuiet_nil ?_); intro wv hO)
          go_wp2_with (first | ((with_reducible refine is_load ?_); (first | (refine own_ld (h := ?_)))) | ((with_reducible refine is_store ?_); (first | (refine own_stR (hO := hO) (h := ?_); clear hO; intro wv hO) | (refine own_st1 (hO := hO) (h := ?_); clear hO; intro wv hO))))
          go_roundw
          case rel => exact ⟨k + 1, by omega, by go_num, by rw [HT.out, hb1]; go_num, hO⟩
          case measure => simp [intOf]; omega
      · obtain rfl : k = l.length := by omega
        rw [List.take_length] at *
        rw [HC.out] at *
        have hd : decide ((l.length : Int) ≤ 10) = true := by simp; omega
        cases hs : subB a b
        · go_wp2_with (first | ((with_reducible refine is_load ?_); (first | (refine own_ld (h := ?_)))) | ((with_reducible refine is_store ?_); (first | (refine own_stR (hO := hO) (h := ?_); clear hO; intro wv hO) | (refine own_st1 (hO := hO) (h := ?_); clear hO; intro wv hO))) | (go_at_call 14; refine (subset_any _ _ _ (hO.tops ht (by simp))).mono ?_; rintro e wv ⟨rfl, hb⟩; replace hO := hO.call hb; clear hb) | (go_at_call 15; refine (sane_any _ (hO.tops ht (by simp))).mono ?_; rintro e wv ⟨rfl, hb⟩; replace hO := hO.call hb; clear hb))
          go_ret
          exact ⟨rfl, hO.keep.below⟩
        · first | exact (show False by simpa [hs] using HS.out).elim | skip
          all_goals
            go_wp2_with (first | ((with_reducible refine is_load ?_); (first | (refine own_ld (h := ?_)))) | ((with_reducible refine is_store ?_); (first | (refine own_stR (hO := hO) (h := ?_); clear hO; intro wv hO) | (refine own_st1 (hO := hO) (h := ?_); clear hO; intro wv hO))) | (go_at_call 14; refine (subset_any _ _ _ (hO.tops ht (by simp))).mono ?_; rintro e wv ⟨rfl, hb⟩; replace hO := hO.call hb; clear hb) | (go_at_call 15; refine (sane_any _ (hO.tops ht (by simp))).mono ?_; rintro e wv ⟨rfl, hb⟩; replace hO := hO.call hb; clear hb))
            go_ret
            exact ⟨rfl, hO.keep.below⟩
end Go.Proofs.YtnhjcbmlplfpmaaDoor
