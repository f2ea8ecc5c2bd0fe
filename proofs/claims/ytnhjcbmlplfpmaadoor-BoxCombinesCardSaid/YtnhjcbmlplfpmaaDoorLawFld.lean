/- BoxFields: With changes one field; the walk. Top, Value, With for every field. -/
import Derived.Test.YtnhjcbmlplfpmaaDoorLawA
namespace Go.Proofs.YtnhjcbmlplfpmaaDoor
open Go.RowKit
set_option maxRecDepth 100000

theorem mod_any (v n : Int) (w : World) (_ : -9223372036854775808 ≤ v ∧ v ≤ 9223372036854775807) (h0 : 0 < n) (h1 : n ≤ 9223372036854775807) : Calls Tryd.prog 23 #[.int .i64 v, .int .i64 n] w fun e w' => (∃ r, 0 ≤ r ∧ r < n ∧ e = .returned (.int .i64 r)) ∧ w = w' := by
  have hn : (n == 0) = false := by simp; omega
  have hn2 : n ≠ 0 := by omega
  have e1 : IntKind.u64.wrap n = n := by simp [IntKind.wrap, IntKind.signed, IntKind.bits]; omega
  have ⟨r, hr, hr0, hr1⟩ : ∃ r, (IntKind.u64.wrap v).tmod n = r ∧ 0 ≤ r ∧ r < n := ⟨_, rfl, by
    have : 0 ≤ IntKind.u64.wrap v := by simp [IntKind.wrap, IntKind.signed, IntKind.bits]; omega
    exact Int.tmod_nonneg _ this, Int.tmod_lt_of_pos _ h0⟩
  have e2 : IntKind.i64.wrap r = r := by simp [IntKind.wrap, IntKind.signed, IntKind.bits]; omega
  have e3 : IntKind.u64.wrap r = r := by simp [IntKind.wrap, IntKind.signed, IntKind.bits]; omega
  go_enter Tryd.func23, Tryd.ntmps23
  go_wp2
  go_ret
  exact ⟨⟨r, hr0, hr1, rfl⟩, rfl⟩

def topI (f : Int) : Int := if 0 ≤ f ∧ f < 5 then topOf f.toNat else 0
def valI (h : Hd) (f : Int) : Int := if 0 ≤ f ∧ f < 5 then h.at f.toNat else 0
theorem nat_of {f : Int} (h0 : 0 ≤ f) (h1 : f < 5) : ∃ k : Nat, f = k ∧ k < 5 := ⟨f.toNat, by omega, by omega⟩
theorem topI_nat {k : Nat} (h : k < 5) : topI k = topOf k := by unfold topI; rw [if_pos ⟨by omega, by omega⟩]; rfl
theorem valI_nat (x : Hd) {k : Nat} (h : k < 5) : valI x k = x.at k := by unfold valI; rw [if_pos ⟨by omega, by omega⟩]; rfl
theorem top_all (f : Int) (w : World) (ht : Tops w) : Calls Tryd.prog 26 #[.int .i64 f] w fun e w' => e = .returned (.int .u32 (topI f)) ∧ w = w' := by
  by_cases h0 : 0 ≤ f
  · by_cases h1 : f < 5
    · obtain ⟨k, rfl, hk⟩ := nat_of h0 h1
      rw [topI_nat hk]; exact top_any k w ht hk
    · rw [show topI f = 0 by unfold topI; rw [if_neg (by omega)]]; exact top_out f w (by omega)
  · rw [show topI f = 0 by unfold topI; rw [if_neg (by omega)]]; exact top_out f w (by omega)
theorem value_all (h : Hd) (f : Int) (w : World) (ho : h.ok) : Calls Tryd.prog 25 #[hv h, .int .i64 f] w fun e w' => e = .returned (.int .u32 (valI h f)) ∧ Below w.heap.size w w' := by
  by_cases h0 : 0 ≤ f
  · by_cases h1 : f < 5
    · obtain ⟨k, rfl, hk⟩ := nat_of h0 h1
      rw [valI_nat h hk]; exact value_any h k w ho hk
    · rw [show valI h f = 0 by unfold valI; rw [if_neg (by omega)]]; exact value_out h f w (by omega)
  · rw [show valI h f = 0 by unfold valI; rw [if_neg (by omega)]]; exact value_out h f w (by omega)
theorem with_all (h : Hd) (f v : Int) (w : World) (ht : Tops w) (ho : h.ok) (h0 : 0 ≤ v) : Calls Tryd.prog 24 #[hv h, .int .i64 f, .int .u32 v] w fun e w' => e = .returned (hv (withHd h f v)) ∧ Below w.heap.size w w' := by
  by_cases p0 : 0 ≤ f
  · by_cases p1 : f < 5
    · obtain ⟨k, rfl, hk⟩ := nat_of p0 p1
      exact with_in h k v w ht hk ho h0
    · rw [show withHd h f v = h by unfold withHd; rw [if_neg (by omega)]]; exact with_out h f v w (by omega)
  · rw [show withHd h f v = h by unfold withHd; rw [if_neg (by omega)]]; exact with_out h f v w (by omega)

/-! ### the plain law -/
theorem Hd.at_of (p : Nat → Int) {k : Nat} (h : k < 5) : (Hd.of p).at k = p k := by rcases five h with rfl | rfl | rfl | rfl | rfl <;> rfl
theorem Hd.at_set (x : Hd) (k : Nat) (v : Int) {i : Nat} (h : i < 5) : (x.set k v).at i = if i = k then v else x.at i := Hd.at_of _ h
theorem Hd.of_at (x : Hd) : Hd.of x.at = x := rfl
theorem Hd.ext_at {x y : Hd} (h : ∀ k, k < 5 → x.at k = y.at k) : x = y := by
  rw [← Hd.of_at x, ← Hd.of_at y]
  simp [Hd.of, h 0, h 1, h 2, h 3, h 4]
theorem Hd.at_le {x : Hd} (h : x.ok) {k : Nat} (hk : k < 5) : 0 ≤ x.at k ∧ x.at k ≤ topOf k := by
  obtain ⟨⟨a0, a1⟩, ⟨b0, b1⟩, ⟨c0, c1⟩, ⟨d0, d1⟩, e0, e1⟩ := h
  rcases five hk with rfl | rfl | rfl | rfl | rfl <;> exact ⟨by assumption, by assumption⟩
theorem withHd_ok {x : Hd} (h : x.ok) (f : Int) {v : Int} (h0 : 0 ≤ v) : (withHd x f v).ok := by
  unfold withHd; split
  · rename_i hc
    obtain ⟨p0, p1, p2⟩ := hc
    exact Hd.set_ok h h0 p2 (by omega)
  · exact h
theorem withHd_at (x : Hd) {k i : Nat} (hk : k < 5) (hi : i < 5) (v : Int) : (withHd x k v).at i = if i = k ∧ v ≤ topOf k then v else x.at i := by
  unfold withHd
  by_cases h : v ≤ topOf k
  · rw [if_pos ⟨by omega, by omega, by simpa using h⟩, Hd.at_set _ _ _ hi]; simp [h]
  · rw [if_neg (by simp; intros; omega)]; simp [h]
theorem withHd_self {x : Hd} (_ : x.ok) {k : Nat} (hk : k < 5) : withHd x k (valI x k) = x := Hd.ext_at fun i hi => by
  rw [valI_nat x hk, withHd_at x hk hi]
  split
  · rename_i h; rw [h.1]
  · rfl
theorem withHd_out (x : Hd) (f v : Int) (h : f < 0 ∨ 5 ≤ f) : withHd x f v = x := by unfold withHd; rw [if_neg (by omega)]

/-! ### the walk -/
set_option maxHeartbeats 2000000 in
theorem fields_law (h : Hd) (f v : Int) (w : World) (ht : Tops w) (ho : h.ok) (hf : -9223372036854775808 ≤ f ∧ f ≤ 9223372036854775807) (h0 : 0 ≤ v) :
    Calls Tryd.prog 6 #[hv h, .int .i64 f, .int .u32 v] w fun e w' => e = .returned (.bool true) ∧ Below w.heap.size w w' := by
  have hO := own_tops ht
  go_enter Tryd.func6, Tryd.ntmps6
  go_wp2_with (first | ((with_reducible refine is_load ?_); (first | (refine own_ld (h := ?_)))) | ((with_reducible refine is_store ?_); (first | (refine own_stR (hO := hO) (h := ?_); clear hO; intro wv hO) | (refine own_st1 (hO := hO) (h := ?_); clear hO; intro wv hO))) | ((with_reducible refine is_box ?_); (first | (refine own_bx (o := ⟨some 3, _, _, _, _, _⟩) (hO := hO) (h := ?_); clear hO; intro n3 wv hO))) | ((with_reducible refine is_alloc ?_); (first | (refine own_al (o := ⟨some 8, _, _, _, _, _⟩) (hO := hO) (h := ?_); clear hO; intro n8 wv hO))) | (go_at_call 23; refine (mod_any _ _ _ hf (by decide) (by decide)).mono ?_; rintro e _ ⟨⟨r, hr0, hr1, rfl⟩, rfl⟩; obtain ⟨k, rfl, hk⟩ := nat_of hr0 hr1; clear hr0 hr1) | (go_at_call 24; refine (with_all h _ _ _ (hO.tops ht (by simp)) ho h0).mono ?_; rintro e wv ⟨rfl, hb⟩; replace hO := hO.call hb; clear hb))
  have hgo := withHd_ok ho k h0
  have hw := fun i hi => withHd_at h (i := i) hk hi v
  have e1 := withHd_self ho hk
  have e2 := withHd_out h (-1) v (by omega)
  have e3 := withHd_out h 5 v (by omega)
  have ht1 := topI_nat hk
  have hv1 : 0 ≤ valI h k := by rw [valI_nat h hk]; exact (Hd.at_le ho hk).1
  generalize hg : withHd h k v = g at *
  go_loopw [9] (fun i wr => ∃ j : Nat, j ≤ 5 ∧ i = .int .i64 j ∧ Own [] w [⟨n8, hcs g, 29⟩, ⟨n3, hcs h, 29⟩] [] [⟨0, 0, topsL⟩] wr) (fun i _ => 5 - (intOf i).toNat)
  case atStart => exact ⟨0, by omega, rfl, hO⟩
  case round =>
    clear hO
    obtain ⟨j, hj, rfl, hO⟩ := hrel
    by_cases hjl : j < 5
    · have hwj := hw j hjl
      have a1 := valI_nat h hjl
      have a2 := valI_nat g hjl
      by_cases hjk : j = k
      · subst hjk
        by_cases hle : v ≤ topOf j
        · have hd : decide (v ≤ topOf j) = true := by simp [hle]
          rw [if_pos ⟨rfl, hle⟩] at hwj
          rw [hwj] at a2
          clear hg e1
          go_wp2_with (first | ((with_reducible refine is_load ?_); (first | (refine own_ld (h := ?_)))) | ((with_reducible refine is_store ?_); (first | (refine own_stR (hO := hO) (h := ?_); clear hO; intro wv hO) | (refine own_st1 (hO := hO) (h := ?_); clear hO; intro wv hO))) | (go_at_call 25; refine (value_all _ _ _ (by first | exact ho | exact hgo)).mono ?_; rintro e wv ⟨rfl, hb⟩; replace hO := hO.call hb; clear hb) | (go_at_call 26; refine (top_all _ _ (hO.tops ht (by simp))).mono ?_; rintro e _ ⟨rfl, rfl⟩))
          go_roundw
          case rel => exact ⟨j + 1, by omega, by go_num, hO⟩
          case measure => simp [intOf]; omega
        · have hd : decide (v ≤ topOf j) = false := by simp [hle]
          rw [if_neg (by simp [hle])] at hwj
          rw [hwj] at a2
          clear hg e1
          go_wp2_with (first | ((with_reducible refine is_load ?_); (first | (refine own_ld (h := ?_)))) | ((with_reducible refine is_store ?_); (first | (refine own_stR (hO := hO) (h := ?_); clear hO; intro wv hO) | (refine own_st1 (hO := hO) (h := ?_); clear hO; intro wv hO))) | (go_at_call 25; refine (value_all _ _ _ (by first | exact ho | exact hgo)).mono ?_; rintro e wv ⟨rfl, hb⟩; replace hO := hO.call hb; clear hb) | (go_at_call 26; refine (top_all _ _ (hO.tops ht (by simp))).mono ?_; rintro e _ ⟨rfl, rfl⟩))
          go_roundw
          case rel => exact ⟨j + 1, by omega, by go_num, hO⟩
          case measure => simp [intOf]; omega
      · have hne : ((j : Int) == (k : Int)) = false := by simp; omega
        rw [if_neg (by simp [hjk])] at hwj
        rw [hwj] at a2
        clear hg e1
        go_wp2_with (first | ((with_reducible refine is_load ?_); (first | (refine own_ld (h := ?_)))) | ((with_reducible refine is_store ?_); (first | (refine own_stR (hO := hO) (h := ?_); clear hO; intro wv hO) | (refine own_st1 (hO := hO) (h := ?_); clear hO; intro wv hO))) | (go_at_call 25; refine (value_all _ _ _ (by first | exact ho | exact hgo)).mono ?_; rintro e wv ⟨rfl, hb⟩; replace hO := hO.call hb; clear hb) | (go_at_call 26; refine (top_all _ _ (hO.tops ht (by simp))).mono ?_; rintro e _ ⟨rfl, rfl⟩))
        go_roundw
        case rel => exact ⟨j + 1, by omega, by go_num, hO⟩
        case measure => simp [intOf]; omega
    · obtain rfl : j = 5 := by omega
      clear hg
      go_wp2_with (first | ((with_reducible refine is_load ?_); (first | (refine own_ld (h := ?_)))) | ((with_reducible refine is_store ?_); (first | (refine own_stR (hO := hO) (h := ?_); clear hO; intro wv hO) | (refine own_st1 (hO := hO) (h := ?_); clear hO; intro wv hO))))
      (try simp only [Act.put]); (refine own_quiet hO (by kernel_rfl) (by kernel_rfl) ?_; clear hO; (repeat (first | go_big_quiet_skip | (go_big_quiet_want; (first | ((with_reducible refine is_loadQ ?_); (first | (refine q_ld (h := ?_))); (try simp only [Act.put]); (try simp only [List.setIfInBounds_toArray, List.set_cons_zero, List.set_cons_succ]); go_big_quiet_on) | (go_big_quiet_op; (first | go_big_quiet_on | ((refine ⟨_, fun _ _ => rfl, ?_⟩); go_big_quiet_on) | go_big_quiet_call ((first | (intro hq; go_at_call 25; exact q_call (value_all h _ _ ho) hq) | (intro hq; go_at_call 24; exact q_call (with_all h _ _ _ (hq.tops ht (by simp)) ho (by assumption)) hq) | (intro hq; go_at_call 15; exact q_call (sane_any _ (hq.tops ht (by simp))) hq))))))))); (refine wpQuiet_nil ?_); intro wv hO)
      go_wp2_with (first | ((with_reducible refine is_load ?_); (first | (refine own_ld (h := ?_)))) | ((with_reducible refine is_store ?_); (first | (refine own_stR (hO := hO) (h := ?_); clear hO; intro wv hO) | (refine own_st1 (hO := hO) (h := ?_); clear hO; intro wv hO))))
      go_ret
      exact ⟨rfl, hO.keep.below⟩
end Go.Proofs.YtnhjcbmlplfpmaaDoor
