/- Contracts of the package box (second part): Valid, Contains, Subset, Intersect. -/
import Derived.Test.YtnhjcbmlplfpmaaDoorBoxA
namespace Go.Proofs.YtnhjcbmlplfpmaaDoor
open Go.RowKit

def vldTo (b : Bx) (k : Nat) : Prop := ∀ i, i < k → (b.at i).lo ≤ (b.at i).hi ∧ (b.at i).hi ≤ topOf i
instance (b : Bx) (k : Nat) : Decidable (vldTo b k) := inferInstanceAs (Decidable (∀ i, i < k → _))
def vld (b : Bx) : Bool := decide (vldTo b 5)
theorem vldTo_snoc {b : Bx} {k : Nat} (h : vldTo b k) (h1 : (b.at k).lo ≤ (b.at k).hi) (h2 : (b.at k).hi ≤ topOf k) : vldTo b (k + 1) := fun i hi => by
  by_cases e : i = k
  · subst e; exact ⟨h1, h2⟩
  · exact h i (by omega)
theorem vld_no {b : Bx} {k : Nat} (hk : k < 5) (h1 : ¬ ((b.at k).lo ≤ (b.at k).hi ∧ (b.at k).hi ≤ topOf k)) : vld b = false := by
  unfold vld; exact decide_eq_false fun h => h1 (h k hk)
theorem vld_yes {b : Bx} (h : vldTo b 5) : vld b = true := decide_eq_true h
theorem vld_iff {b : Bx} : vld b = true ↔ vldTo b 5 := by unfold vld; simp
theorem ret_bool {a b : Bool} (h : a = b) : Ending.returned (.bool a) = .returned (.bool b) := by rw [h]
theorem ret_int {k : IntKind} {a b : Int} (h : a = b) : Ending.returned (.int k a) = .returned (.int k b) := by rw [h]

set_option maxRecDepth 100000 in
set_option maxHeartbeats 400000 in
theorem valid_any (b : Bx) (w : World) (ht : Tops w) :
    Calls Tryd.prog 13 #[bv b] w fun e w' => e = .returned (.bool (vld b)) ∧ Below w.heap.size w w' := by
  have hO := own_tops ht
  go_enter Tryd.func13, Tryd.ntmps13
  go_wp2_with (first | ((with_reducible refine is_load ?_); (first | (refine own_ld (h := ?_)))) | ((with_reducible refine is_store ?_); (first | (refine own_stR (hO := hO) (h := ?_); clear hO; intro wv hO) | (refine own_st1 (hO := hO) (h := ?_); clear hO; intro wv hO))) | ((with_reducible refine is_box ?_); (first | (refine own_bx (o := ⟨some 1, _, _, _, _, _⟩) (hO := hO) (h := ?_); clear hO; intro n1 wv hO))))
  go_loopw [6] (fun i wr => ∃ k : Nat, k ≤ 5 ∧ i = .int .i64 k ∧ vldTo b k ∧ Own [] w [⟨n1, bcs b, 26⟩] [] [⟨0, 0, topsL⟩] wr) (fun i _ => 5 - (intOf i).toNat)
  case atStart => exact ⟨0, by omega, rfl, fun i hi => by omega, hO⟩
  case round =>
    clear hO
    obtain ⟨k, hk, rfl, hv, hO⟩ := hrel
    have HV := Lib.hid hv
    clear hv
    by_cases hlt : k < 5
    · have hix := fun w => ixb_at w b hlt
      by_cases h1 : (b.at k).lo ≤ (b.at k).hi
      · have h1' : decide ((b.at k).hi < (b.at k).lo) = false := by simp; omega
        by_cases h2 : (b.at k).hi ≤ topOf k
        · have h2' : decide (topOf k < (b.at k).hi) = false := by simp; omega
          go_wp2_with (first | ((with_reducible refine is_load ?_); (first | (refine own_ld (h := ?_)))) | ((with_reducible refine is_store ?_); (first | (refine own_stR (hO := hO) (h := ?_); clear hO; intro wv hO) | (refine own_st1 (hO := hO) (h := ?_); clear hO; intro wv hO))) | ((with_reducible refine is_alloc ?_); (first | (refine own_al (o := ⟨some 4, _, _, _, _, _⟩) (hO := hO) (h := ?_); clear hO; intro n4 wv hO))))
          (try simp only [Act.put]); (refine own_quiet hO (by kernel_rfl) (by kernel_rfl) ?_; clear hO; (repeat (first | go_big_quiet_skip | (go_big_quiet_want; (first | ((with_reducible refine is_loadQ ?_); (first | (refine q_ld (h := ?_))); (try simp only [Act.put]); (try simp only [List.setIfInBounds_toArray, List.set_cons_zero, List.set_cons_succ]); go_big_quiet_on) | (go_big_quiet_op; (first | go_big_quiet_on | ((refine ⟨_, fun _ _ => rfl, ?_⟩); go_big_quiet_on) | go_big_quiet_call (fail))))))); (refine wpQuiet_nil ?_); intro wv hO)
          go_wp2_with (first | ((with_reducible refine is_load ?_); (first | (refine own_ld (h := ?_)))) | ((with_reducible refine is_store ?_); (first | (refine own_stR (hO := hO) (h := ?_); clear hO; intro wv hO) | (refine own_st1 (hO := hO) (h := ?_); clear hO; intro wv hO))))
          go_roundw
          case rel => exact ⟨k + 1, by omega, by go_num, vldTo_snoc HV.out h1 h2, hO.sub (.cons _ (.refl _)) (.refl _) (fun _ h => h)⟩
          case measure => simp [intOf]; omega
        · have h2' : decide (topOf k < (b.at k).hi) = true := by simp; omega
          have HF := Lib.hid (vld_no hlt (fun h => h2 h.2))
          go_wp2_with (first | ((with_reducible refine is_load ?_); (first | (refine own_ld (h := ?_)))) | ((with_reducible refine is_store ?_); (first | (refine own_stR (hO := hO) (h := ?_); clear hO; intro wv hO) | (refine own_st1 (hO := hO) (h := ?_); clear hO; intro wv hO))) | ((with_reducible refine is_alloc ?_); (first | (refine own_al (o := ⟨some 4, _, _, _, _, _⟩) (hO := hO) (h := ?_); clear hO; intro n4 wv hO))))
          (try simp only [Act.put]); (refine own_quiet hO (by kernel_rfl) (by kernel_rfl) ?_; clear hO; (repeat (first | go_big_quiet_skip | (go_big_quiet_want; (first | ((with_reducible refine is_loadQ ?_); (first | (refine q_ld (h := ?_))); (try simp only [Act.put]); (try simp only [List.setIfInBounds_toArray, List.set_cons_zero, List.set_cons_succ]); go_big_quiet_on) | (go_big_quiet_op; (first | go_big_quiet_on | ((refine ⟨_, fun _ _ => rfl, ?_⟩); go_big_quiet_on) | go_big_quiet_call (fail))))))); (refine wpQuiet_nil ?_); intro wv hO)
          go_wp2_with (first | ((with_reducible refine is_load ?_); (first | (refine own_ld (h := ?_)))) | ((with_reducible refine is_store ?_); (first | (refine own_stR (hO := hO) (h := ?_); clear hO; intro wv hO) | (refine own_st1 (hO := hO) (h := ?_); clear hO; intro wv hO))))
          go_ret
          exact ⟨ret_bool HF.out.symm, hO.keep.below⟩
      · have h1' : decide ((b.at k).hi < (b.at k).lo) = true := by simp; omega
        have HF := Lib.hid (vld_no hlt (fun h => h1 h.1))
        go_wp2_with (first | ((with_reducible refine is_load ?_); (first | (refine own_ld (h := ?_)))) | ((with_reducible refine is_store ?_); (first | (refine own_stR (hO := hO) (h := ?_); clear hO; intro wv hO) | (refine own_st1 (hO := hO) (h := ?_); clear hO; intro wv hO))) | ((with_reducible refine is_alloc ?_); (first | (refine own_al (o := ⟨some 4, _, _, _, _, _⟩) (hO := hO) (h := ?_); clear hO; intro n4 wv hO))))
        (try simp only [Act.put]); (refine own_quiet hO (by kernel_rfl) (by kernel_rfl) ?_; clear hO; (repeat (first | go_big_quiet_skip | (go_big_quiet_want; (first | ((with_reducible refine is_loadQ ?_); (first | (refine q_ld (h := ?_))); (try simp only [Act.put]); (try simp only [List.setIfInBounds_toArray, List.set_cons_zero, List.set_cons_succ]); go_big_quiet_on) | (go_big_quiet_op; (first | go_big_quiet_on | ((refine ⟨_, fun _ _ => rfl, ?_⟩); go_big_quiet_on) | go_big_quiet_call (fail))))))); (refine wpQuiet_nil ?_); intro wv hO)
        go_wp2_with (first | ((with_reducible refine is_load ?_); (first | (refine own_ld (h := ?_)))) | ((with_reducible refine is_store ?_); (first | (refine own_stR (hO := hO) (h := ?_); clear hO; intro wv hO) | (refine own_st1 (hO := hO) (h := ?_); clear hO; intro wv hO))))
        go_ret
        exact ⟨ret_bool HF.out.symm, hO.keep.below⟩
    · go_wp2_with (first | ((with_reducible refine is_load ?_); (first | (refine own_ld (h := ?_)))) | ((with_reducible refine is_store ?_); (first | (refine own_stR (hO := hO) (h := ?_); clear hO; intro wv hO) | (refine own_st1 (hO := hO) (h := ?_); clear hO; intro wv hO))))
      go_ret
      exact ⟨ret_bool (vld_yes (fun i hi => HV.out i (by omega))).symm, hO.keep.below⟩

def inTo (b : Bx) (h : Hd) (k : Nat) : Prop := ∀ i, i < k → (b.at i).lo ≤ h.at i ∧ h.at i ≤ (b.at i).hi
instance (b : Bx) (h : Hd) (k : Nat) : Decidable (inTo b h k) := inferInstanceAs (Decidable (∀ i, i < k → _))
def hasB (b : Bx) (h : Hd) : Bool := vld b && decide (inTo b h 5)
theorem inTo_snoc {b : Bx} {h : Hd} {k : Nat} (h0 : inTo b h k) (h1 : (b.at k).lo ≤ h.at k) (h2 : h.at k ≤ (b.at k).hi) : inTo b h (k + 1) := fun i hi => by
  by_cases e : i = k
  · subst e; exact ⟨h1, h2⟩
  · exact h0 i (by omega)
theorem hasB_no {b : Bx} {h : Hd} {k : Nat} (hk : k < 5) (h1 : ¬ ((b.at k).lo ≤ h.at k ∧ h.at k ≤ (b.at k).hi)) : hasB b h = false := by
  unfold hasB; rw [decide_eq_false fun h => h1 (h k hk)]; simp
theorem hasB_yes {b : Bx} {h : Hd} (hv : vld b = true) (h1 : inTo b h 5) : hasB b h = true := by
  unfold hasB; rw [hv, decide_eq_true h1]; rfl

set_option maxRecDepth 100000 in
set_option maxHeartbeats 400000 in
theorem contains_any (b : Bx) (h : Hd) (w : World) (ht : Tops w) (ho : h.ok) :
    Calls Tryd.prog 10 #[bv b, hv h] w fun e w' => e = .returned (.bool (hasB b h)) ∧ Below w.heap.size w w' := by
  have hO := own_start [] w
  cases hv : vld b
  · go_enter Tryd.func10, Tryd.ntmps10
    go_wp2_with (first | ((with_reducible refine is_load ?_); (first | (refine own_ld (h := ?_)))) | ((with_reducible refine is_store ?_); (first | (refine own_stR (hO := hO) (h := ?_); clear hO; intro wv hO) | (refine own_st1 (hO := hO) (h := ?_); clear hO; intro wv hO))) | ((with_reducible refine is_box ?_); (first | (refine own_bx (o := ⟨some 2, _, _, _, _, _⟩) (hO := hO) (h := ?_); clear hO; intro n2 wv hO) | (refine own_bx (o := ⟨some 3, _, _, _, _, _⟩) (hO := hO) (h := ?_); clear hO; intro n3 wv hO))) | (go_at_call 13; refine (valid_any b _ (hO.tops ht (by simp))).mono ?_; rintro e wv ⟨rfl, hb⟩; replace hO := hO.call hb; clear hb))
    go_ret
    exact ⟨ret_bool (by simp [hasB, hv]), hO.keep.below⟩
  · go_enter Tryd.func10, Tryd.ntmps10
    go_wp2_with (first | ((with_reducible refine is_load ?_); (first | (refine own_ld (h := ?_)))) | ((with_reducible refine is_store ?_); (first | (refine own_stR (hO := hO) (h := ?_); clear hO; intro wv hO) | (refine own_st1 (hO := hO) (h := ?_); clear hO; intro wv hO))) | ((with_reducible refine is_box ?_); (first | (refine own_bx (o := ⟨some 2, _, _, _, _, _⟩) (hO := hO) (h := ?_); clear hO; intro n2 wv hO) | (refine own_bx (o := ⟨some 3, _, _, _, _, _⟩) (hO := hO) (h := ?_); clear hO; intro n3 wv hO))) | (go_at_call 13; refine (valid_any b _ (hO.tops ht (by simp))).mono ?_; rintro e wv ⟨rfl, hb⟩; replace hO := hO.call hb; clear hb) | (go_at_call 33; refine (values_any h _ ho).mono ?_; rintro e wv ⟨rfl, hb⟩; replace hO := hO.call hb; clear hb))
    go_loopw [12] (fun i wr => ∃ k : Nat, k ≤ 5 ∧ i = .int .i64 k ∧ inTo b h k ∧ Own [] w [⟨n2, bcs b, 26⟩] [] [] wr) (fun i _ => 5 - (intOf i).toNat)
    case atStart => exact ⟨0, by omega, rfl, fun i hi => by omega, hO.sub (.cons _ (.refl _)) (.refl _) (fun _ h => h)⟩
    case round =>
      clear hO
      obtain ⟨k, hk, rfl, hin, hO⟩ := hrel
      have HI := Lib.hid hin
      have HV := Lib.hid hv
      clear hin hv
      by_cases hlt : k < 5
      · have hix := fun w => ix5_at w h.at hlt
        by_cases h1 : (b.at k).lo ≤ h.at k
        · have h1' : decide (h.at k < (b.at k).lo) = false := by simp; omega
          by_cases h2 : h.at k ≤ (b.at k).hi
          · have h2' : decide ((b.at k).hi < h.at k) = false := by simp; omega
            go_wp2_with (first | ((with_reducible refine is_load ?_); (first | (refine own_ld (h := ?_)))) | ((with_reducible refine is_store ?_); (first | (refine own_stR (hO := hO) (h := ?_); clear hO; intro wv hO) | (refine own_st1 (hO := hO) (h := ?_); clear hO; intro wv hO))))
            go_roundw
            case rel => exact ⟨k + 1, by omega, by go_num, inTo_snoc HI.out h1 h2, hO⟩
            case measure => simp [intOf]; omega
          · have h2' : decide ((b.at k).hi < h.at k) = true := by simp; omega
            have HF := Lib.hid (hasB_no (b := b) hlt (fun h => h2 h.2))
            go_wp2_with (first | ((with_reducible refine is_load ?_); (first | (refine own_ld (h := ?_)))) | ((with_reducible refine is_store ?_); (first | (refine own_stR (hO := hO) (h := ?_); clear hO; intro wv hO) | (refine own_st1 (hO := hO) (h := ?_); clear hO; intro wv hO))))
            go_ret
            exact ⟨ret_bool HF.out.symm, hO.keep.below⟩
        · have h1' : decide (h.at k < (b.at k).lo) = true := by simp; omega
          have HF := Lib.hid (hasB_no (b := b) hlt (fun h => h1 h.1))
          go_wp2_with (first | ((with_reducible refine is_load ?_); (first | (refine own_ld (h := ?_)))) | ((with_reducible refine is_store ?_); (first | (refine own_stR (hO := hO) (h := ?_); clear hO; intro wv hO) | (refine own_st1 (hO := hO) (h := ?_); clear hO; intro wv hO))))
          go_ret
          exact ⟨ret_bool HF.out.symm, hO.keep.below⟩
      · go_wp2_with (first | ((with_reducible refine is_load ?_); (first | (refine own_ld (h := ?_)))) | ((with_reducible refine is_store ?_); (first | (refine own_stR (hO := hO) (h := ?_); clear hO; intro wv hO) | (refine own_st1 (hO := hO) (h := ?_); clear hO; intro wv hO))))
        go_ret
        exact ⟨ret_bool (hasB_yes HV.out fun i hi => HI.out i (by omega)).symm, hO.keep.below⟩

def subTo (a b : Bx) (k : Nat) : Prop := ∀ i, i < k → (b.at i).lo ≤ (a.at i).lo ∧ (a.at i).hi ≤ (b.at i).hi
instance (a b : Bx) (k : Nat) : Decidable (subTo a b k) := inferInstanceAs (Decidable (∀ i, i < k → _))
def subB (a b : Bx) : Bool := !vld a || (vld b && decide (subTo a b 5))
theorem subTo_snoc {a b : Bx} {k : Nat} (h0 : subTo a b k) (h1 : (b.at k).lo ≤ (a.at k).lo) (h2 : (a.at k).hi ≤ (b.at k).hi) : subTo a b (k + 1) := fun i hi => by
  by_cases e : i = k
  · subst e; exact ⟨h1, h2⟩
  · exact h0 i (by omega)
theorem sub_no {a b : Bx} {k : Nat} (hk : k < 5) (h1 : ¬ ((b.at k).lo ≤ (a.at k).lo ∧ (a.at k).hi ≤ (b.at k).hi)) : decide (subTo a b 5) = false := decide_eq_false fun h => h1 (h k hk)

set_option maxRecDepth 100000 in
set_option maxHeartbeats 400000 in
theorem subset_any (a b : Bx) (w : World) (ht : Tops w) :
    Calls Tryd.prog 14 #[bv a, bv b] w fun e w' => e = .returned (.bool (subB a b)) ∧ Below w.heap.size w w' := by
  have hO := own_start [] w
  cases ha : vld a
  · go_enter Tryd.func14, Tryd.ntmps14
    go_wp2_with (first | ((with_reducible refine is_load ?_); (first | (refine own_ld (h := ?_)))) | ((with_reducible refine is_store ?_); (first | (refine own_stR (hO := hO) (h := ?_); clear hO; intro wv hO) | (refine own_st1 (hO := hO) (h := ?_); clear hO; intro wv hO))) | ((with_reducible refine is_box ?_); (first | (refine own_bx (o := ⟨some 2, _, _, _, _, _⟩) (hO := hO) (h := ?_); clear hO; intro n2 wv hO) | (refine own_bx (o := ⟨some 3, _, _, _, _, _⟩) (hO := hO) (h := ?_); clear hO; intro n3 wv hO))) | (go_at_call 13; refine (valid_any _ _ (hO.tops ht (by simp))).mono ?_; rintro e wv ⟨rfl, hb⟩; replace hO := hO.call hb; clear hb))
    go_ret
    exact ⟨ret_bool (by simp [subB, ha]), hO.keep.below⟩
  cases hv : vld b
  · go_enter Tryd.func14, Tryd.ntmps14
    go_wp2_with (first | ((with_reducible refine is_load ?_); (first | (refine own_ld (h := ?_)))) | ((with_reducible refine is_store ?_); (first | (refine own_stR (hO := hO) (h := ?_); clear hO; intro wv hO) | (refine own_st1 (hO := hO) (h := ?_); clear hO; intro wv hO))) | ((with_reducible refine is_box ?_); (first | (refine own_bx (o := ⟨some 2, _, _, _, _, _⟩) (hO := hO) (h := ?_); clear hO; intro n2 wv hO) | (refine own_bx (o := ⟨some 3, _, _, _, _, _⟩) (hO := hO) (h := ?_); clear hO; intro n3 wv hO))) | (go_at_call 13; refine (valid_any _ _ (hO.tops ht (by simp))).mono ?_; rintro e wv ⟨rfl, hb⟩; replace hO := hO.call hb; clear hb))
    go_ret
    exact ⟨ret_bool (by simp [subB, ha, hv]), hO.keep.below⟩
  · go_enter Tryd.func14, Tryd.ntmps14
    go_wp2_with (first | ((with_reducible refine is_load ?_); (first | (refine own_ld (h := ?_)))) | ((with_reducible refine is_store ?_); (first | (refine own_stR (hO := hO) (h := ?_); clear hO; intro wv hO) | (refine own_st1 (hO := hO) (h := ?_); clear hO; intro wv hO))) | ((with_reducible refine is_box ?_); (first | (refine own_bx (o := ⟨some 2, _, _, _, _, _⟩) (hO := hO) (h := ?_); clear hO; intro n2 wv hO) | (refine own_bx (o := ⟨some 3, _, _, _, _, _⟩) (hO := hO) (h := ?_); clear hO; intro n3 wv hO))) | (go_at_call 13; refine (valid_any _ _ (hO.tops ht (by simp))).mono ?_; rintro e wv ⟨rfl, hb⟩; replace hO := hO.call hb; clear hb))
    go_loopw [14] (fun i wr => ∃ k : Nat, k ≤ 5 ∧ i = .int .i64 k ∧ subTo a b k ∧ Own [] w [⟨n3, bcs b, 26⟩] [] [] wr) (fun i _ => 5 - (intOf i).toNat)
    case atStart => exact ⟨0, by omega, rfl, fun i hi => by omega, hO.sub (.cons_cons _ (.cons _ .slnil)) (.refl _) (fun _ h => h)⟩
    case round =>
      clear hO
      obtain ⟨k, hk, rfl, hin, hO⟩ := hrel
      have HI := Lib.hid hin
      have HV := Lib.hid hv
      have HA := Lib.hid ha
      clear hin hv ha
      by_cases hlt : k < 5
      · have hix := fun w => ixb_at w a hlt
        by_cases h1 : (b.at k).lo ≤ (a.at k).lo
        · have h1' : decide ((a.at k).lo < (b.at k).lo) = false := by simp; omega
          by_cases h2 : (a.at k).hi ≤ (b.at k).hi
          · have h2' : decide ((b.at k).hi < (a.at k).hi) = false := by simp; omega
            go_wp2_with (first | ((with_reducible refine is_load ?_); (first | (refine own_ld (h := ?_)))) | ((with_reducible refine is_store ?_); (first | (refine own_stR (hO := hO) (h := ?_); clear hO; intro wv hO) | (refine own_st1 (hO := hO) (h := ?_); clear hO; intro wv hO))) | ((with_reducible refine is_alloc ?_); (first | (refine own_al (o := ⟨some 6, _, _, _, _, _⟩) (hO := hO) (h := ?_); clear hO; intro n6 wv hO))))
            (try simp only [Act.put]); (refine own_quiet hO (by kernel_rfl) (by kernel_rfl) ?_; clear hO; (repeat (first | go_big_quiet_skip | (go_big_quiet_want; (first | ((with_reducible refine is_loadQ ?_); (first | (refine q_ld (h := ?_))); (try simp only [Act.put]); (try simp only [List.setIfInBounds_toArray, List.set_cons_zero, List.set_cons_succ]); go_big_quiet_on) | (go_big_quiet_op; (first | go_big_quiet_on | ((refine ⟨_, fun _ _ => rfl, ?_⟩); go_big_quiet_on) | go_big_quiet_call (fail))))))); (refine wpQuiet_nil ?_); intro wv hO)
            go_wp2_with (first | ((with_reducible refine is_load ?_); (first | (refine own_ld (h := ?_)))) | ((with_reducible refine is_store ?_); (first | (refine own_stR (hO := hO) (h := ?_); clear hO; intro wv hO) | (refine own_st1 (hO := hO) (h := ?_); clear hO; intro wv hO))))
            go_roundw
            case rel => exact ⟨k + 1, by omega, by go_num, subTo_snoc HI.out h1 h2, hO.sub (.cons _ (.refl _)) (.refl _) (fun _ h => h)⟩
            case measure => simp [intOf]; omega
          · have h2' : decide ((b.at k).hi < (a.at k).hi) = true := by simp; omega
            have HF := Lib.hid (sub_no (a := a) (b := b) hlt (fun h => h2 h.2))
            go_wp2_with (first | ((with_reducible refine is_load ?_); (first | (refine own_ld (h := ?_)))) | ((with_reducible refine is_store ?_); (first | (refine own_stR (hO := hO) (h := ?_); clear hO; intro wv hO) | (refine own_st1 (hO := hO) (h := ?_); clear hO; intro wv hO))) | ((with_reducible refine is_alloc ?_); (first | (refine own_al (o := ⟨some 6, _, _, _, _, _⟩) (hO := hO) (h := ?_); clear hO; intro n6 wv hO))))
            (try simp only [Act.put]); (refine own_quiet hO (by kernel_rfl) (by kernel_rfl) ?_; clear hO; (repeat (first | go_big_quiet_skip | (go_big_quiet_want; (first | ((with_reducible refine is_loadQ ?_); (first | (refine q_ld (h := ?_))); (try simp only [Act.put]); (try simp only [List.setIfInBounds_toArray, List.set_cons_zero, List.set_cons_succ]); go_big_quiet_on) | (go_big_quiet_op; (first | go_big_quiet_on | ((refine ⟨_, fun _ _ => rfl, ?_⟩); go_big_quiet_on) | go_big_quiet_call (fail))))))); (refine wpQuiet_nil ?_); intro wv hO)
            go_wp2_with (first | ((with_reducible refine is_load ?_); (first | (refine own_ld (h := ?_)))) | ((with_reducible refine is_store ?_); (first | (refine own_stR (hO := hO) (h := ?_); clear hO; intro wv hO) | (refine own_st1 (hO := hO) (h := ?_); clear hO; intro wv hO))))
            go_ret
            exact ⟨ret_bool (by simp [subB, HA.out, HV.out, HF.out]), hO.keep.below⟩
        · have h1' : decide ((a.at k).lo < (b.at k).lo) = true := by simp; omega
          have HF := Lib.hid (sub_no (a := a) (b := b) hlt (fun h => h1 h.1))
          go_wp2_with (first | ((with_reducible refine is_load ?_); (first | (refine own_ld (h := ?_)))) | ((with_reducible refine is_store ?_); (first | (refine own_stR (hO := hO) (h := ?_); clear hO; intro wv hO) | (refine own_st1 (hO := hO) (h := ?_); clear hO; intro wv hO))) | ((with_reducible refine is_alloc ?_); (first | (refine own_al (o := ⟨some 6, _, _, _, _, _⟩) (hO := hO) (h := ?_); clear hO; intro n6 wv hO))))
          (try simp only [Act.put]); (refine own_quiet hO (by kernel_rfl) (by kernel_rfl) ?_; clear hO; (repeat (first | go_big_quiet_skip | (go_big_quiet_want; (first | ((with_reducible refine is_loadQ ?_); (first | (refine q_ld (h := ?_))); (try simp only [Act.put]); (try simp only [List.setIfInBounds_toArray, List.set_cons_zero, List.set_cons_succ]); go_big_quiet_on) | (go_big_quiet_op; (first | go_big_quiet_on | ((refine ⟨_, fun _ _ => rfl, ?_⟩); go_big_quiet_on) | go_big_quiet_call (fail))))))); (refine wpQuiet_nil ?_); intro wv hO)
          go_wp2_with (first | ((with_reducible refine is_load ?_); (first | (refine own_ld (h := ?_)))) | ((with_reducible refine is_store ?_); (first | (refine own_stR (hO := hO) (h := ?_); clear hO; intro wv hO) | (refine own_st1 (hO := hO) (h := ?_); clear hO; intro wv hO))))
          go_ret
          exact ⟨ret_bool (by simp [subB, HA.out, HV.out, HF.out]), hO.keep.below⟩
      · go_wp2_with (first | ((with_reducible refine is_load ?_); (first | (refine own_ld (h := ?_)))) | ((with_reducible refine is_store ?_); (first | (refine own_stR (hO := hO) (h := ?_); clear hO; intro wv hO) | (refine own_st1 (hO := hO) (h := ?_); clear hO; intro wv hO))))
        go_ret
        exact ⟨ret_bool (by have h5 : subTo a b 5 := fun i hi => HI.out i (by omega); simp [subB, HA.out, HV.out, h5]), hO.keep.below⟩
end Go.Proofs.YtnhjcbmlplfpmaaDoor
