/- interval.Valid and interval.Contains; calendar.Active. -/
import Derived.OrdersHeld
import Derived.Test.YtfhkmkbfgmbbaaaGreatDoorMG
import Derived.Test.YtfhkmkbfgmbbaaaGreatDoorMC
import Derived.Test.YtfhkmkbfgmbbaaaGreatDoorMB
namespace Go.Proofs.YtfhkmkbfgmbbaaaGreatDoor
open Go.RowKit
set_option maxRecDepth 100000
theorem wok_step {top : Int} {l : List Rg} {i : Nat} (h : wokR top l i) (hi : i < l.length) (h1 : l[i].lo ≤ l[i].hi) (h2 : l[i].hi ≤ top) (h3 : ∀ h0 : 0 < i, (l[i - 1]'(by omega)).hi + 2 ≤ l[i].lo) : wokR top l (i + 1) := fun j hj hl => by
  by_cases e : j = i
  · subst e; exact ⟨h1, h2, h3⟩
  · exact h j (by omega) hl
theorem wok_bad1 {top : Int} {l : List Rg} {i : Nat} (hi : i < l.length) (h : ¬ (l[i].lo ≤ l[i].hi ∧ l[i].hi ≤ top)) : winB top l = false := by
  rw [Bool.eq_false_iff]
  intro hw
  have h2 := winB_iff.1 hw i hi hi
  exact h ⟨h2.1, h2.2.1⟩
theorem wok_bad2 {top : Int} {l : List Rg} {k : Nat} (hi : k + 1 < l.length) (h : ¬ l[k].hi + 2 ≤ l[k + 1].lo) : winB top l = false := by
  rw [Bool.eq_false_iff]
  intro hw
  have h2 := (winB_iff.1 hw (k + 1) hi hi).2.2 (by omega)
  exact h (by simpa using h2)
set_option maxHeartbeats 8000000 in
theorem valid9_any {vl : Value} {l : List Rg} (top : Int) (w : World) (hv : IsCells w vl l.length (rcs l)) (hn : l.length ≤ 100000000000) (hb : BndR l) :
    Calls Tryz.prog 20 #[vl, .int .u32 top] w fun e w' => e = .returned (.bool (winB top l)) ∧ Below w.heap.size w w' := by
  have hO := own_cellsA (own_start [] w) hv
  obtain ⟨a, c, rfl, ha⟩ := formC_view (isCells_form hv)
  simp only [List.append_nil] at hO
  clear hv
  go_enter Tryz.func20, Tryz.ntmps20
  go_wp2_with fail
  go_loopw [9] (fun q wr => ∃ i : Nat, i ≤ l.length ∧ q = .int .i64 i ∧ Hid (wokR top l i) ∧ Own [] w [] [] (roS (.slice a l.length c) (rcs l)) wr) (fun q _ => l.length - (intOf q).toNat)
  case atStart => exact ⟨0, by omega, rfl, Lib.hid fun j h _ => by omega, hO⟩
  case round =>
    clear hO
    obtain ⟨i, hi, rfl, HN, hO⟩ := hrel
    have s4 : IntKind.i64.wrap ((i : Int) + 1) = (i : Int) + 1 := IntWalk.i64_in _ (by omega)
    by_cases hlt : i < l.length
    · have g0 : decide ((i : Int) < (l.length : Int)) = true := decide_eq_true (by omega)
      obtain ⟨gl, ol, rfl⟩ := ha (by omega)
      simp only [roS] at hO
      have t1 := rcs_two hlt
      obtain ⟨b1, b2, b3, b4⟩ := hb _ (List.getElem_mem hlt)
      have HB : Hid (¬ (l[i].lo ≤ l[i].hi ∧ l[i].hi ≤ top) → winB top l = false) := Lib.hid (wok_bad1 hlt)
      have HS : Hid (l[i].lo ≤ l[i].hi → l[i].hi ≤ top → (∀ h0 : 0 < i, (l[i - 1]'(by omega)).hi + 2 ≤ l[i].lo) → wokR top l (i + 1)) := Lib.hid (wok_step HN.out hlt)
      clear HN
      by_cases h1 : l[i].hi < l[i].lo
      · have HE := Lib.hid (HB.out (by omega))
        clear HB HS
        generalize l[i] = r at *
        have g1 : decide (r.lo > r.hi) = true := decide_eq_true h1
        go_wp2_with (first | ((with_reducible refine is_load ?_); (refine own_ldV (h := ?_))) | ((with_reducible refine is_store ?_); (refine own_stRV (hO := hO) (h := ?_); clear hO; intro wv hO)) | ((with_reducible refine is_alloc ?_); (refine own_alV (o := ⟨some 6, _, _, _, _, _⟩) (hO := hO) (h := ?_); clear hO; intro n6 wv hO)))
        (try simp only [Act.put]); (refine own_quiet hO (by kernel_rfl) (by kernel_rfl) ?_; clear hO; (repeat (first | go_big_quiet_skip | (go_big_quiet_want; (first | ((with_reducible refine is_loadQ ?_); (refine q_ldV (h := ?_)); (try simp only [Act.put]); (try simp only [List.setIfInBounds_toArray, List.set_cons_zero, List.set_cons_succ]); go_big_quiet_on) | (go_big_quiet_op; (first | go_big_quiet_on | ((refine ⟨_, fun _ _ => rfl, ?_⟩); go_big_quiet_on))))))); (refine wpQuiet_nil ?_); intro wv hO)
        go_wp2_with fail
        go_ret
        exact ⟨by rw [HE.out]; rfl, hO.keep.below⟩
      by_cases h2 : top < l[i].hi
      · have HE := Lib.hid (HB.out (by omega))
        clear HB HS
        generalize l[i] = r at *
        have g1 : decide (r.lo > r.hi) = false := decide_eq_false (by omega)
        have g2 : decide (r.hi > top) = true := decide_eq_true h2
        go_wp2_with (first | ((with_reducible refine is_load ?_); (refine own_ldV (h := ?_))) | ((with_reducible refine is_store ?_); (refine own_stRV (hO := hO) (h := ?_); clear hO; intro wv hO)) | ((with_reducible refine is_alloc ?_); (refine own_alV (o := ⟨some 6, _, _, _, _, _⟩) (hO := hO) (h := ?_); clear hO; intro n6 wv hO)))
        (refine own_quiet hO (by kernel_rfl) (by kernel_rfl) ?_; clear hO; (repeat (first | go_big_quiet_skip | (go_big_quiet_want; (first | ((with_reducible refine is_loadQ ?_); (refine q_ldV (h := ?_)); (try simp only [Act.put]); (try simp only [List.setIfInBounds_toArray, List.set_cons_zero, List.set_cons_succ]); go_big_quiet_on) | (go_big_quiet_op; (first | go_big_quiet_on | ((refine ⟨_, fun _ _ => rfl, ?_⟩); go_big_quiet_on))))))); (refine wpQuiet_nil ?_); intro wv hO)
        go_wp2_with fail
        go_ret
        exact ⟨by rw [HE.out]; rfl, hO.keep.below⟩
      clear HB
      by_cases hz : i = 0
      · have HE := Lib.hid (HS.out (by omega) (by omega) (fun h => absurd h (by omega)))
        clear HS
        generalize l[i] = r at *
        have g1 : decide (r.lo > r.hi) = false := decide_eq_false (by omega)
        have g2 : decide (r.hi > top) = false := decide_eq_false (by omega)
        have g3 : decide ((i : Int) > 0) = false := decide_eq_false (by omega)
        have g5 : decide (0 < i) = false := decide_eq_false (by omega)
        clear hz
        go_wp2_with (first | ((with_reducible refine is_load ?_); (refine own_ldV (h := ?_))) | ((with_reducible refine is_store ?_); (refine own_stRV (hO := hO) (h := ?_); clear hO; intro wv hO)) | ((with_reducible refine is_alloc ?_); (refine own_alV (o := ⟨some 6, _, _, _, _, _⟩) (hO := hO) (h := ?_); clear hO; intro n6 wv hO)))
        (refine own_quiet hO (by kernel_rfl) (by kernel_rfl) ?_; clear hO; (repeat (first | go_big_quiet_skip | (go_big_quiet_want; (first | ((with_reducible refine is_loadQ ?_); (refine q_ldV (h := ?_)); (try simp only [Act.put]); (try simp only [List.setIfInBounds_toArray, List.set_cons_zero, List.set_cons_succ]); go_big_quiet_on) | (go_big_quiet_op; (first | go_big_quiet_on | ((refine ⟨_, fun _ _ => rfl, ?_⟩); go_big_quiet_on))))))); (refine wpQuiet_nil ?_); intro wv hO)
        go_wp2_with fail
        go_roundw
        case rel => exact ⟨i + 1, by omega, by go_num, HE, hO.sub (X' := []) (List.nil_sublist _) (.refl _) (fun _ h => h)⟩
        case measure => simp [intOf]; omega
      · obtain ⟨k, rfl⟩ : ∃ k, i = k + 1 := ⟨i - 1, by omega⟩
        clear hz
        have hk : k < l.length := by omega
        obtain ⟨-, u2⟩ := rcs_at hk
        have k1 := hb _ (List.getElem_mem hk)
        have HB2 : Hid (¬ l[k].hi + 2 ≤ l[k + 1].lo → winB top l = false) := Lib.hid (wok_bad2 hlt)
        have HE : Hid (l[k].hi + 2 ≤ l[k + 1].lo → wokR top l (k + 1 + 1)) := Lib.hid fun h => HS.out (by omega) (by omega) (fun _ => by simpa using h)
        clear HS
        generalize l[k + 1] = r at *
        generalize l[k] = q at *
        have g1 : decide (r.lo > r.hi) = false := decide_eq_false (by omega)
        have g2 : decide (r.hi > top) = false := decide_eq_false (by omega)
        have g3 : decide (((k + 1 : Nat) : Int) > 0) = true := decide_eq_true (by omega)
        have s1 : IntKind.i64.wrap (((k + 1 : Nat) : Int) - 1) = (k : Int) := by rw [IntWalk.i64_in _ (by omega)]; omega
        have s2 : IntKind.u64.wrap r.lo = r.lo := by rw [IntKind.wrap_u64]; omega
        have s3 : IntKind.u64.wrap q.hi = q.hi := by rw [IntKind.wrap_u64]; omega
        have s5 : IntKind.u64.wrap (q.hi + 2) = q.hi + 2 := by rw [IntKind.wrap_u64]; omega
        by_cases hq : r.lo < q.hi + 2
        · have g4 : decide (r.lo < q.hi + 2) = true := decide_eq_true hq
          have HT := Lib.hid (HB2.out (by omega))
          clear HB2 HE hq
          go_wp2_with (first | ((with_reducible refine is_load ?_); (refine own_ldV (h := ?_))) | ((with_reducible refine is_store ?_); (refine own_stRV (hO := hO) (h := ?_); clear hO; intro wv hO)) | ((with_reducible refine is_alloc ?_); (refine own_alV (o := ⟨some 6, _, _, _, _, _⟩) (hO := hO) (h := ?_); clear hO; intro n6 wv hO)))
          (refine own_quiet hO (by kernel_rfl) (by kernel_rfl) ?_; clear hO; (repeat (go_big_quiet_want; (first | ((with_reducible refine is_loadQ ?_); (refine q_ldV (h := ?_)); (try simp only [Act.put]); (try simp only [List.setIfInBounds_toArray, List.set_cons_zero, List.set_cons_succ]); go_big_quiet_on) | (go_big_quiet_op; (first | go_big_quiet_on | ((refine ⟨_, fun _ _ => rfl, ?_⟩); go_big_quiet_on)))))); (refine wpQuiet_nil ?_); intro wv hO)
          go_wp2_with fail
          go_ret
          exact ⟨by rw [HT.out]; rfl, hO.keep.below⟩
        · have g4 : decide (r.lo < q.hi + 2) = false := decide_eq_false hq
          have HT := Lib.hid (HE.out (by omega))
          clear HB2 HE hq
          go_wp2_with (first | ((with_reducible refine is_load ?_); (refine own_ldV (h := ?_))) | ((with_reducible refine is_store ?_); (refine own_stRV (hO := hO) (h := ?_); clear hO; intro wv hO)) | ((with_reducible refine is_alloc ?_); (refine own_alV (o := ⟨some 6, _, _, _, _, _⟩) (hO := hO) (h := ?_); clear hO; intro n6 wv hO)))
          (refine own_quiet hO (by kernel_rfl) (by kernel_rfl) ?_; clear hO; (repeat (go_big_quiet_want; (first | ((with_reducible refine is_loadQ ?_); (refine q_ldV (h := ?_)); (try simp only [Act.put]); (try simp only [List.setIfInBounds_toArray, List.set_cons_zero, List.set_cons_succ]); go_big_quiet_on) | (go_big_quiet_op; (first | go_big_quiet_on | ((refine ⟨_, fun _ _ => rfl, ?_⟩); go_big_quiet_on)))))); (refine wpQuiet_nil ?_); intro wv hO)
          go_wp2_with fail
          go_roundw
          case rel => exact ⟨k + 1 + 1, by omega, by go_num, HT, hO.sub (X' := []) (List.nil_sublist _) (.refl _) (fun _ h => h)⟩
          case measure => simp [intOf]; omega
    · obtain rfl : i = l.length := by omega
      have HE : Hid (winB top l = true) := Lib.hid (winB_iff.2 HN.out)
      clear HN
      go_wp2_with fail
      go_ret
      exact ⟨by rw [HE.out]; rfl, hO.keep.below⟩
end Go.Proofs.YtfhkmkbfgmbbaaaGreatDoor

/- interval.Contains; calendar.Active. -/
namespace Go.Proofs.YtfhkmkbfgmbbaaaGreatDoor
open Go.RowKit
set_option maxRecDepth 100000
def rin (v : Int) (r : Rg) : Bool := decide (r.lo ≤ v) && decide (v ≤ r.hi)
set_option maxHeartbeats 2000000 in
theorem rinLit_any (r : Rg) (v : Int) (n : Nat) (w : World) (hn : Blk w n [.int .u32 v] 28) :
    Calls Tryz.prog 46 #[.agg #[.int .u32 r.lo, .int .u32 r.hi], .pointer (some ⟨n, 0, none⟩)] w fun e w' => e = .returned (.bool (rin v r)) ∧ Below w.heap.size w w' := by
  have hO : Own [] w [] [] [⟨n, 0, [.int .u32 v]⟩] w := ⟨Keep.refl _ _, fun c hc => (by cases hc), fun r hr => (by cases hr), fun s hs => (by
    obtain rfl := List.mem_singleton.1 hs
    intro j u hj
    rw [Nat.zero_add, hn.cell]; exact hj), by simp [excl], by simp [excl], by simp [excl]⟩
  unfold rin
  go_enter Tryz.func46, Tryz.ntmps46
  cases h1 : decide (r.lo ≤ v)
  · go_wp2_with (first | ((with_reducible refine is_load ?_); (refine own_ldV (h := ?_))) | ((with_reducible refine is_box ?_); (refine own_bx (o := ⟨some 2, _, _, _, _, _⟩) (hO := hO) (h := ?_); clear hO; intro n2 wv hO)))
    go_ret
    exact ⟨rfl, hO.keep.below⟩
  · cases h2 : decide (v ≤ r.hi)
    · go_wp2_with (first | ((with_reducible refine is_load ?_); (refine own_ldV (h := ?_))) | ((with_reducible refine is_box ?_); (refine own_bx (o := ⟨some 2, _, _, _, _, _⟩) (hO := hO) (h := ?_); clear hO; intro n2 wv hO)))
      go_ret
      exact ⟨rfl, hO.keep.below⟩
    · go_wp2_with (first | ((with_reducible refine is_load ?_); (refine own_ldV (h := ?_))) | ((with_reducible refine is_box ?_); (refine own_bx (o := ⟨some 2, _, _, _, _, _⟩) (hO := hO) (h := ?_); clear hO; intro n2 wv hO)))
      go_ret
      exact ⟨rfl, hO.keep.below⟩
/-- the function that tells whether a range holds the number of the block n -/
abbrev rinLit (n : Nat) : Value := .func (.func 46) #[] #[.pointer (some ⟨n, 0, none⟩)]
theorem anyR_none {l : List Rg} {v : Int} {k : Nat} (hk : k < l.length) (h0 : (l.take k).any (rin v) = false) (h1 : rin v l[k] = false) : (l.take (k + 1)).any (rin v) = false := by
  rw [List.take_succ_eq_append_getElem hk, List.any_append, h0]
  simp [h1]
set_option maxHeartbeats 4000000 in
theorem ridxFunc_any {vl : Value} {l : List Rg} (v : Int) (n : Nat) (w : World) (hv : IsCells w vl l.length (rcs l)) (hn : Blk w n [.int .u32 v] 28) (hl : l.length ≤ 100000000000) :
    Calls Tryz.prog 63 #[vl, rinLit n] w fun e w' => ∃ k : Int, e = .returned (.int .i64 k) ∧ (0 ≤ k ↔ memB l v = true) ∧ Below w.heap.size w w' := by
  have hO := own_cellsA (own_start [] w) hv
  obtain ⟨a, c, rfl, ha⟩ := formC_view (isCells_form hv)
  simp only [List.append_nil] at hO
  clear hv
  go_enter Tryz.func63, Tryz.ntmps63
  go_wp2_with fail
  go_loopw [8] (fun i wr => ∃ k : Nat, k ≤ l.length ∧ i = .int .i64 k ∧ Hid ((l.take k).any (rin v) = false) ∧ Own [] w [] [] (roS (.slice a l.length c) (rcs l)) wr) (fun i _ => l.length - (intOf i).toNat)
  case atStart => exact ⟨0, by omega, rfl, Lib.hid rfl, hO⟩
  case round =>
    clear hO
    obtain ⟨k, hk, rfl, H0, hO⟩ := hrel
    have s4 : IntKind.i64.wrap ((k : Int) + 1) = (k : Int) + 1 := IntWalk.i64_in _ (by omega)
    by_cases hlt : k < l.length
    · obtain ⟨g, o, rfl⟩ := ha (by omega)
      have g0 : decide ((k : Int) < (l.length : Int)) = true := decide_eq_true (by omega)
      have hcl := fun w hn => rinLit_any l[k] v n w hn
      simp only [roS] at hO
      have t1 := rcs_two hlt
      cases hb : rin v l[k] <;> rw [hb] at hcl
      · have HB := Lib.hid (anyR_none hlt H0.out hb)
        clear hb H0
        generalize l[k] = r at *
        go_wp2_with (first | ((with_reducible refine is_load ?_); (refine own_ldV (h := ?_))) | (go_at_call 46; (with_reducible refine (hcl _ (hn.below hO.keep.below hn.lt)).mono ?_); rintro e wv ⟨rfl, hb⟩; replace hO := hO.call hb; clear hb))
        go_roundw
        case rel => exact ⟨k + 1, by omega, by go_num, HB, hO⟩
        case measure => simp [intOf]; omega
      · have HB := Lib.hid (show memB l v = true from List.any_eq_true.2 ⟨_, List.getElem_mem hlt, hb⟩)
        clear hb H0
        generalize l[k] = r at *
        go_wp2_with (first | ((with_reducible refine is_load ?_); (refine own_ldV (h := ?_))) | (go_at_call 46; (with_reducible refine (hcl _ (hn.below hO.keep.below hn.lt)).mono ?_); rintro e wv ⟨rfl, hb⟩; replace hO := hO.call hb; clear hb))
        go_ret
        exact ⟨k, rfl, ⟨fun _ => HB.out, fun _ => by omega⟩, hO.keep.below⟩
    · have g0 : decide ((k : Int) < (l.length : Int)) = false := decide_eq_false (by omega)
      have HB : Hid (memB l v = false) := Lib.hid (by
        obtain rfl : k = l.length := by omega
        have := H0.out
        rwa [List.take_length] at this)
      clear H0
      go_wp2_with fail
      go_ret
      exact ⟨-1, rfl, ⟨fun h => absurd h (by decide), fun h => by rw [HB.out] at h; cases h⟩, hO.keep.below⟩
set_option maxHeartbeats 4000000 in
theorem rctnFunc_any {vl : Value} {l : List Rg} (v : Int) (n : Nat) (w : World) (hv : IsCells w vl l.length (rcs l)) (hn : Blk w n [.int .u32 v] 28) (hl : l.length ≤ 100000000000) :
    Calls Tryz.prog 45 #[vl, rinLit n] w fun e w' => e = .returned (.bool (memB l v)) ∧ Below w.heap.size w w' := by
  have hO := own_start [] w
  have hix := fun w hv hn => ridxFunc_any (vl := vl) (l := l) v n w hv hn hl
  generalize memB l v = R at *
  go_enter Tryz.func45, Tryz.ntmps45
  go_wp2_with (go_at_call 63; refine (hix _ (hv.below hO.keep.below) (hn.below hO.keep.below hn.lt)).mono ?_; rintro e wv ⟨k, rfl, hk, hb2⟩; replace hO := hO.call hb2; clear hb2 hix)
  go_ret
  exact ⟨ret_bool (by
    cases R
    · (rfl)
    · (rfl)), hO.keep.below⟩
set_option maxHeartbeats 2000000 in
theorem contains9_any {vl : Value} {l : List Rg} (v : Int) (w : World) (hv : IsCells w vl l.length (rcs l)) (hl : l.length ≤ 100000000000) :
    Calls Tryz.prog 27 #[vl, .int .u32 v] w fun e w' => e = .returned (.bool (memB l v)) ∧ Below w.heap.size w w' := by
  have hO := own_start [] w
  have hcf := fun n w hv hn => rctnFunc_any (vl := vl) (l := l) v n w hv hn hl
  generalize memB l v = R at *
  go_enter Tryz.func27, Tryz.ntmps27
  go_wp2_with (first | ((with_reducible refine is_box ?_); (refine own_bx (o := ⟨some 3, _, _, _, _, _⟩) (hO := hO) (h := ?_); clear hO; intro n3 wv hO)) | (go_at_call 45; refine (hcf _ _ (hv.below hO.keep.below) (hO.chunk _ List.mem_cons_self)).mono ?_; rintro e wv ⟨rfl, hb⟩; replace hO := hO.call hb; clear hb))
  go_ret
  exact ⟨rfl, hO.keep.below⟩
theorem memB_out {l : List Rg} (hb : BndR l) {m : Int} (h : m < 0 ∨ 4294967295 < m) : memB l m = false := by
  rw [Bool.eq_false_iff]
  intro hm
  obtain ⟨r, hr, h1, h2⟩ := memB_iff.1 hm
  have := hb r hr
  omega
set_option maxHeartbeats 2000000 in
theorem active9_any {vl : Value} {l : List Rg} (m : Int) (w : World) (hv : IsCells w vl l.length (rcs l)) (hl : l.length ≤ 100000000000) (hb : BndR l) :
    Calls Tryz.prog 11 #[vl, .int .i64 m] w fun e w' => e = .returned (.bool (memB l m)) ∧ Below w.heap.size w w' := by
  have hO := own_start [] w
  have hc := fun w hv => contains9_any (vl := vl) (l := l) m w hv hl
  by_cases h1 : 0 ≤ m
  · have g1 : decide (m ≥ 0) = true := decide_eq_true h1
    by_cases h2 : m ≤ 4294967295
    · have g2 : decide (m ≤ 4294967295) = true := decide_eq_true h2
      have s1 : IntKind.u32.wrap m = m := by rw [IntKind.wrap_u32]; omega
      clear hb
      generalize memB l m = R at *
      go_enter Tryz.func11, Tryz.ntmps11
      go_wp2_with (go_at_call 27; (with_reducible refine (hc _ (hv.below hO.keep.below)).mono ?_); rintro e wv ⟨rfl, hb⟩; replace hO := hO.call hb; clear hb)
      go_ret
      exact ⟨rfl, hO.keep.below⟩
    · have g2 : decide (m ≤ 4294967295) = false := decide_eq_false h2
      rw [memB_out hb (by omega)]
      clear hc
      go_enter Tryz.func11, Tryz.ntmps11
      go_wp2_with fail
      go_ret
      exact ⟨rfl, hO.keep.below⟩
  · have g1 : decide (m ≥ 0) = false := decide_eq_false h1
    rw [memB_out hb (by omega)]
    clear hc
    go_enter Tryz.func11, Tryz.ntmps11
    go_wp2_with fail
    go_ret
    exact ⟨rfl, hO.keep.below⟩
end Go.Proofs.YtfhkmkbfgmbbaaaGreatDoor

/- Regions that draw their order: loads of what nobody in the region writes are taken first. For any program. -/
namespace Go.Proofs.YtfhkmkbfgmbbaaaGreatDoor
open Go.RowKit
section
variable {P : Program} {Q : Exit → Act → World → Prop} {a : Act} {w : World} {md : Region.Mode} {C : World → Prop}
/-- an operation that may come up now yields one value in every world of the class: it is taken first -/
theorem wpAnyH_tk {l : List Oper} {oi : Oper} {fuel : Nat} {listed : Array Bool} (i : Nat) (hC : C w)
    (h : wpQuiet P l.toArray C (fun a' => wpAnyH P md l.toArray Q C fuel (listed.setIfInBounds i true) a' w) [oi] a) (hi : l[i]? = some oi := by rfl)
    (hs : Region.noSelect l.toArray = true := by kernel_rfl) (hf : Region.free md l.toArray listed i = true := by kernel_rfl) (hr : (Region.ready md l.toArray listed).contains i = true := by kernel_rfl)
    (hQ : ∀ c d v a w, Q (.panic c) (Act.put a d v) w → Q (.panic c) a w := by intro c d v a w h; cases d <;> exact h) (hn : noEnterB oi.op = true := by rfl) : wpAnyH P md l.toArray Q C (fuel + 1) listed a w := by
  have hi' : l.toArray[i]? = some oi := by simpa using hi
  unfold wpQuiet at h
  by_cases hw : Region.wanted oi (yielded l.toArray a.tmps) = true
  · simp only [hw, if_true] at h
    obtain ⟨v, h1, h2⟩ := h
    have hval : ∀ w', C w' → (execOp a.eval oi).run P w' = .ok (.value v) w' := by
      intro w' hw'
      have h3 := h1 w' hw'
      unfold Oper.quietAt at h3
      have hne := fun w'' f args => noEnter (P := P) (ρ := a.eval) hn w' w'' f args
      have hsk := fun w'' => noSkip (P := P) (ρ := a.eval) hn w' w''
      generalize (execOp a.eval oi).run P w' = r at *
      cases r with
      | halt x w'' => exact h3.elim
      | ok n w'' =>
        cases n <;> simp only [Oper.quietUpon] at h3
        case value u => obtain ⟨rfl, rfl⟩ := h3; rfl
        case skip => exact absurd rfl (hsk _)
        case enter f args => exact absurd rfl (hne w'' f args)
    exact wpAnyH_take hi' hs hf hr (fun c a w => hQ c _ _ a w) (.inl ⟨hw, hval⟩) hC h2
  · simp only [hw] at h
    exact wpAnyH_take hi' hs hf hr (fun c a w => hQ c _ _ a w) (.inr ⟨by simpa using hw, rfl⟩) hC h
/-- one operation alone may come up -/
theorem wpAnyH_1 {ops : Array Oper} {fuel : Nat} {listed : Array Bool} (i : Nat) (h : wpOp P ops Q i (fun a' w' => C w' ∧ wpAnyH P md ops Q C fuel (listed.setIfInBounds i true) a' w') a w) (hr : Region.ready md ops listed = [i] := by kernel_rfl) : wpAnyH P md ops Q C (fuel + 1) listed a w := wpAnyH_all hr (by simp) fun j hj => by rw [List.mem_singleton.1 hj]; exact h
/-- a part of what is owned, as a class of worlds -/
theorem Own.cls {M : List Nat} {w0 : World} {X X' : List Chunk} {R R' : List Row} {S S' : List Ro} (hO : Own M w0 X R S w) (hX : X'.Sublist X := by repeat (first | exact List.Sublist.refl _ | apply List.Sublist.cons)) (hR : R'.Sublist R := by repeat (first | exact List.Sublist.refl _ | apply List.Sublist.cons))
    (hS : ∀ s ∈ S', s ∈ S := by intro q hq; repeat (first | exact hq | exact List.mem_append_left _ hq | apply List.mem_append_right | apply List.mem_cons_of_mem)) : Own M w0 X' R' S' w := hO.sub hX hR hS
end
end Go.Proofs.YtfhkmkbfgmbbaaaGreatDoor

/- The calendar's reference: days, times, moments. -/
namespace Go.Proofs.YtfhkmkbfgmbbaaaGreatDoor
open Go.RowKit
set_option maxRecDepth 100000
/-- what the reference's days are: a list of its own -/
def RetDays (w : World) (e : Ending) (w' : World) : Prop := ∃ g, e = .returned (.slice (some ⟨g, 0, none⟩) 7 7) ∧ IsCells w' (.slice (some ⟨g, 0, none⟩) 7 7) 7 (scs dayL) ∧ NewFrom w (.slice (some ⟨g, 0, none⟩) 7 7) ∧ Below w.heap.size w w'
theorem own_chunkNew {w0 w : World} {X : List Chunk} {R : List Row} {S : List Ro} (hO : Own [] w0 X R S w) {n : Nat} {cs : List Value} {t : TypeId} (hm : (⟨n, cs, t⟩ : Chunk) ∈ X) (k c : Nat) : NewFrom w0 (.slice (some ⟨n, 0, none⟩) k c) := fun g hg => by
  have hg' : n = g := by simpa [Value.ownBlock] using hg
  subst hg'
  have := hO.free n (List.mem_append.2 (.inl (List.mem_map.2 ⟨_, hm, rfl⟩)))
  simpa using this
set_option maxHeartbeats 4000000 in
theorem rdays_any (w : World) : Calls Tryz.prog 25 #[] w (RetDays w) := by
  have hO := own_start [] w
  have hv : scs dayL = [.string ⟨#[109, 111, 110]⟩, .string ⟨#[116, 117, 101]⟩, .string ⟨#[119, 101, 100]⟩, .string ⟨#[116, 104, 117]⟩, .string ⟨#[102, 114, 105]⟩, .string ⟨#[115, 97, 116]⟩, .string ⟨#[115, 117, 110]⟩] := rfl
  unfold RetDays
  rw [hv]
  go_enter Tryz.func25, Tryz.ntmps25
  go_wp2_with ((with_reducible refine is_build ?_); (refine' own_buildP (o := ⟨some 1, _, _, _, _, _⟩) [.string ⟨#[109, 111, 110]⟩, .string ⟨#[116, 117, 101]⟩, .string ⟨#[119, 101, 100]⟩, .string ⟨#[116, 104, 117]⟩, .string ⟨#[102, 114, 105]⟩, .string ⟨#[115, 97, 116]⟩, .string ⟨#[115, 117, 110]⟩] hO (by rfl) rfl slice_strings rfl rfl (by rfl) (by decide) (by decide) ?_); clear hO; intro n1 wv hO)
  go_ret
  exact ⟨n1, rfl, .inr ⟨n1, 0, 7, rfl, Nat.le_refl _, own_chunkAt hO List.mem_cons_self⟩, own_chunkNew hO List.mem_cons_self 7 7, hO.keep.below⟩
theorem idx_step {i : Nat} (x : Bs) (h : i < dayL.length) : idxB (dayL.drop i) x i = if dayL[i] = x then (i : Int) else idxB (dayL.drop (i + 1)) x (i + 1) := by
  rw [List.drop_eq_getElem_cons h, idxB]
set_option maxHeartbeats 4000000 in
theorem rday_any (x : Bs) (w : World) :
    Calls Tryz.prog 56 #[.string ⟨x.toArray⟩] w fun e w' => e = .returned (.int .i64 (dayI x)) ∧ Below w.heap.size w w' := by
  have hO := own_start [] w
  have hd := rdays_any
  go_enter Tryz.func56, Tryz.ntmps56
  go_wp2_with (go_at_call 25; (with_reducible refine (hd _).mono ?_); rintro e wv ⟨g, rfl, hv9, hn9, hb9⟩; replace hO := hO.gainC hb9 hv9 hn9; clear hb9 hv9 hn9 hd)
  simp only [roS, List.cons_append, List.nil_append] at hO
  go_loopw [4] (fun q wr => ∃ i : Nat, i ≤ dayL.length ∧ q = .int .i64 i ∧ Hid (idxB (dayL.drop i) x i = dayI x) ∧ Own [] w [] [] [⟨g, 0, scs dayL⟩] wr) (fun q _ => dayL.length - (intOf q).toNat)
  case atStart => exact ⟨0, by omega, rfl, Lib.hid rfl, hO⟩
  case round =>
    clear hO
    obtain ⟨i, hi, rfl, HN, hO⟩ := hrel
    have h7 : i ≤ 7 := hi
    have s4 : IntKind.i64.wrap ((i : Int) + 1) = (i : Int) + 1 := IntWalk.i64_in _ (by omega)
    by_cases hlt : i < dayL.length
    · have u1 := scs_at hlt
      have h8 : i < 7 := hlt
      have g0 : decide ((i : Int) < 7) = true := decide_eq_true (by omega)
      have c1 : (i : Int) < 7 := by omega
      have hs := idx_step x hlt
      rw [HN.out] at hs
      generalize dayL[i] = z at *
      by_cases hz : z = x
      · have g1 : (z == x) = true := beq_iff_eq.2 hz
        rw [if_pos hz] at hs
        have HE := Lib.hid hs
        clear hs hz HN
        go_wp2_with ((with_reducible refine is_load ?_); (refine own_ldV (h := ?_)))
        go_ret
        exact ⟨by rw [HE.out]; rfl, hO.keep.below⟩
      · have g1 : (z == x) = false := beq_eq_false_iff_ne.2 hz
        rw [if_neg hz] at hs
        have HE := Lib.hid hs
        clear hs hz HN
        go_wp2_with ((with_reducible refine is_load ?_); (refine own_ldV (h := ?_)))
        go_roundw
        case rel => exact ⟨i + 1, hlt, by go_num, Lib.hid HE.out.symm, hO⟩
        case measure => simp [intOf]; omega
    · have hl7 : dayL.length = 7 := rfl
      have HE : Hid (dayI x = -1) := Lib.hid (by
        obtain rfl : i = 7 := by omega
        exact HN.out.symm)
      have g0 : decide ((i : Int) < 7) = false := decide_eq_false (by omega)
      clear hl7
      go_wp2_with fail
      go_ret
      exact ⟨by rw [HE.out]; rfl, hO.keep.below⟩
set_option maxHeartbeats 4000000 in
theorem rtwo_any (x : Bs) (w : World) (hx : x.length ≤ 9223372036854775807) :
    Calls Tryz.prog 79 #[.string ⟨x.toArray⟩] w fun e w' => e = .returned (.int .i64 (pairI x)) ∧ Below w.heap.size w w' := by
  have hO := own_start [] w
  by_cases hl : x.length = 2
  · obtain ⟨a, b, rfl⟩ : ∃ a b, x = [a, b] := by
      match x, hl with
      | [a, b], _ => exact ⟨a, b, rfl⟩
    clear hl hx
    have e0 : (⟨#[a, b]⟩ : ByteArray)[0]'(by show 0 < 2; omega) = a := rfl
    have e1 : (⟨#[a, b]⟩ : ByteArray)[1]'(by show 1 < 2; omega) = b := rfl
    go_enter Tryz.func79, Tryz.ntmps79
    by_cases h1 : a.toNat < 48
    · have g1 : decide ((a.toNat : Int) < 48) = true := decide_eq_true (by omega)
      rw [pair_no (by omega)]
      go_wp2_with fail
      go_ret
      exact ⟨rfl, hO.keep.below⟩
    have g1 : decide ((a.toNat : Int) < 48) = false := decide_eq_false (by omega)
    by_cases h2 : 57 < a.toNat
    · have g2 : decide ((a.toNat : Int) > 57) = true := decide_eq_true (by omega)
      rw [pair_no (by omega)]
      go_wp2_with fail
      go_ret
      exact ⟨rfl, hO.keep.below⟩
    have g2 : decide ((a.toNat : Int) > 57) = false := decide_eq_false (by omega)
    by_cases h3 : b.toNat < 48
    · have g3 : decide ((b.toNat : Int) < 48) = true := decide_eq_true (by omega)
      rw [pair_no (by omega)]
      go_wp2_with fail
      go_ret
      exact ⟨rfl, hO.keep.below⟩
    have g3 : decide ((b.toNat : Int) < 48) = false := decide_eq_false (by omega)
    by_cases h4 : 57 < b.toNat
    · have g4 : decide ((b.toNat : Int) > 57) = true := decide_eq_true (by omega)
      rw [pair_no (by omega)]
      go_wp2_with fail
      go_ret
      exact ⟨rfl, hO.keep.below⟩
    have g4 : decide ((b.toNat : Int) > 57) = false := decide_eq_false (by omega)
    rw [pair_yes (by omega) (by omega) (by omega) (by omega), Int.mul_comm 10]
    have s1 : IntKind.u8.wrap ((a.toNat : Int) - 48) = (a.toNat : Int) - 48 := by rw [IntKind.wrap_u8]; omega
    have s2 : IntKind.u8.wrap ((b.toNat : Int) - 48) = (b.toNat : Int) - 48 := by rw [IntKind.wrap_u8]; omega
    have s3 : IntKind.i64.wrap ((a.toNat : Int) - 48) = (a.toNat : Int) - 48 := IntWalk.i64_in _ (by omega)
    have s4 : IntKind.i64.wrap ((b.toNat : Int) - 48) = (b.toNat : Int) - 48 := IntWalk.i64_in _ (by omega)
    have s5 : IntKind.i64.wrap (((a.toNat : Int) - 48) * 10) = ((a.toNat : Int) - 48) * 10 := IntWalk.i64_in _ (by omega)
    have s6 : IntKind.i64.wrap (((a.toNat : Int) - 48) * 10 + ((b.toNat : Int) - 48)) = ((a.toNat : Int) - 48) * 10 + ((b.toNat : Int) - 48) := IntWalk.i64_in _ (by omega)
    go_wp2_with fail
    (refine own_quiet hO (by kernel_rfl) (by kernel_rfl) ?_; clear hO; (repeat (go_big_quiet_want; (go_big_quiet_op; (first | go_big_quiet_on | ((refine ⟨_, fun _ _ => rfl, ?_⟩); go_big_quiet_on))))); (refine wpQuiet_nil ?_); intro wv hO)
    go_wp2_with fail
    go_ret
    exact ⟨rfl, hO.keep.below⟩
  · have g1 : ((x.length : Int) != 2) = true := by rw [bne_iff_ne]; omega
    rw [pair_len hl]
    go_enter Tryz.func79, Tryz.ntmps79
    go_wp2_with fail
    go_ret
    exact ⟨rfl, hO.keep.below⟩
theorem clkR_five {x : Bs} (h : x ≠ s24) (h5 : x.length = 5) : clkR x = if x[2] = 58 then (if 0 ≤ pairI (x.take 2) ∧ pairI (x.take 2) ≤ 23 ∧ 0 ≤ pairI (x.drop 3) ∧ pairI (x.drop 3) ≤ 59 then 60 * pairI (x.take 2) + pairI (x.drop 3) else -1) else -1 := by
  unfold clkR
  rw [if_neg h]
  by_cases h2 : x[2] = 58
  · rw [if_pos ⟨h5, by rw [List.getElem?_eq_getElem (by omega), h2]⟩, if_pos h2]
  · rw [if_neg h2, if_neg]
    rintro ⟨_, h3⟩
    rw [List.getElem?_eq_getElem (by omega)] at h3
    exact h2 (Option.some.inj h3)
theorem clkR_else {x : Bs} (h : x ≠ s24) (hl : x.length ≠ 5) : clkR x = -1 := by
  unfold clkR
  rw [if_neg h, if_neg fun h2 => hl h2.1]
theorem byte_ne {c d : UInt8} : ((c.toNat : Int) != (d.toNat : Int)) = !decide (c = d) := by
  by_cases h : c = d
  · subst h; simp
  · rw [decide_eq_false h]
    rw [bne_iff_ne.2]
    · rfl
    · intro e
      exact h (UInt8.toNat_inj.1 (by omega))
end Go.Proofs.YtfhkmkbfgmbbaaaGreatDoor

/- calendar.Format. -/
namespace Go.Proofs.YtfhkmkbfgmbbaaaGreatDoor
open Go.RowKit
set_option maxRecDepth 100000
theorem interD_len (lo hi : Int) (l : List Rg) : (interD lo hi l).length ≤ l.length := List.length_filterMap_le ..
/-- the parts that are written when i ranges of a day are done -/
def prt (l : List Rg) (d i : Nat) : List (Nat × Rg) := partsW l d ++ ((interD (1440 * d) (1440 * d + 1439) l).take i).map fun r => (d, r)
theorem prt_zero (l : List Rg) (d : Nat) : prt l d 0 = partsW l d := by unfold prt; simp
theorem prt_all (l : List Rg) (d : Nat) : prt l d (interD (1440 * d) (1440 * d + 1439) l).length = partsW l (d + 1) := by unfold prt; rw [List.take_length]; rfl
theorem prt_step {l : List Rg} {d i : Nat} (h : i < (interD (1440 * d) (1440 * d + 1439) l).length) : prt l d (i + 1) = prt l d i ++ [(d, (interD (1440 * d) (1440 * d + 1439) l)[i])] := by
  unfold prt
  rw [List.take_succ_eq_append_getElem h, List.map_append, List.append_assoc]; rfl
theorem partsW_len (l : List Rg) : ∀ n, (partsW l n).length ≤ n * l.length
  | 0 => by simp [partsW]
  | n + 1 => by
    have h1 := partsW_len l n
    have h2 := interD_len (1440 * n) (1440 * n + 1439) l
    rw [partsW, List.length_append, List.length_map, Nat.succ_mul]
    omega
theorem prt_len (l : List Rg) (d i : Nat) : (prt l d i).length ≤ (d + 1) * l.length := by
  have h1 := partsW_len l d
  have h2 := interD_len (1440 * d) (1440 * d + 1439) l
  unfold prt
  rw [List.length_append, List.length_map, List.length_take, Nat.succ_mul]
  omega
theorem words_le (l : List (Nat × Rg)) : (wordsF l).length ≤ 3 * l.length := by
  by_cases h : l = []
  · subst h; simp [wordsF]
  · have := words_len h; omega
theorem words_pos {l : List (Nat × Rg)} : 0 < (wordsF l).length ↔ l ≠ [] := by
  constructor
  · rintro h rfl; simp [wordsF] at h
  · intro h; have := words_len h
    have := List.length_pos_iff.2 h
    omega
theorem words_more {l : List (Nat × Rg)} (p : Nat × Rg) (h : 0 < (wordsF l).length) : wordsF (l ++ [p]) = wordsF l ++ [[44]] ++ [dayT p.1, tmT p.1 p.2] := by
  rw [words_snoc, if_neg (words_pos.1 h)]
theorem words_new {l : List (Nat × Rg)} (p : Nat × Rg) (h : ¬ 0 < (wordsF l).length) : wordsF l = [] ∧ wordsF (l ++ [p]) = [dayT p.1, tmT p.1 p.2] := by
  have h2 : l = [] := Classical.byContradiction fun e => h (words_pos.2 e)
  subst h2
  exact ⟨rfl, rfl⟩
theorem idx_days {k : Nat} (h : k < dayL.length) (w : World) : Sem.run Tryz.prog (Instr.index 49 (.agg (scs dayL).toArray) (.int .i64 k)) w = .ok (.string ⟨dayL[k].toArray⟩) w := by
  have h7 : k < 7 := h
  rcases (show k = 0 ∨ k = 1 ∨ k = 2 ∨ k = 3 ∨ k = 4 ∨ k = 5 ∨ k = 6 by omega) with rfl | rfl | rfl | rfl | rfl | rfl | rfl <;> rfl
theorem inter_day {l : List Rg} (hc : canR l) (hb : BndR l) (d : Nat) (hd : d < 7) : canI l [⟨1440 * d, 1440 * d + 1439⟩] = interD (1440 * d) (1440 * d + 1439) l :=
  (canI_is fun r hr => (List.mem_append.1 hr).elim (hb r) fun h => by
    obtain rfl := List.mem_singleton.1 h
    dsimp only; omega).uniq (interD_is hc)
theorem interD_in {lo hi : Int} {l : List Rg} {q : Rg} (h : q ∈ interD lo hi l) : lo ≤ q.lo ∧ q.lo ≤ q.hi ∧ q.hi ≤ hi := by
  obtain ⟨r, _, h1, rfl⟩ := mem_interD.1 h
  dsimp only
  omega
theorem lit_cells {w : World} {n k : Nat} {xs : List Value} (h : w.rangeAt n 0 xs) : IsCells w (.slice (some ⟨n, 0, none⟩) k k) k xs := .inr ⟨n, 0, k, rfl, Nat.le_refl _, h⟩
theorem own_front {M : List Nat} {w0 w : World} {X : List Chunk} {R : List Row} {A : List Ro} {q : Ro} (hO : Own M w0 X R (A ++ [q]) w) : Own M w0 X R (q :: A) w :=
  hO.sub (.refl _) (.refl _) fun s hs => by
    rcases List.mem_cons.1 hs with rfl | hs
    · exact List.mem_append_right _ List.mem_cons_self
    · exact List.mem_append_left _ hs
set_option maxHeartbeats 16000000 in
theorem format_any {vl : Value} {l : List Rg} (w : World) (hv : IsCells w vl l.length (rcs l)) (hn : l.length ≤ 1000000000) (hb : BndR l) (hN : Nms w) :
    Calls Tryz.prog 9 #[vl] w (RetTexts w (if winB 10079 l then fmtF l else [])) := by
  have hO := own_front (own_cellsA (own_nms hN) hv)
  have hva := fun w' h => valid9_any (vl := vl) (l := l) 10079 w' h (by omega) hb
  obtain ⟨a, c, rfl, ha⟩ := formC_view (isCells_form hv)
  cases hw : winB 10079 l with
  | false =>
    rw [hw] at hva
    rw [if_neg Bool.false_ne_true]
    go_enter Tryz.func9, Tryz.ntmps9
    go_wp2_with (go_at_call 20; (with_reducible refine (hva _ (hv.below hO.keep.below)).mono ?_); rintro e wv ⟨rfl, hb⟩; replace hO := hO.call hb; clear hb)
    go_ret
    exact ⟨_, rfl, ⟨.inl ⟨rfl, rfl, rfl⟩, fun g h => by cases h⟩, hO.keep.below⟩
  | true =>
    rw [hw] at hva
    rw [if_pos rfl]
    have hwk := winB_iff.1 hw
    obtain ⟨hc, -⟩ := wok_can hwk
    clear hw hwk
    by_cases hl0 : l.length = 0
    · have hF : fmtF l = nevW := by unfold fmtF; rw [if_pos (List.length_eq_zero_iff.1 hl0)]
      rw [hF]
      clear hF
      have g1 : ((l.length : Int) == 0) = true := beq_iff_eq.2 (by omega)
      clear hl0
      go_enter Tryz.func9, Tryz.ntmps9
      go_wp2_with (first | (go_at_call 20; (with_reducible refine (hva _ (hv.below hO.keep.below)).mono ?_); rintro e wv ⟨rfl, hb⟩; replace hO := hO.call hb; clear hb) | ((with_reducible refine is_build ?_); (refine' own_buildP (o := ⟨some 15, _, _, _, _, _⟩) [.string ⟨#[110, 101, 118, 101, 114]⟩] hO (by rfl) rfl slice_strings rfl rfl (by rfl) (by decide) (by decide) ?_); clear hO; intro n15 wv hO))
      go_ret
      exact ⟨_, rfl, ⟨.inr ⟨n15, 0, 1, rfl, Nat.le_refl _, own_chunkAt hO List.mem_cons_self⟩, own_chunkNew hO List.mem_cons_self 1 1⟩, hO.keep.below⟩
    · have g1 : ((l.length : Int) == 0) = false := beq_eq_false_iff_ne.2 (by omega)
      have hF : fmtF l = wordsF (partsW l 7) := by unfold fmtF; rw [if_neg (fun h => hl0 (by rw [h]; rfl))]
      rw [hF]
      clear hF
      go_enter Tryz.func9, Tryz.ntmps9
      go_wp2_with (first | ((with_reducible refine is_load ?_); (refine own_ldV (h := ?_))) | (go_at_call 20; (with_reducible refine (hva _ (hv.below hO.keep.below)).mono ?_); rintro e wv ⟨rfl, hb⟩; replace hO := hO.call hb; clear hb))
      replace hO := hO.nilRow 9 1
      go_loopw [3, 17] (fun r q wr => ∃ (d : Nat) (m : List Bs), d ≤ 7 ∧ q = .int .i64 d ∧ Hid (m = wordsF (partsW l d)) ∧ Own [] w [] [⟨r, m.length, scs m, 9, 1⟩] (⟨0, 0, scs dayL⟩ :: roS (.slice a l.length c) (rcs l)) wr) (fun _ q _ => 7 - (intOf q).toNat)
      case atStart => exact ⟨0, [], by omega, rfl, Lib.hid rfl, hO⟩
      case round =>
        clear hO
        obtain ⟨d, m, hd, rfl, HM, hO⟩ := hrel
        have s0 : IntKind.i64.wrap ((d : Int) + 1) = (d : Int) + 1 := IntWalk.i64_in _ (by omega)
        by_cases hlt : d < 7
        · have g2 : decide ((d : Int) < 7) = true := decide_eq_true (by omega)
          have hk : d < dayL.length := hlt
          have cI := fun w => idx_days hk w
          have hT := dayT_at hk
          have hD : canI l [⟨1440 * d, 1440 * d + 1439⟩] = interD (1440 * d) (1440 * d + 1439) l := inter_day hc hb d hlt
          have hIn := fun q (hq : q ∈ interD (1440 * d) (1440 * d + 1439) l) => interD_in hq
          have hDL := interD_len (1440 * d) (1440 * d + 1439) l
          have HZ := Lib.hid (prt_zero l d)
          have HA := Lib.hid (prt_all l d)
          have HS : Hid (∀ (i : Nat) (h : i < (interD (1440 * d) (1440 * d + 1439) l).length), prt l d (i + 1) = prt l d i ++ [(d, (interD (1440 * d) (1440 * d + 1439) l)[i])]) := Lib.hid fun i h => prt_step h
          have hPL : ∀ i, (wordsF (prt l d i)).length ≤ 21 * l.length := fun i => by
            have h1 := words_le (prt l d i)
            have h2 := prt_len l d i
            have h3 : (d + 1) * l.length ≤ 7 * l.length := Nat.mul_le_mul_right _ (by omega)
            omega
          have hI : ∀ n w, IsCells w (.slice a l.length c) l.length (rcs l) → IsCells w (.slice (some ⟨n, 0, none⟩) 1 1) 1 [.int .u32 (1440 * (d : Int)), .int .u32 (1440 * (d : Int) + 1439)] → Calls Tryz.prog 21 #[.slice a l.length c, .slice (some ⟨n, 0, none⟩) 1 1] w (RetRgs w (interD (1440 * d) (1440 * d + 1439) l)) := fun n w h1 h2 => by
            have h3 := inter_any (lb := [⟨1440 * d, 1440 * d + 1439⟩]) w h1 h2 hn (by simp) hb (fun r hr => by
              obtain rfl := List.mem_singleton.1 hr
              dsimp only; omega)
            rwa [hD] at h3
          clear hD
          have h15 : ∃ A : Int, A = 1440 * (d : Int) := ⟨_, rfl⟩
          obtain ⟨A, hA⟩ := h15
          have t1 : IntKind.i64.wrap ((d : Int) * 1440) = A := by rw [IntWalk.i64_in _ (by omega)]; omega
          have a0 : 0 ≤ A := by omega
          have a1 : A ≤ 8640 := by omega
          rw [← hA] at hI hIn hDL HA HS
          generalize interD A (A + 1439) l = D at *
          rw [show dayL[d] = dayT d from hT.symm] at cI
          clear hT
          generalize hz : dayT d = z at *
          have HQ : Hid (∀ (r : Rg), tmT d r = timeT (r.lo - A).toNat ++ 45 :: timeT (r.hi - A + 1).toNat) := Lib.hid fun r => by rw [hA]; rfl
          have HY := Lib.hid hz
          clear hA hz
          have t2 : IntKind.u32.wrap A = A := by rw [IntKind.wrap_u32]; omega
          have t3 : IntKind.i64.wrap (A + 1440) = A + 1440 := IntWalk.i64_in _ (by omega)
          have t4 : IntKind.i64.wrap (A + 1440 - 1) = A + 1439 := by rw [IntWalk.i64_in _ (by omega)]; omega
          have t5 : IntKind.u32.wrap (A + 1439) = A + 1439 := by rw [IntKind.wrap_u32]; omega
          go_wp2_with (first | ((with_reducible refine is_load ?_); (refine own_ldV (h := ?_))) | ((with_reducible refine is_store ?_); (refine own_stRV (hO := hO) (h := ?_); clear hO; intro wv hO)) | ((with_reducible refine is_alloc ?_); (refine own_alV (o := ⟨some 6, _, _, _, _, _⟩) (hO := hO) (h := ?_); clear hO; intro n6 wv hO)) | ((with_reducible refine is_build ?_); (refine' own_build1 (o := ⟨some 32, _, _, _, _, _⟩) hO (by rfl) rfl rfl ?hu ?hf ?_; (case hu => (with_reducible (exact und_Ranges))); (case hf => kernel_rfl); clear hO; intro n32 wv hO)) | (go_at_call 21; (with_reducible refine (hI _ _ (hv.below hO.keep.below) (lit_cells (own_chunkAt hO List.mem_cons_self))).mono ?_); rintro e wv ⟨v9, rfl, ⟨hv9, hn9⟩, hb9⟩; have hf9 := isCells_form hv9; replace hO := hO.gainC hb9 hv9 hn9; clear hb9 hv9 hn9; obtain ⟨a9, c9, rfl, ha9⟩ := hf9.view; clear hf9))
          replace hO := hO.sub (X' := [⟨n6, [.int .u32 A, .int .u32 (A + 1439)], 46⟩]) (.cons _ (.refl _)) (.refl _) (fun _ h => h)
          clear t1 t2 t3 t4 t5 cI
          go_loopw [3, 35] (fun r q wr => ∃ (i : Nat) (m : List Bs), i ≤ D.length ∧ q = .int .i64 i ∧ Hid (m = wordsF (prt l d i)) ∧ Own [] w [⟨n6, [.int .u32 A, .int .u32 (A + 1439)], 46⟩] [⟨r, m.length, scs m, 9, 1⟩] (roS (.slice a9 D.length c9) (rcs D) ++ ⟨0, 0, scs dayL⟩ :: roS (.slice a l.length c) (rcs l)) wr) (fun _ q _ => D.length - (intOf q).toNat)
          case atStart => exact ⟨0, m, by omega, rfl, Lib.hid (by rw [HZ.out]; exact HM.out), hO⟩
          case round =>
            clear hO HM
            obtain ⟨i, m, hi, rfl, HM, hO⟩ := hrel
            have s9 : IntKind.i64.wrap ((i : Int) + 1) = (i : Int) + 1 := IntWalk.i64_in _ (by omega)
            have hml := hPL i
            rw [← HM.out] at hml
            by_cases hlt2 : i < D.length
            · have g3 : decide ((i : Int) < (D.length : Int)) = true := decide_eq_true (by omega)
              obtain ⟨g9, o9, rfl⟩ := ha9 (by omega)
              rw [show roS (.slice (some ⟨g9, o9, none⟩) D.length c9) (rcs D) = [⟨g9, o9, rcs D⟩] from rfl, List.cons_append, List.nil_append] at hO
              have y1 := rcs_two hlt2
              obtain ⟨b1, b2, b3⟩ := hIn _ (List.getElem_mem hlt2)
              have HS2 := Lib.hid (HS.out i hlt2)
              have HQ2 := Lib.hid (HQ.out D[i])
              generalize D[i] = r at *
              have h5 : ∀ w, Calls Tryz.prog 22 #[.int .i64 (r.lo - A)] w fun e w' => e = .returned (.string ⟨(timeT (r.lo - A).toNat).toArray⟩) ∧ Below w.heap.size w w' := fun w => by
                have h := time_any (r.lo - A).toNat w (by omega)
                rwa [Int.toNat_of_nonneg (by omega)] at h
              have h6 : ∀ w, Calls Tryz.prog 22 #[.int .i64 (r.hi - A + 1)] w fun e w' => e = .returned (.string ⟨(timeT (r.hi - A + 1).toNat).toArray⟩) ∧ Below w.heap.size w w' := fun w => by
                have h := time_any (r.hi - A + 1).toNat w (by omega)
                rwa [Int.toNat_of_nonneg (by omega)] at h
              have l1 := timeT_len (r.lo - A).toNat
              have l2 := timeT_len (r.hi - A + 1).toNat
              generalize timeT (r.lo - A).toNat = x at *
              generalize timeT (r.hi - A + 1).toNat = y at *
              have k1 : ¬ 9223372036854775807 < x.length + 1 := by omega
              have k2 : ¬ 9223372036854775807 < x.length + 1 + y.length := by omega
              have t1 : IntKind.u32.wrap (r.lo - A) = r.lo - A := by rw [IntKind.wrap_u32]; omega
              have t2 : IntKind.u32.wrap (r.hi - A) = r.hi - A := by rw [IntKind.wrap_u32]; omega
              have t3 : IntKind.i64.wrap (r.lo - A) = r.lo - A := IntWalk.i64_in _ (by omega)
              have t4 : IntKind.i64.wrap (r.hi - A) = r.hi - A := IntWalk.i64_in _ (by omega)
              have t5 : IntKind.i64.wrap (r.hi - A + 1) = r.hi - A + 1 := IntWalk.i64_in _ (by omega)
              clear l1 l2 HQ HZ HA hPL hI b1 b2 b3
              by_cases hp : 0 < m.length
              · have g4 : decide ((m.length : Int) > 0) = true := decide_eq_true (by omega)
                have HW := Lib.hid (words_more (l := prt l d i) (d, r) (by rw [← HM.out]; exact hp))
                have HE : Hid (m ++ [[44]] ++ [z, x ++ ([45] ++ y)] = wordsF (prt l d (i + 1))) := Lib.hid (by
                  rw [HS2.out, HW.out, ← HM.out, HY.out, HQ2.out]; rfl)
                have HC : Hid (scs m ++ [Value.string ⟨#[44]⟩] ++ [Value.string ⟨z.toArray⟩, Value.string ⟨(x ++ ([45] ++ y)).toArray⟩] = scs (m ++ [[44]] ++ [z, x ++ ([45] ++ y)])) := Lib.hid (by simp [scs])
                clear HM HS2 HW HQ2
                obtain ⟨a7, c7, rfl, -⟩ := own_view hO List.mem_cons_self
                go_upto_region 15 with (first | ((with_reducible refine is_load ?_); (refine own_ldV (h := ?_))) | ((with_reducible refine is_store ?_); (refine own_stRV (hO := hO) (h := ?_); clear hO; intro wv hO)) | ((with_reducible refine is_alloc ?_); (refine own_alV (o := ⟨some 8, _, _, _, _, _⟩) (hO := hO) (h := ?_); clear hO; intro n8 wv hO)) | ((with_reducible refine is_append ?_); (refine own_apV (o := ⟨some 44, _, _, _, _, _⟩) (hO := hO) (h := ?_); clear hO; intro g44 c44 wv hO)) | ((with_reducible refine is_build ?_); (refine' own_buildP (o := ⟨some 43, _, _, _, _, _⟩) [.string ⟨#[44]⟩] hO (by rfl) rfl slice_strings rfl rfl (by rfl) (by decide) (by decide) ?_); clear hO; intro n43 wv hO))
                refine wp_region_held (S := (Own [] w [⟨n8, [.int .u32 r.lo, .int .u32 r.hi], 46⟩, ⟨n6, [.int .u32 A, .int .u32 (A + 1439)], 46⟩] [] [])) (by kernel_rfl) ?_
                replace hO := hO.drew
                have hC : (Own [] w [⟨n8, [.int .u32 r.lo, .int .u32 r.hi], 46⟩, ⟨n6, [.int .u32 A, .int .u32 (A + 1439)], 46⟩] [] []) _ := hO.cls
                refine wpAnyH_tk 0 hC ?_
                (go_big_quiet_want; (go_big_quiet_op; (go_big_quiet_on))); (refine wpQuiet_nil ?_)
                refine wpAnyH_tk 1 hC ?_
                (go_big_quiet_want; (go_big_quiet_op; (go_big_quiet_on))); (refine wpQuiet_nil ?_)
                refine wpAnyH_tk 2 hC ?_
                (go_big_quiet_want; (go_big_quiet_op; ((refine ⟨_, fun _ _ => rfl, ?_⟩); go_big_quiet_on))); (refine wpQuiet_nil ?_)
                refine wpAnyH_tk 3 hC ?_
                (go_big_quiet_want; ((with_reducible refine is_loadQ ?_); (refine q_ldV (h := ?_)); (try simp only [Act.put]); (try simp only [List.setIfInBounds_toArray, List.set_cons_zero, List.set_cons_succ]); go_big_quiet_on)); (refine wpQuiet_nil ?_)
                refine wpAnyH_tk 4 hC ?_
                (go_big_quiet_want; (go_big_quiet_op; ((refine ⟨_, fun _ _ => rfl, ?_⟩); go_big_quiet_on))); (refine wpQuiet_nil ?_)
                refine wpAnyH_tk 5 hC ?_
                (go_big_quiet_want; ((with_reducible refine is_loadQ ?_); (refine q_ldV (h := ?_)); (try simp only [Act.put]); (try simp only [List.setIfInBounds_toArray, List.set_cons_zero, List.set_cons_succ]); go_big_quiet_on)); (refine wpQuiet_nil ?_)
                refine wpAnyH_tk 6 hC ?_
                (go_big_quiet_want; (go_big_quiet_op; ((refine ⟨_, fun _ _ => rfl, ?_⟩); go_big_quiet_on))); (refine wpQuiet_nil ?_)
                refine wpAnyH_tk 7 hC ?_
                (go_big_quiet_want; (go_big_quiet_op; ((refine ⟨_, fun _ _ => rfl, ?_⟩); go_big_quiet_on))); (refine wpQuiet_nil ?_)
                refine wpAnyH_tk 10 hC ?_
                (go_big_quiet_want; (go_big_quiet_op; ((refine ⟨_, fun _ _ => rfl, ?_⟩); go_big_quiet_on))); (refine wpQuiet_nil ?_)
                refine wpAnyH_tk 11 hC ?_
                (go_big_quiet_want; ((with_reducible refine is_loadQ ?_); (refine q_ldV (h := ?_)); (try simp only [Act.put]); (try simp only [List.setIfInBounds_toArray, List.set_cons_zero, List.set_cons_succ]); go_big_quiet_on)); (refine wpQuiet_nil ?_)
                refine wpAnyH_tk 12 hC ?_
                (go_big_quiet_want; (go_big_quiet_op; ((refine ⟨_, fun _ _ => rfl, ?_⟩); go_big_quiet_on))); (refine wpQuiet_nil ?_)
                refine wpAnyH_tk 13 hC ?_
                (go_big_quiet_want; ((with_reducible refine is_loadQ ?_); (refine q_ldV (h := ?_)); (try simp only [Act.put]); (try simp only [List.setIfInBounds_toArray, List.set_cons_zero, List.set_cons_succ]); go_big_quiet_on)); (refine wpQuiet_nil ?_)
                refine wpAnyH_tk 14 hC ?_
                (go_big_quiet_want; (go_big_quiet_op; ((refine ⟨_, fun _ _ => rfl, ?_⟩); go_big_quiet_on))); (refine wpQuiet_nil ?_)
                refine wpAnyH_tk 15 hC ?_
                (go_big_quiet_want; (go_big_quiet_op; ((refine ⟨_, fun _ _ => rfl, ?_⟩); go_big_quiet_on))); (refine wpQuiet_nil ?_)
                refine wpAnyH_tk 16 hC ?_
                (go_big_quiet_want; (go_big_quiet_op; ((refine ⟨_, fun _ _ => rfl, ?_⟩); go_big_quiet_on))); (refine wpQuiet_nil ?_)
                refine wpAnyH_1 8 ?_
                rotate_left 1
                all_goals
                  refine wpOp_of_listL rfl ?_
                  ((refine wpList_step (fun K hK => ?_)); go_simp; ((go_at_call 22; (with_reducible refine (h5 _).mono ?_); rintro e wv ⟨rfl, hb⟩; replace hO := hO.call hb; clear hb); (try simp only []); (refine hK _ _ ?_); clear hK K))
                  refine wpList_done (qk_intro ?_)
                  replace hC : (Own [] w [⟨n8, [.int .u32 r.lo, .int .u32 r.hi], 46⟩, ⟨n6, [.int .u32 A, .int .u32 (A + 1439)], 46⟩] [] []) _ := hO.cls
                  refine ⟨hC, ?_⟩
                refine wpAnyH_tk 9 hC ?_
                (go_big_quiet_want; (go_big_quiet_op; ((refine ⟨_, fun _ _ => rfl, ?_⟩); go_big_quiet_on))); (refine wpQuiet_nil ?_)
                refine wpAnyH_1 17 ?_
                rotate_left 1
                all_goals
                  refine wpOp_of_listL rfl ?_
                  ((refine wpList_step (fun K hK => ?_)); go_simp; ((go_at_call 22; (with_reducible refine (h6 _).mono ?_); rintro e wv ⟨rfl, hb⟩; replace hO := hO.call hb; clear hb); (try simp only []); (refine hK _ _ ?_); clear hK K))
                  refine wpList_done (qk_intro ?_)
                  replace hC : (Own [] w [⟨n8, [.int .u32 r.lo, .int .u32 r.hi], 46⟩, ⟨n6, [.int .u32 A, .int .u32 (A + 1439)], 46⟩] [] []) _ := hO.cls
                  refine ⟨hC, ?_⟩
                refine wpAnyH_tk 18 hC ?_
                (go_big_quiet_want; (go_big_quiet_op; ((refine ⟨_, fun _ _ => rfl, ?_⟩); go_big_quiet_on))); (refine wpQuiet_nil ?_)
                refine wpAnyH_1 19 ?_
                rotate_left 1
                all_goals
                  refine wpOp_of_listL rfl ?_
                  ((with_reducible refine is_build ?_); (refine' own_buildP (o := ⟨some 64, _, _, _, _, _⟩) [.string ⟨z.toArray⟩, .string (⟨x.toArray⟩ ++ ⟨#[45]⟩ ++ ⟨y.toArray⟩)] hO (by rfl) rfl slice_strings rfl rfl (by rfl) (by decide) (by decide) ?_); clear hO; intro n64 wv hO); (try simp only [Act.put]); (try simp only [List.setIfInBounds_toArray, List.set_cons_zero, List.set_cons_succ])
                  refine wpList_done (qk_intro ?_)
                  replace hC : (Own [] w [⟨n8, [.int .u32 r.lo, .int .u32 r.hi], 46⟩, ⟨n6, [.int .u32 A, .int .u32 (A + 1439)], 46⟩] [] []) _ := hO.cls
                  refine ⟨hC, ?_⟩
                refine wpAnyH_1 20 ?_
                rotate_left 1
                all_goals
                  refine wpOp_of_listL rfl ?_
                  ((with_reducible refine is_append ?_); (refine own_apV (o := ⟨some 65, _, _, _, _, _⟩) (hO := hO) (h := ?_); clear hO; intro g65 c65 wv hO)); (try simp only [Act.put]); (try simp only [List.setIfInBounds_toArray, List.set_cons_zero, List.set_cons_succ])
                  refine wpList_done (qk_intro ?_)
                  replace hC : (Own [] w [⟨n8, [.int .u32 r.lo, .int .u32 r.hi], 46⟩, ⟨n6, [.int .u32 A, .int .u32 (A + 1439)], 46⟩] [] []) _ := hO.cls
                  refine ⟨hC, ?_⟩
                refine wpAnyH_1 21 ?_
                rotate_left 1
                all_goals
                  refine wpOp_of_listL rfl ?_
                  ((refine wpList_step (fun K hK => ?_)); go_simp; ((refine hK _ _ ?_); clear hK K))
                  refine wpList_done (qk_intro ?_)
                  replace hC : (Own [] w [⟨n8, [.int .u32 r.lo, .int .u32 r.hi], 46⟩, ⟨n6, [.int .u32 A, .int .u32 (A + 1439)], 46⟩] [] []) _ := hO.cls
                  refine ⟨hC, ?_⟩
                refine wpAnyH_done (by kernel_rfl) ?_ _
                rotate_left
                all_goals clear hC
                all_goals
                  rw [show (⟨x.toArray⟩ : ByteArray) ++ ⟨#[45]⟩ ++ ⟨y.toArray⟩ = ⟨(x ++ ([45] ++ y)).toArray⟩ from cat3 x [45] y] at hO
                  rw [HC.out] at hO
                  go_wp2_with fail
                  go_roundw
                  case rel => exact ⟨i + 1, _, by omega, by go_num, HE, by (repeat rw [List.length_append]); exact hO.sub (X' := [⟨n6, [.int .u32 A, .int .u32 (A + 1439)], 46⟩]) (by repeat (first | exact List.Sublist.refl _ | apply List.Sublist.cons)) (.refl _) (fun _ h => h)⟩
                  case measure => simp [intOf]; omega
              · have g4 : decide ((m.length : Int) > 0) = false := decide_eq_false (by omega)
                have HW := Lib.hid (words_new (l := prt l d i) (d, r) (by rw [← HM.out]; exact hp))
                have HE : Hid (m ++ [z, x ++ ([45] ++ y)] = wordsF (prt l d (i + 1))) := Lib.hid (by
                  rw [HS2.out, HW.out.2, HM.out, HW.out.1, HY.out, HQ2.out]; rfl)
                have HC : Hid (scs m ++ [Value.string ⟨z.toArray⟩, Value.string ⟨(x ++ ([45] ++ y)).toArray⟩] = scs (m ++ [z, x ++ ([45] ++ y)])) := Lib.hid (by simp [scs])
                clear HM HS2 HW HQ2
                obtain ⟨a7, c7, rfl, -⟩ := own_view hO List.mem_cons_self
                go_upto_region 15 with (first | ((with_reducible refine is_load ?_); (refine own_ldV (h := ?_))) | ((with_reducible refine is_store ?_); (refine own_stRV (hO := hO) (h := ?_); clear hO; intro wv hO)) | ((with_reducible refine is_alloc ?_); (refine own_alV (o := ⟨some 8, _, _, _, _, _⟩) (hO := hO) (h := ?_); clear hO; intro n8 wv hO)))
                refine wp_region_held (S := (Own [] w [⟨n8, [.int .u32 r.lo, .int .u32 r.hi], 46⟩, ⟨n6, [.int .u32 A, .int .u32 (A + 1439)], 46⟩] [] [])) (by kernel_rfl) ?_
                replace hO := hO.drew
                have hC : (Own [] w [⟨n8, [.int .u32 r.lo, .int .u32 r.hi], 46⟩, ⟨n6, [.int .u32 A, .int .u32 (A + 1439)], 46⟩] [] []) _ := hO.cls
                refine wpAnyH_tk 0 hC ?_
                (go_big_quiet_want; (go_big_quiet_op; (go_big_quiet_on))); (refine wpQuiet_nil ?_)
                refine wpAnyH_tk 1 hC ?_
                (go_big_quiet_want; (go_big_quiet_op; (go_big_quiet_on))); (refine wpQuiet_nil ?_)
                refine wpAnyH_tk 2 hC ?_
                (go_big_quiet_want; (go_big_quiet_op; ((refine ⟨_, fun _ _ => rfl, ?_⟩); go_big_quiet_on))); (refine wpQuiet_nil ?_)
                refine wpAnyH_tk 3 hC ?_
                (go_big_quiet_want; ((with_reducible refine is_loadQ ?_); (refine q_ldV (h := ?_)); (try simp only [Act.put]); (try simp only [List.setIfInBounds_toArray, List.set_cons_zero, List.set_cons_succ]); go_big_quiet_on)); (refine wpQuiet_nil ?_)
                refine wpAnyH_tk 4 hC ?_
                (go_big_quiet_want; (go_big_quiet_op; ((refine ⟨_, fun _ _ => rfl, ?_⟩); go_big_quiet_on))); (refine wpQuiet_nil ?_)
                refine wpAnyH_tk 5 hC ?_
                (go_big_quiet_want; ((with_reducible refine is_loadQ ?_); (refine q_ldV (h := ?_)); (try simp only [Act.put]); (try simp only [List.setIfInBounds_toArray, List.set_cons_zero, List.set_cons_succ]); go_big_quiet_on)); (refine wpQuiet_nil ?_)
                refine wpAnyH_tk 6 hC ?_
                (go_big_quiet_want; (go_big_quiet_op; ((refine ⟨_, fun _ _ => rfl, ?_⟩); go_big_quiet_on))); (refine wpQuiet_nil ?_)
                refine wpAnyH_tk 7 hC ?_
                (go_big_quiet_want; (go_big_quiet_op; ((refine ⟨_, fun _ _ => rfl, ?_⟩); go_big_quiet_on))); (refine wpQuiet_nil ?_)
                refine wpAnyH_tk 10 hC ?_
                (go_big_quiet_want; (go_big_quiet_op; ((refine ⟨_, fun _ _ => rfl, ?_⟩); go_big_quiet_on))); (refine wpQuiet_nil ?_)
                refine wpAnyH_tk 11 hC ?_
                (go_big_quiet_want; ((with_reducible refine is_loadQ ?_); (refine q_ldV (h := ?_)); (try simp only [Act.put]); (try simp only [List.setIfInBounds_toArray, List.set_cons_zero, List.set_cons_succ]); go_big_quiet_on)); (refine wpQuiet_nil ?_)
                refine wpAnyH_tk 12 hC ?_
                (go_big_quiet_want; (go_big_quiet_op; ((refine ⟨_, fun _ _ => rfl, ?_⟩); go_big_quiet_on))); (refine wpQuiet_nil ?_)
                refine wpAnyH_tk 13 hC ?_
                (go_big_quiet_want; ((with_reducible refine is_loadQ ?_); (refine q_ldV (h := ?_)); (try simp only [Act.put]); (try simp only [List.setIfInBounds_toArray, List.set_cons_zero, List.set_cons_succ]); go_big_quiet_on)); (refine wpQuiet_nil ?_)
                refine wpAnyH_tk 14 hC ?_
                (go_big_quiet_want; (go_big_quiet_op; ((refine ⟨_, fun _ _ => rfl, ?_⟩); go_big_quiet_on))); (refine wpQuiet_nil ?_)
                refine wpAnyH_tk 15 hC ?_
                (go_big_quiet_want; (go_big_quiet_op; ((refine ⟨_, fun _ _ => rfl, ?_⟩); go_big_quiet_on))); (refine wpQuiet_nil ?_)
                refine wpAnyH_tk 16 hC ?_
                (go_big_quiet_want; (go_big_quiet_op; ((refine ⟨_, fun _ _ => rfl, ?_⟩); go_big_quiet_on))); (refine wpQuiet_nil ?_)
                refine wpAnyH_1 8 ?_
                rotate_left 1
                all_goals
                  refine wpOp_of_listL rfl ?_
                  ((refine wpList_step (fun K hK => ?_)); go_simp; ((go_at_call 22; (with_reducible refine (h5 _).mono ?_); rintro e wv ⟨rfl, hb⟩; replace hO := hO.call hb; clear hb); (try simp only []); (refine hK _ _ ?_); clear hK K))
                  refine wpList_done (qk_intro ?_)
                  replace hC : (Own [] w [⟨n8, [.int .u32 r.lo, .int .u32 r.hi], 46⟩, ⟨n6, [.int .u32 A, .int .u32 (A + 1439)], 46⟩] [] []) _ := hO.cls
                  refine ⟨hC, ?_⟩
                refine wpAnyH_tk 9 hC ?_
                (go_big_quiet_want; (go_big_quiet_op; ((refine ⟨_, fun _ _ => rfl, ?_⟩); go_big_quiet_on))); (refine wpQuiet_nil ?_)
                refine wpAnyH_1 17 ?_
                rotate_left 1
                all_goals
                  refine wpOp_of_listL rfl ?_
                  ((refine wpList_step (fun K hK => ?_)); go_simp; ((go_at_call 22; (with_reducible refine (h6 _).mono ?_); rintro e wv ⟨rfl, hb⟩; replace hO := hO.call hb; clear hb); (try simp only []); (refine hK _ _ ?_); clear hK K))
                  refine wpList_done (qk_intro ?_)
                  replace hC : (Own [] w [⟨n8, [.int .u32 r.lo, .int .u32 r.hi], 46⟩, ⟨n6, [.int .u32 A, .int .u32 (A + 1439)], 46⟩] [] []) _ := hO.cls
                  refine ⟨hC, ?_⟩
                refine wpAnyH_tk 18 hC ?_
                (go_big_quiet_want; (go_big_quiet_op; ((refine ⟨_, fun _ _ => rfl, ?_⟩); go_big_quiet_on))); (refine wpQuiet_nil ?_)
                refine wpAnyH_1 19 ?_
                rotate_left 1
                all_goals
                  refine wpOp_of_listL rfl ?_
                  ((with_reducible refine is_build ?_); (refine' own_buildP (o := ⟨some 64, _, _, _, _, _⟩) [.string ⟨z.toArray⟩, .string (⟨x.toArray⟩ ++ ⟨#[45]⟩ ++ ⟨y.toArray⟩)] hO (by rfl) rfl slice_strings rfl rfl (by rfl) (by decide) (by decide) ?_); clear hO; intro n64 wv hO); (try simp only [Act.put]); (try simp only [List.setIfInBounds_toArray, List.set_cons_zero, List.set_cons_succ])
                  refine wpList_done (qk_intro ?_)
                  replace hC : (Own [] w [⟨n8, [.int .u32 r.lo, .int .u32 r.hi], 46⟩, ⟨n6, [.int .u32 A, .int .u32 (A + 1439)], 46⟩] [] []) _ := hO.cls
                  refine ⟨hC, ?_⟩
                refine wpAnyH_1 20 ?_
                rotate_left 1
                all_goals
                  refine wpOp_of_listL rfl ?_
                  ((with_reducible refine is_append ?_); (refine own_apV (o := ⟨some 65, _, _, _, _, _⟩) (hO := hO) (h := ?_); clear hO; intro g65 c65 wv hO)); (try simp only [Act.put]); (try simp only [List.setIfInBounds_toArray, List.set_cons_zero, List.set_cons_succ])
                  refine wpList_done (qk_intro ?_)
                  replace hC : (Own [] w [⟨n8, [.int .u32 r.lo, .int .u32 r.hi], 46⟩, ⟨n6, [.int .u32 A, .int .u32 (A + 1439)], 46⟩] [] []) _ := hO.cls
                  refine ⟨hC, ?_⟩
                refine wpAnyH_1 21 ?_
                rotate_left 1
                all_goals
                  refine wpOp_of_listL rfl ?_
                  ((refine wpList_step (fun K hK => ?_)); go_simp; ((refine hK _ _ ?_); clear hK K))
                  refine wpList_done (qk_intro ?_)
                  replace hC : (Own [] w [⟨n8, [.int .u32 r.lo, .int .u32 r.hi], 46⟩, ⟨n6, [.int .u32 A, .int .u32 (A + 1439)], 46⟩] [] []) _ := hO.cls
                  refine ⟨hC, ?_⟩
                refine wpAnyH_done (by kernel_rfl) ?_ _
                rotate_left
                all_goals clear hC
                all_goals
                  rw [show (⟨x.toArray⟩ : ByteArray) ++ ⟨#[45]⟩ ++ ⟨y.toArray⟩ = ⟨(x ++ ([45] ++ y)).toArray⟩ from cat3 x [45] y] at hO
                  rw [HC.out] at hO
                  go_wp2_with fail
                  go_roundw
                  case rel => exact ⟨i + 1, _, by omega, by go_num, HE, by (repeat rw [List.length_append]); exact hO.sub (X' := [⟨n6, [.int .u32 A, .int .u32 (A + 1439)], 46⟩]) (by repeat (first | exact List.Sublist.refl _ | apply List.Sublist.cons)) (.refl _) (fun _ h => h)⟩
                  case measure => simp [intOf]; omega
            · have g3 : decide ((i : Int) < (D.length : Int)) = false := decide_eq_false (by omega)
              have HE : Hid (m = wordsF (partsW l (d + 1))) := Lib.hid (by
                rw [HM.out, show i = D.length by omega, HA.out])
              clear HM
              go_wp2_with fail
              go_roundw
              case rel => exact ⟨d + 1, m, by omega, by go_num, HE, hO.sub (X' := []) (List.nil_sublist _) (.refl _) (fun s hs => List.mem_append_right _ hs)⟩
              case measure => simp [intOf]; omega
        · have g2 : decide ((d : Int) < 7) = false := decide_eq_false (by omega)
          obtain rfl : d = 7 := by omega
          have HE := HM.out
          subst HE
          clear HM
          go_wp2_with fail
          go_ret
          exact ⟨_, rfl, ⟨hO.rowIs List.mem_cons_self, own_new hO List.mem_cons_self⟩, hO.keep.below⟩
end Go.Proofs.YtfhkmkbfgmbbaaaGreatDoor
