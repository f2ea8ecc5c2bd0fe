/- Contracts of the package box (fourth part): Hull, Compare; cmp. -/
import Derived.Test.YtnhjcbmlplfpmaaDoorBoxC
import Derived.Test.YtnhjcbmlplfpmaaDoorEq
namespace Go.Proofs.YtnhjcbmlplfpmaaDoor
open Go.RowKit
set_option maxRecDepth 100000

/-- the rows that a slice that came in gives to read -/
def roS (v : Value) (cs : List Value) : List Ro := match v with | .slice (some a) _ _ => [⟨a.block, a.off, cs⟩] | _ => []
theorem IsBoxes.view {w : World} {v : Value} {l : List Bx} (h : IsBoxes w v l) : ∃ a c, v = .slice a l.length c ∧ (0 < l.length → ∃ g o, a = some ⟨g, o, none⟩) := by
  rcases h with ⟨rfl, rfl⟩ | ⟨g, o, c, rfl, _, _⟩
  · exact ⟨none, 0, rfl, fun h => by simp at h⟩
  · exact ⟨some ⟨g, o, none⟩, c, rfl, fun _ => ⟨g, o, rfl⟩⟩
theorem own_arg {w : World} {v : Value} {l : List Bx} (h : IsBoxes w v l) : Own [] w [] [] (roS v (cellsB l)) w := by
  rcases h with ⟨rfl, rfl⟩ | ⟨g, o, c, rfl, _, hr⟩
  · exact own_start [] w
  · exact (own_start [] w).addRo ⟨g, o, cellsB l⟩ hr (by simp [excl])
theorem tk_box (l : List Bx) {k : Nat} (h : k < l.length) : List.take (bcs l[k]).length (List.drop (k * 10) (cellsB l)) = bcs l[k] := by
  induction l generalizing k with
  | nil => simp at h
  | cons b l ih =>
    cases k with
    | zero =>
      simp only [List.getElem_cons_zero, Nat.zero_mul, List.drop_zero, cellsB]
      exact List.take_left' rfl
    | succ k =>
      have := ih (k := k) (by simpa using h)
      simp only [List.getElem_cons_succ, cellsB]
      rw [show (k + 1) * 10 = (bcs b).length + k * 10 by rw [bcs_length]; omega, List.drop_append, List.drop_of_length_le (by omega), List.nil_append, Nat.add_sub_cancel_left]
      exact this

def hullTo (a b : Bx) : Bx := Bx.of fun k => ⟨min (a.at k).lo (b.at k).lo, max (a.at k).hi (b.at k).hi⟩
def hullK (a b : Bx) (k : Nat) : Bx := Bx.of fun i => if i < k then ⟨min (a.at i).lo (b.at i).lo, max (a.at i).hi (b.at i).hi⟩ else a.at i
theorem hullK_succ (a b : Bx) (k : Nat) : (hullK a b k).set k ⟨min (a.at k).lo (b.at k).lo, max (a.at k).hi (b.at k).hi⟩ = hullK a b (k + 1) :=
  bx_step (f := fun _ i => ⟨min (a.at i).lo (b.at i).lo, max (a.at i).hi (b.at i).hi⟩) (z := a.at)
theorem hullK_at (a b : Bx) {k : Nat} (h : k < 5) : (hullK a b k).at k = a.at k := by unfold hullK; rw [Bx.at_of _ h]; simp
theorem hullK_five (a b : Bx) : hullK a b 5 = hullTo a b := Bx.of_congr fun i hi => by rw [if_pos hi]
theorem hullK_zero (a b : Bx) : hullK a b 0 = a := Bx.of_at a
def hullStep (s : Bx × Bool) (b : Bx) : Bx × Bool := if vld b then (hullTo (if s.2 then s.1 else b) b, true) else s
def hullL (l : List Bx) : Bx × Bool := l.foldl hullStep (zeroBx, false)
theorem hullL_take (l : List Bx) {k : Nat} (h : k < l.length) : hullL (l.take (k + 1)) = hullStep (hullL (l.take k)) l[k] := by
  unfold hullL; rw [List.take_succ_eq_append_getElem h, List.foldl_append]; rfl

set_option maxHeartbeats 2000000 in
theorem hull_any (v : Value) (l : List Bx) (w : World) (ht : Tops w) (hv : IsBoxes w v l) (hm : l.length ≤ 9223372036854775807) :
    Calls Tryd.prog 28 #[v] w fun e w' => e = .returned (.tuple #[bv (hullL l).1, .bool (hullL l).2]) ∧ Below w.heap.size w w' := by
  have hO := own_arg hv
  obtain ⟨a, c, rfl, ha⟩ := hv.view
  clear hv
  go_enter Tryd.func28, Tryd.ntmps28
  go_wp2_with (first | ((with_reducible refine is_load ?_); (first | (refine own_ld (h := ?_)))) | ((with_reducible refine is_store ?_); (first | (refine own_stR (hO := hO) (h := ?_); clear hO; intro wv hO) | (refine own_st1 (hO := hO) (h := ?_); clear hO; intro wv hO))) | ((with_reducible refine is_alloc ?_); (first | (refine own_al (o := ⟨some 2, _, _, _, _, _⟩) (hO := hO) (h := ?_); clear hO; intro n2 wv hO) | (refine own_al (o := ⟨some 4, _, _, _, _, _⟩) (hO := hO) (h := ?_); clear hO; intro n4 wv hO))))
  go_loopw [5, 12] (fun f i wr => ∃ k : Nat, k ≤ l.length ∧ i = .int .i64 k ∧ f = .bool (hullL (l.take k)).2 ∧ Own [] w [⟨n4, bcs (hullL (l.take k)).1, 26⟩, ⟨n2, bcs zeroBx, 26⟩] [] (roS (.slice a l.length c) (cellsB l)) wr) (fun _ i _ => l.length - (intOf i).toNat)
  case atStart => exact ⟨0, by omega, rfl, rfl, hO⟩
  case round =>
    clear hO
    obtain ⟨k, hk, rfl, rfl, hO⟩ := hrel
    by_cases hlt : k < l.length
    · obtain ⟨g, o, rfl⟩ := ha (by omega)
      have HT := Lib.hid (hullL_take l hlt)
      simp only [roS] at hO
      cases hvb : vld l[k]
      · have HV := Lib.hid (show hullStep (hullL (l.take k)) l[k] = hullL (l.take k) by simp [hullStep, hvb])
        go_wp2_with (first | ((with_reducible refine is_load ?_); (first | (refine own_ld (h := ?_)))) | ((with_reducible refine is_store ?_); (first | (refine own_stR (hO := hO) (h := ?_); clear hO; intro wv hO) | (refine own_st1 (hO := hO) (h := ?_); clear hO; intro wv hO))) | ((with_reducible refine is_alloc ?_); (first | (refine own_al (o := ⟨some 7, _, _, _, _, _⟩) (hO := hO) (h := ?_); clear hO; intro n7 wv hO))) | (go_at_call 13; refine (valid_any _ _ (hO.tops ht (by simp))).mono ?_; rintro e wv ⟨rfl, hb⟩; replace hO := hO.call hb; clear hb))
        go_roundw
        case rel => exact ⟨k + 1, by omega, by go_num, by rw [HT.out, HV.out], by rw [HT.out, HV.out]; exact hO.sub (.cons _ (.refl _)) (.refl _) (fun _ h => h)⟩
        case measure => simp [intOf]; omega
      · have HB := Lib.hid (show ∃ b, b = l[k] from ⟨_, rfl⟩)
        generalize hc : hullL (l.take k) = s at *
        obtain ⟨cur, f⟩ := s
        cases f
        · have HV := Lib.hid (show hullStep (cur, false) l[k] = (hullTo l[k] l[k], true) by simp [hullStep, hvb])
          clear hc
          go_wp2_with (first | ((with_reducible refine is_load ?_); (first | (refine own_ld (h := ?_)))) | ((with_reducible refine is_store ?_); (first | (refine own_stR (hO := hO) (h := ?_); clear hO; intro wv hO) | (refine own_st1 (hO := hO) (h := ?_); clear hO; intro wv hO))) | ((with_reducible refine is_alloc ?_); (first | (refine own_al (o := ⟨some 7, _, _, _, _, _⟩) (hO := hO) (h := ?_); clear hO; intro n7 wv hO))) | (go_at_call 13; refine (valid_any _ _ (hO.tops ht (by simp))).mono ?_; rintro e wv ⟨rfl, hb⟩; replace hO := hO.call hb; clear hb))
          generalize l[k] = b at *
          skip
          go_loopw [25] (fun i wr => ∃ j : Nat, j ≤ 5 ∧ i = .int .i64 j ∧ Own [] w [⟨n4, bcs (hullK b b j), 26⟩, ⟨n2, bcs zeroBx, 26⟩] [] [⟨g, o, cellsB l⟩] wr) (fun i _ => 5 - (intOf i).toNat)
          case atStart => exact ⟨0, by omega, rfl, by rw [hullK_zero]; exact hO.sub (.cons _ (.refl _)) (.refl _) (fun _ h => h)⟩
          case round =>
            clear hO
            obtain ⟨j, hj, rfl, hO⟩ := hrel
            by_cases hjl : j < 5
            · have hix := fun w => ixb_at w b hjl
              have hat := hullK_at b b hjl
              go_wp2_with (first | ((with_reducible refine is_load ?_); (first | (refine own_ld (h := ?_)))) | ((with_reducible refine is_store ?_); (first | (refine own_stR (hO := hO) (h := ?_); clear hO; intro wv hO) | (refine own_st1 (hO := hO) (h := ?_); clear hO; intro wv hO))) | ((with_reducible refine is_alloc ?_); (first | (refine own_al (o := ⟨some 9, _, _, _, _, _⟩) (hO := hO) (h := ?_); clear hO; intro n9 wv hO))))
              (try simp only [Act.put]); (refine own_tail 17 hO (by kernel_rfl) (by kernel_rfl) (by repeat (first | exact Split.zero _ | apply Split.succ)) ?_; clear hO; intro wv hO; (repeat ((refine wpStill_step (fun K hK => ?_)); (first | ((rw [if_pos (by rfl)]); (with_reducible refine is_loadS ?_); (first | (refine s_ld (h := ?_))); (try simp only [Act.put]); (try simp only [List.setIfInBounds_toArray, List.set_cons_zero, List.set_cons_succ]); (refine hK _ ?_); clear hK K) | (go_simp; (refine hK _ ?_); clear hK K)))); (refine wpStill_nil ?_))
              go_wp2_with (first | ((with_reducible refine is_load ?_); (first | (refine own_ld (h := ?_)))) | ((with_reducible refine is_store ?_); (first | (refine own_stR (hO := hO) (h := ?_); clear hO; intro wv hO) | (refine own_st1 (hO := hO) (h := ?_); clear hO; intro wv hO))))
              go_roundw
              case rel =>
                refine ⟨j + 1, by omega, by go_num, ?_⟩
                rw [← hullK_succ]
                first
                  | exact hO.sub (.cons _ (.refl _)) (.refl _) (fun _ h => h)
                  | (simp only [Int.min_self, Int.max_self]; exact hO.sub (.cons _ (.refl _)) (.refl _) (fun _ h => h))
              case measure => simp [intOf]; omega
            · obtain rfl : j = 5 := by omega
              rw [hullK_five] at hO
              go_wp2_with (first | ((with_reducible refine is_load ?_); (first | (refine own_ld (h := ?_)))) | ((with_reducible refine is_store ?_); (first | (refine own_stR (hO := hO) (h := ?_); clear hO; intro wv hO) | (refine own_st1 (hO := hO) (h := ?_); clear hO; intro wv hO))))
              go_roundw
              case rel => exact ⟨k + 1, by omega, by go_num, by rw [HT.out, HV.out], by rw [HT.out, HV.out]; exact hO⟩
              case measure => simp [intOf]; omega
        · have HV := Lib.hid (show hullStep (cur, true) l[k] = (hullTo cur l[k], true) by simp [hullStep, hvb])
          clear hc
          go_wp2_with (first | ((with_reducible refine is_load ?_); (first | (refine own_ld (h := ?_)))) | ((with_reducible refine is_store ?_); (first | (refine own_stR (hO := hO) (h := ?_); clear hO; intro wv hO) | (refine own_st1 (hO := hO) (h := ?_); clear hO; intro wv hO))) | ((with_reducible refine is_alloc ?_); (first | (refine own_al (o := ⟨some 7, _, _, _, _, _⟩) (hO := hO) (h := ?_); clear hO; intro n7 wv hO))) | (go_at_call 13; refine (valid_any _ _ (hO.tops ht (by simp))).mono ?_; rintro e wv ⟨rfl, hb⟩; replace hO := hO.call hb; clear hb))
          generalize l[k] = b at *
          skip
          go_loopw [25] (fun i wr => ∃ j : Nat, j ≤ 5 ∧ i = .int .i64 j ∧ Own [] w [⟨n4, bcs (hullK cur b j), 26⟩, ⟨n2, bcs zeroBx, 26⟩] [] [⟨g, o, cellsB l⟩] wr) (fun i _ => 5 - (intOf i).toNat)
          case atStart => exact ⟨0, by omega, rfl, by rw [hullK_zero]; exact hO.sub (.cons _ (.refl _)) (.refl _) (fun _ h => h)⟩
          case round =>
            clear hO
            obtain ⟨j, hj, rfl, hO⟩ := hrel
            by_cases hjl : j < 5
            · have hix := fun w => ixb_at w b hjl
              have hat := hullK_at cur b hjl
              go_wp2_with (first | ((with_reducible refine is_load ?_); (first | (refine own_ld (h := ?_)))) | ((with_reducible refine is_store ?_); (first | (refine own_stR (hO := hO) (h := ?_); clear hO; intro wv hO) | (refine own_st1 (hO := hO) (h := ?_); clear hO; intro wv hO))) | ((with_reducible refine is_alloc ?_); (first | (refine own_al (o := ⟨some 9, _, _, _, _, _⟩) (hO := hO) (h := ?_); clear hO; intro n9 wv hO))))
              (try simp only [Act.put]); (refine own_tail 17 hO (by kernel_rfl) (by kernel_rfl) (by repeat (first | exact Split.zero _ | apply Split.succ)) ?_; clear hO; intro wv hO; (repeat ((refine wpStill_step (fun K hK => ?_)); (first | ((rw [if_pos (by rfl)]); (with_reducible refine is_loadS ?_); (first | (refine s_ld (h := ?_))); (try simp only [Act.put]); (try simp only [List.setIfInBounds_toArray, List.set_cons_zero, List.set_cons_succ]); (refine hK _ ?_); clear hK K) | (go_simp; (refine hK _ ?_); clear hK K)))); (refine wpStill_nil ?_))
              go_wp2_with (first | ((with_reducible refine is_load ?_); (first | (refine own_ld (h := ?_)))) | ((with_reducible refine is_store ?_); (first | (refine own_stR (hO := hO) (h := ?_); clear hO; intro wv hO) | (refine own_st1 (hO := hO) (h := ?_); clear hO; intro wv hO))))
              go_roundw
              case rel =>
                refine ⟨j + 1, by omega, by go_num, ?_⟩
                rw [← hullK_succ]
                first
                  | exact hO.sub (.cons _ (.refl _)) (.refl _) (fun _ h => h)
                  | (simp only [Int.min_self, Int.max_self]; exact hO.sub (.cons _ (.refl _)) (.refl _) (fun _ h => h))
              case measure => simp [intOf]; omega
            · obtain rfl : j = 5 := by omega
              rw [hullK_five] at hO
              go_wp2_with (first | ((with_reducible refine is_load ?_); (first | (refine own_ld (h := ?_)))) | ((with_reducible refine is_store ?_); (first | (refine own_stR (hO := hO) (h := ?_); clear hO; intro wv hO) | (refine own_st1 (hO := hO) (h := ?_); clear hO; intro wv hO))))
              go_roundw
              case rel => exact ⟨k + 1, by omega, by go_num, by rw [HT.out, HV.out], by rw [HT.out, HV.out]; exact hO⟩
              case measure => simp [intOf]; omega
    · obtain rfl : k = l.length := by omega
      rw [List.take_length] at hO ⊢
      go_wp2_with (first | ((with_reducible refine is_load ?_); (first | (refine own_ld (h := ?_)))) | ((with_reducible refine is_store ?_); (first | (refine own_stR (hO := hO) (h := ?_); clear hO; intro wv hO) | (refine own_st1 (hO := hO) (h := ?_); clear hO; intro wv hO))))
      refine bodyPost_ret (own_res_cell_tmp hO Tryd.results28 rfl (by (repeat (first | exact List.mem_cons_self | refine List.mem_cons_of_mem _ ?_))) (by (exact row_len (by (with_reducible (first | exact row_Box | exact row_Range | exact row_Header | exact row_Five | exact row_Tape | exact row_Prefix | exact row_Truths | exact row_Packet))) (by rfl))) rfl rfl) rfl ⟨rfl, hO.keep.below⟩

/-! ### the order -/
def cmpI (x y : Int) : Int := if x < y then -1 else if y < x then 1 else 0
def orI (x y : Int) : Int := if x = 0 then y else x
def cmpR (r s : Rg) : Int := orI (cmpI r.lo s.lo) (cmpI r.hi s.hi)
def cmpB (a b : Bx) : Int := orI (cmpR a.r0 b.r0) (orI (cmpR a.r1 b.r1) (orI (cmpR a.r2 b.r2) (orI (cmpR a.r3 b.r3) (cmpR a.r4 b.r4))))
theorem cmpI_zero {x y : Int} : cmpI x y = 0 ↔ x = y := by unfold cmpI; split <;> (try split) <;> omega
theorem orI_zero {x y : Int} : orI x y = 0 ↔ x = 0 ∧ y = 0 := by unfold orI; split <;> simp_all
theorem cmpR_zero {r s : Rg} : cmpR r s = 0 ↔ r = s := by
  unfold cmpR; rw [orI_zero, cmpI_zero, cmpI_zero]
  obtain ⟨a, b⟩ := r; obtain ⟨c, d⟩ := s; simp
theorem cmpB_zero {a b : Bx} : cmpB a b = 0 ↔ a = b := by
  unfold cmpB
  simp only [orI_zero, cmpR_zero]
  obtain ⟨a0, a1, a2, a3, a4⟩ := a; obtain ⟨b0, b1, b2, b3, b4⟩ := b; simp
theorem cmpB_at {a b : Bx} {k : Nat} (hk : k < 5) (h : ∀ i, i < k → a.at i = b.at i) (hn : cmpR (a.at k) (b.at k) ≠ 0) : cmpB a b = cmpR (a.at k) (b.at k) := by
  have z : ∀ i, i < k → cmpR (a.at i) (b.at i) = 0 := fun i hi => cmpR_zero.2 (h i hi)
  rcases five hk with rfl | rfl | rfl | rfl | rfl
  · have := hn; simp only [Bx.at] at this; simp [cmpB, orI, Bx.at, this]
  · have h0 := z 0 (by omega)
    have := hn; simp only [Bx.at] at this h0; simp [cmpB, orI, Bx.at, this, h0]
  · have h0 := z 0 (by omega); have h1 := z 1 (by omega)
    have := hn; simp only [Bx.at] at this h0 h1; simp [cmpB, orI, Bx.at, this, h0, h1]
  · have h0 := z 0 (by omega); have h1 := z 1 (by omega); have h2 := z 2 (by omega)
    have := hn; simp only [Bx.at] at this h0 h1 h2; simp [cmpB, orI, Bx.at, this, h0, h1, h2]
  · have h0 := z 0 (by omega); have h1 := z 1 (by omega); have h2 := z 2 (by omega); have h3 := z 3 (by omega)
    have := hn; simp only [Bx.at] at this h0 h1 h2 h3; simp [cmpB, orI, Bx.at, h0, h1, h2, h3]

theorem isNaN_any (x : Int) (w : World) : Calls Tryd.prog 58 #[.int .u32 x] w fun e w' => e = .returned (.bool false) ∧ w = w' := by
  go_enter Tryd.func58, Tryd.ntmps58
  go_wp2
  go_ret
  exact ⟨ret_bool (by simp), rfl⟩
theorem compare_u32 (x y : Int) (w : World) : Calls Tryd.prog 49 #[.int .u32 x, .int .u32 y] w fun e w' => e = .returned (.int .i64 (cmpI x y)) ∧ w = w' := by
  by_cases h1 : x < y
  · have E := Lib.hid (show cmpI x y = -1 by unfold cmpI; rw [if_pos h1])
    go_enter Tryd.func49, Tryd.ntmps49
    go_wp2_with (first | (go_at_call 58; refine (isNaN_any _ _).mono ?_; rintro e _ ⟨rfl, rfl⟩))
    go_ret
    exact ⟨by rw [E.out]; rfl, rfl⟩
  · by_cases h2 : y < x
    · have E := Lib.hid (show cmpI x y = 1 by unfold cmpI; rw [if_neg h1, if_pos h2])
      go_enter Tryd.func49, Tryd.ntmps49
      go_wp2_with (first | (go_at_call 58; refine (isNaN_any _ _).mono ?_; rintro e _ ⟨rfl, rfl⟩))
      go_ret
      exact ⟨by rw [E.out]; rfl, rfl⟩
    · have E := Lib.hid (show cmpI x y = 0 by unfold cmpI; rw [if_neg h1, if_neg h2])
      go_enter Tryd.func49, Tryd.ntmps49
      go_wp2_with (first | (go_at_call 58; refine (isNaN_any _ _).mono ?_; rintro e _ ⟨rfl, rfl⟩))
      go_ret
      exact ⟨by rw [E.out]; rfl, rfl⟩
theorem or_any (x y : Int) (g : Nat) (w : World) (hr : w.rangeAt g 0 [.int .i64 x, .int .i64 y]) : Calls Tryd.prog 48 #[.slice (some ⟨g, 0, none⟩) 2 2] w fun e w' => e = .returned (.int .i64 (orI x y)) ∧ w = w' := by
  have h0 := hr 0 _ rfl
  have h1 := hr 1 _ rfl
  simp only [Nat.zero_add] at h0 h1
  by_cases hx : x = 0
  · subst hx
    by_cases hy : y = 0
    · subst hy
      go_enter Tryd.func48, Tryd.ntmps48
      go_wp2
      go_rounds 3
      go_ret
      exact ⟨by simp [orI], rfl⟩
    · have hy' : (!(y == 0)) = true := by simp [hy]
      have hy2 : (y == 0) = false := by simp [hy]
      go_enter Tryd.func48, Tryd.ntmps48
      go_wp2
      go_rounds 3
      go_ret
      exact ⟨by simp [orI], rfl⟩
  · have hx' : (!(x == 0)) = true := by simp [hx]
    have hx2 : (x == 0) = false := by simp [hx]
    go_enter Tryd.func48, Tryd.ntmps48
    go_wp2
    go_rounds 3
    go_ret
    exact ⟨by simp [orI, hx], rfl⟩

set_option maxHeartbeats 2000000 in
theorem compare_any (a b : Bx) (w : World) :
    Calls Tryd.prog 29 #[bv a, bv b] w fun e w' => e = .returned (.int .i64 (cmpB a b)) ∧ Below w.heap.size w w' := by
  have hO := own_start [] w
  by_cases hab : a = b
  · have hd : decide (a = b) = true := by simp [hab]
    have E := Lib.hid (cmpB_zero.2 hab)
    clear hab
    go_enter Tryd.func29, Tryd.ntmps29
    go_wp2_with (first | ((with_reducible refine is_load ?_); (first | (refine own_ld (h := ?_)))) | ((with_reducible refine is_store ?_); (first | (refine own_stR (hO := hO) (h := ?_); clear hO; intro wv hO) | (refine own_st1 (hO := hO) (h := ?_); clear hO; intro wv hO))) | ((with_reducible refine is_box ?_); (first | (refine own_bx (o := ⟨some 2, _, _, _, _, _⟩) (hO := hO) (h := ?_); clear hO; intro n2 wv hO) | (refine own_bx (o := ⟨some 3, _, _, _, _, _⟩) (hO := hO) (h := ?_); clear hO; intro n3 wv hO))))
    go_ret
    exact ⟨by rw [E.out]; rfl, hO.keep.below⟩
  · have hd : decide (a = b) = false := by simp [hab]
    have HN := Lib.hid hab
    clear hab
    go_enter Tryd.func29, Tryd.ntmps29
    go_wp2_with (first | ((with_reducible refine is_load ?_); (first | (refine own_ld (h := ?_)))) | ((with_reducible refine is_store ?_); (first | (refine own_stR (hO := hO) (h := ?_); clear hO; intro wv hO) | (refine own_st1 (hO := hO) (h := ?_); clear hO; intro wv hO))) | ((with_reducible refine is_box ?_); (first | (refine own_bx (o := ⟨some 2, _, _, _, _, _⟩) (hO := hO) (h := ?_); clear hO; intro n2 wv hO) | (refine own_bx (o := ⟨some 3, _, _, _, _, _⟩) (hO := hO) (h := ?_); clear hO; intro n3 wv hO))))
    go_loopw [10] (fun i wr => ∃ k : Nat, k ≤ 5 ∧ i = .int .i64 k ∧ (∀ i, i < k → a.at i = b.at i) ∧ Own [] w [⟨n3, bcs b, 26⟩, ⟨n2, bcs a, 26⟩] [] [] wr) (fun i _ => 5 - (intOf i).toNat)
    case atStart => exact ⟨0, by omega, rfl, fun i hi => by omega, hO⟩
    case round =>
      clear hO
      obtain ⟨k, hk, rfl, hin, hO⟩ := hrel
      have HI := Lib.hid hin
      clear hin
      by_cases hlt : k < 5
      · go_wp2_with (first | ((with_reducible refine is_load ?_); (first | (refine own_ld (h := ?_)))) | ((with_reducible refine is_store ?_); (first | (refine own_stR (hO := hO) (h := ?_); clear hO; intro wv hO) | (refine own_st1 (hO := hO) (h := ?_); clear hO; intro wv hO))))
        (try simp only [Act.put]); (refine own_tail 18 hO (by kernel_rfl) (by kernel_rfl) (by repeat (first | exact Split.zero _ | apply Split.succ)) ?_; clear hO; intro wv hO; (repeat ((refine wpStill_step (fun K hK => ?_)); (first | ((rw [if_pos (by rfl)]); (with_reducible refine is_loadS ?_); (first | (refine s_ld (h := ?_))); (try simp only [Act.put]); (try simp only [List.setIfInBounds_toArray, List.set_cons_zero, List.set_cons_succ]); (refine hK _ ?_); clear hK K) | (go_simp; (refine hK _ ?_); clear hK K) | (go_simp; apply Exists.intro; (refine ⟨?_, hK _ ?_⟩); (focus ((go_at_call 49; exact (compare_u32 _ _ _).mono fun _ _ h => ⟨h.1, h.2.symm⟩))); clear hK K)))); (refine wpStill_nil ?_))
        by_cases hc : cmpR (a.at k) (b.at k) = 0
        · have HC := Lib.hid (cmpR_zero.1 hc)
          have hn : (!(orI (cmpI (a.at k).lo (b.at k).lo) (cmpI (a.at k).hi (b.at k).hi) == 0)) = false := by unfold cmpR at hc; simp [hc]
          have hn2 : (orI (cmpI (a.at k).lo (b.at k).lo) (cmpI (a.at k).hi (b.at k).hi) == 0) = true := by unfold cmpR at hc; simp [hc]
          clear hc
          go_wp2_with (first | ((with_reducible refine is_load ?_); (first | (refine own_ld (h := ?_)))) | ((with_reducible refine is_store ?_); (first | (refine own_stR (hO := hO) (h := ?_); clear hO; intro wv hO) | (refine own_st1 (hO := hO) (h := ?_); clear hO; intro wv hO))) | ((with_reducible refine is_build ?_); (first | (refine' own_build2 (o := ⟨some 31, _, _, _, _, _⟩) hO (by rfl) rfl rfl rfl ?hu ?hf ?_; (case hu => exact Tryd.underlying39); (case hf => kernel_rfl); clear hO; intro n31 wv hO))) | (go_at_call 48; refine (or_any _ _ _ _ (hO.range List.mem_cons_self (tk_all _))).mono ?_; rintro e _ ⟨rfl, rfl⟩))
          go_roundw
          case rel =>
            refine ⟨k + 1, by omega, by go_num, fun i hi => ?_, hO.sub (.cons _ (.refl _)) (.refl _) (fun _ h => h)⟩
            by_cases e : i = k
            · rw [e]; exact HC.out
            · exact HI.out i (by omega)
          case measure => simp [intOf]; omega
        · have hn : (!(orI (cmpI (a.at k).lo (b.at k).lo) (cmpI (a.at k).hi (b.at k).hi) == 0)) = true := by unfold cmpR at hc; simp [hc]
          have hn2 : (orI (cmpI (a.at k).lo (b.at k).lo) (cmpI (a.at k).hi (b.at k).hi) == 0) = false := by unfold cmpR at hc; simp [hc]
          have E := Lib.hid (cmpB_at hlt HI.out hc)
          clear hc
          go_wp2_with (first | ((with_reducible refine is_load ?_); (first | (refine own_ld (h := ?_)))) | ((with_reducible refine is_store ?_); (first | (refine own_stR (hO := hO) (h := ?_); clear hO; intro wv hO) | (refine own_st1 (hO := hO) (h := ?_); clear hO; intro wv hO))) | ((with_reducible refine is_build ?_); (first | (refine' own_build2 (o := ⟨some 31, _, _, _, _, _⟩) hO (by rfl) rfl rfl rfl ?hu ?hf ?_; (case hu => exact Tryd.underlying39); (case hf => kernel_rfl); clear hO; intro n31 wv hO))) | (go_at_call 48; refine (or_any _ _ _ _ (hO.range List.mem_cons_self (tk_all _))).mono ?_; rintro e _ ⟨rfl, rfl⟩))
          go_ret
          exact ⟨by rw [E.out]; rfl, hO.keep.below⟩
      · exact absurd (Bx.ext_at fun i hi => HI.out i (by omega)) HN.out
end Go.Proofs.YtnhjcbmlplfpmaaDoor
