/- The library's sort at uint64: broken patterns. -/
import Derived.Sort.Walk13a
import Derived.Test.YtbdfblgdmappeaaGreatDoorMK
namespace Go.Proofs.YtbdfblgdmappeaaGreatDoor
open Go.RowKit
open Go.Sort (swp ltInt xorNextN)
set_option maxRecDepth 100000
theorem bitsLen_lib (x : Nat) (h : x < 2 ^ 64) : Lib.bitLen x = Go.Sort.bitsLen x := by
 induction x using Nat.strongRecOn with
 | _ x ih =>
  by_cases h0 : x = 0
  ·subst h0; rfl
  ·rw [Lib.bitLen_half x h0 h, ih (x / 2) (by omega) (by omega)]
   unfold Go.Sort.bitsLen
   rw [if_neg h0, Nat.log2_def x]
   by_cases h2 : 2 ≤ x
   ·rw [if_pos h2, if_neg (by omega)]; omega
   ·obtain rfl : x = 1 := by omega
    simp
def othB (L m X : Nat) : Nat := if L ≤ (X &&& (m - 1)) then (X &&& (m - 1)) - L else X &&& (m - 1)
def bgo (a L m : Nat) : Nat → Nat → Nat → Array Int → Array Int
 | 0, _, _, d => d
 | r + 1, X, i, d => bgo a L m r (xorNextN X) (i + 1) (swp d i (a + othB L m (xorNextN X)))
theorem breakStep_eq (a L m : Nat) (st : UInt64 × Array Int) (i : Nat) : Go.Sort.breakStep a L m st i = (Go.Sort.xorNext st.1, swp st.2 i (a + othB L m (xorNextN st.1.toNat))) := by
 unfold Go.Sort.breakStep othB
 rw [← Go.Sort.xorNext_toNat]
theorem break_eq {d : Array Int} {a b : Nat} (h : 8 ≤ b - a) (hl : b - a ≤ 140737488355328) : Go.Sort.breakPatterns d a b = bgo a (b - a) (2 ^ Lib.bitLen (b - a)) 3 (b - a) (a + (b - a) / 4 * 2 - 1) d := by
 unfold Go.Sort.breakPatterns
 rw [if_pos h, Nat.one_shiftLeft, ← bitsLen_lib _ (by omega)]
 dsimp only
 rw [breakStep_eq, breakStep_eq, breakStep_eq]
 simp only [bgo, Go.Sort.xorNext_toNat]
 have e : (UInt64.ofNat (b - a)).toNat = b - a := by simp; omega
 rw [e]
set_option maxHeartbeats 4000000 in
theorem break_any {g c k : Nat} {d : Array Int} (a b : Nat) (w : World) (hr : OwnsU w g k c d) (hk : d.size = k) (hb : b ≤ k) (hab : a < b) (hl : k ≤ 140737488355328) :
  Calls Tryz.prog 230 #[.slice (some ⟨g, 0, none⟩) k c, .int .i64 a, .int .i64 b] w (UPost w g k c (Go.Sort.breakPatterns d a b) (.tuple #[])) := by
 have hO := hr.own
 clear hr
 obtain ⟨D, hD⟩ : ∃ D, Go.Sort.breakPatterns d a b = D := ⟨_, rfl⟩
 rw [hD]
 obtain ⟨L, hL⟩ : ∃ L, b - a = L := ⟨_, rfl⟩
 have s1 : IntKind.i64.wrap ((b : Int) - a) = (L : Int) := by rw [IntWalk.i64_in _ (by omega)]; omega
 have s2 : (b : Int) - a = (L : Int) := by omega
 by_cases h8 : 8 ≤ L
 ·have hE := break_eq (d := d) (a := a) (b := b) (by omega) (by omega)
  rw [hL, hD] at hE
  have g0 : decide (8 ≤ (L : Int)) = true := by simp; omega
  obtain ⟨q, hq⟩ : ∃ q, L / 4 * 2 - 1 = q := ⟨_, rfl⟩
  obtain ⟨B, hB⟩ : ∃ B, a + q = B := ⟨_, rfl⟩
  rw [show a + L / 4 * 2 - 1 = B by omega] at hE
  have s3 : (L : Int).tdiv 4 = (L : Int) / 4 := Int.tdiv_eq_ediv_of_nonneg (by omega)
  have s4 : IntKind.i64.wrap ((L : Int) / 4) = (L : Int) / 4 := IntWalk.i64_in _ (by omega)
  have s5 : IntKind.i64.wrap ((L : Int) / 4 * 2) = (q : Int) + 1 := by rw [IntWalk.i64_in _ (by omega)]; omega
  have s6 : (L : Int) / 4 * 2 = (q : Int) + 1 := by omega
  have s7 : IntKind.i64.wrap ((a : Int) + ((q : Int) + 1)) = (B : Int) + 1 := by rw [IntWalk.i64_in _ (by omega)]; omega
  have s8 : (a : Int) + ((q : Int) + 1) = (B : Int) + 1 := by omega
  have s9 : IntKind.i64.wrap ((B : Int) + 1 - 1) = (B : Int) := by rw [IntWalk.i64_in _ (by omega)]; omega
  have s10 : IntKind.i64.wrap (B : Int) = (B : Int) := IntWalk.i64_in _ (by omega)
  have s11 : IntKind.i64.wrap ((B : Int) + 1 + 1) = (B : Int) + 2 := by rw [IntWalk.i64_in _ (by omega)]; omega
  have s12 : IntKind.i64.wrap ((B : Int) + 2) = (B : Int) + 2 := IntWalk.i64_in _ (by omega)
  have s13 : IntKind.u64.wrap (L : Int) = (L : Int) := by rw [IntKind.wrap_u64]; omega
  have hB1 : B + 2 < b := by omega
  have hB2 : a ≤ B := by omega
  have hL2 : L ≤ 140737488355328 := by omega
  obtain ⟨m, hm0, hm1, hm2, hm⟩ := npot_any L hL2 (by omega)
  rw [← hm0] at hE
  have hE0 : Hid (bgo a L m 3 L B d = D) := Lib.hid hE.symm
  have s14 : IntKind.u64.wrap ((m : Int) - 1) = (m : Int) - 1 := by rw [IntKind.wrap_u64]; omega
  clear hB hE hD hm0
  go_enter Tryz.func230, Tryz.ntmps230
  go_wp2_with (first | ((with_reducible refine is_alloc ?_); (refine own_al (hO := hO) (hz := zero_xs) (h := ?_); clear hO; intro n7 wv hO)) | ((with_reducible refine is_store ?_); (refine own_stX hO (h := ?_); clear hO; intro wv hO)) | (go_at_call 238; refine (hm _).mono ?_; rintro e _ ⟨rfl, rfl⟩))
  go_loopg [9] 4 (fun gk qv wr => ∃ (s t X : Nat) (d1 : Array Int), s + 1 ≤ gk ∧ s + t = 3 ∧ X < 18446744073709551616 ∧ qv = .int .i64 ((B : Int) + t) ∧ d1.size = k ∧ Hid (bgo a L m s X (B + t) d1 = D) ∧ Own [g] w [⟨n7, [.int .u64 X], 264⟩] [⟨.slice (some ⟨g, 0, none⟩) k c, k, uc d1, 200, 1⟩] [] wr)
  case atStart => exact ⟨3, 0, L, d, by omega, by omega, by omega, by (rfl), hk, hE0, hO⟩
  case round =>
   clear hO
   obtain ⟨s, t, X, d1, hgk, ht, hX, rfl, hk1, hE1, hO⟩ := hrel
   obtain ⟨T, hT⟩ : ∃ T, B + t = T := ⟨_, rfl⟩
   have e1 : (B : Int) + t = (T : Int) := by omega
   rw [e1]
   rw [hT] at hE1
   have s15 : IntKind.i64.wrap ((T : Int) + 1) = (T : Int) + 1 := IntWalk.i64_in _ (by omega)
   cases s with
   | zero =>
    have g1 : decide ((T : Int) ≤ (B : Int) + 2) = false := by simp; omega
    have hX1 : d1 = D := hE1.out
    subst hX1
    go_wp2_with fail
    go_end0
    exact u_post hO List.mem_cons_self
   | succ s =>
    have g1 : decide ((T : Int) ≤ (B : Int) + 2) = true := by simp; omega
    obtain ⟨Y, hY⟩ : ∃ Y, xorNextN X = Y := ⟨_, rfl⟩
    have hYl : Y < 18446744073709551616 := by rw [← hY]; exact Go.Sort.xorNextN_lt X hX
    obtain ⟨o, ho⟩ : ∃ o, Y &&& (m - 1) = o := ⟨_, rfl⟩
    have ho1 : o ≤ m - 1 := by rw [← ho]; exact Nat.and_le_right
    have e2 : bits .and .u64 (Y : Int) ((m : Int) - 1) = (o : Int) := by rw [show ((m : Int) - 1) = ((m - 1 : Nat) : Int) by omega, bits_and_u64_nat _ _ hYl (by omega), ho]
    have s16 : IntKind.i64.wrap (o : Int) = (o : Int) := IntWalk.i64_in _ (by omega)
    have hn := fun w hb => xnext_any (n := n7) (X := X) (t := 264) w hX hb
    rw [hY] at hn
    have hE2 : Hid (bgo a L m s Y (T + 1) (swp d1 T (a + othB L m Y)) = D) := Lib.hid (by
     have := hE1.out
     rwa [bgo, hY] at this)
    clear hE1
    by_cases hLo : L ≤ o
    ·have g2 : decide ((L : Int) ≤ o) = true := by simp; omega
     obtain ⟨j, hj⟩ : ∃ j, a + (o - L) = j := ⟨_, rfl⟩
     have hoB : a + othB L m Y = j := by unfold othB; rw [ho, if_pos hLo]; exact hj
     rw [hoB] at hE2
     have s17 : IntKind.i64.wrap ((o : Int) - L) = (o : Int) - L := IntWalk.i64_in _ (by omega)
     have s18 : IntKind.i64.wrap ((a : Int) + ((o : Int) - L)) = (j : Int) := by rw [IntWalk.i64_in _ (by omega)]; omega
     have s19 : (a : Int) + ((o : Int) - L) = (j : Int) := by omega
     have z1 : (0 : Int) ≤ (T : Int) := by omega
     have z2 : (T : Int) < k := by omega
     have z3 : (0 : Int) ≤ (j : Int) := by omega
     have z4 : (j : Int) < k := by omega
     obtain ⟨x, hx, c1⟩ := uc_get (d := d1) (k := T) (by omega)
     obtain ⟨y, hy, c2⟩ := uc_get (d := d1) (k := j) (by omega)
     go_wp2_with (go_at_call 239; (with_reducible refine (hn _ (hO.chunk _ List.mem_cons_self)).mono ?_); rintro e wv hw; obtain rfl := hw.1; replace hO := hO.after .here hw.2.1 hw.2.2; clear hw hn)
     apply wp_via
     case h =>
      refine wp_region_any (by kernel_rfl) ?_
      replace hO := hO.drew
      have ix9 := Ix.mk [0, 1, 2, 3, 4, 5, 6, 7, 8, 9, 10, 12, 13, 14]
      iterate 14 (refine wpAny_tkO ix9 ?_; replace ix9 := ix9.tail; (first | go_big_quiet_skip | (go_big_quiet_want; (go_big_quiet_op; (first | go_big_quiet_on | ((refine ⟨_, fun _ _ => rfl, ?_⟩); go_big_quiet_on))))); (refine wpQuiet_nil ?_); (try simp only [Act.put]); (try simp only [sI9, sZ9, sS9]))
      clear ix9
      refine wpAny_all (rs := [11, 15]) (by kernel_rfl) (by simp) (ord_cons ?_ (ord_cons ?_ ord_nil))
      rotate_left 2
      all_goals
       refine wpOp_of_listL rfl ?_
       (refine ldN ?_); (try simp only [Act.put]); (try simp only [sI9, sZ9, sS9])
       refine wpList_done (qk_intro ?_)
      refine wpAny_1 15 ?_
      rotate_left 1
      refine wpAny_1 11 ?_
      rotate_left 1
      all_goals
       refine wpOp_of_listL rfl ?_
       (refine ldN ?_); (try simp only [Act.put]); (try simp only [sI9, sZ9, sS9])
       refine wpList_done (qk_intro ?_)
      refine wpAny_tkO (Ix.mk [16]) ?_
      (first | go_big_quiet_skip | (go_big_quiet_want; (go_big_quiet_op; (first | go_big_quiet_on | ((refine ⟨_, fun _ _ => rfl, ?_⟩); go_big_quiet_on))))); (refine wpQuiet_nil ?_); (try simp only [Act.put]); (try simp only [sI9, sZ9, sS9])
      refine wpAny_1 17 ?_
      rotate_left 1
      refine wpAny_tkO (Ix.mk [16]) ?_
      (first | go_big_quiet_skip | (go_big_quiet_want; (go_big_quiet_op; (first | go_big_quiet_on | ((refine ⟨_, fun _ _ => rfl, ?_⟩); go_big_quiet_on))))); (refine wpQuiet_nil ?_); (try simp only [Act.put]); (try simp only [sI9, sZ9, sS9])
      refine wpAny_1 17 ?_
      rotate_left 1
      all_goals
       refine wpOp_of_listL rfl ?_
       ((with_reducible refine is_store ?_); (refine own_stU hO (h := ?_); clear hO; intro wv hO)); (try simp only [Act.put])
       refine wpList_done (qk_intro ?_)
      refine wpAny_tkO (Ix.mk [18]) ?_
      (first | go_big_quiet_skip | (go_big_quiet_want; (go_big_quiet_op; (first | go_big_quiet_on | ((refine ⟨_, fun _ _ => rfl, ?_⟩); go_big_quiet_on))))); (refine wpQuiet_nil ?_); (try simp only [Act.put]); (try simp only [sI9, sZ9, sS9])
      refine wpAny_1 19 ?_
      rotate_left 1
      refine wpAny_tkO (Ix.mk [18]) ?_
      (first | go_big_quiet_skip | (go_big_quiet_want; (go_big_quiet_op; (first | go_big_quiet_on | ((refine ⟨_, fun _ _ => rfl, ?_⟩); go_big_quiet_on))))); (refine wpQuiet_nil ?_); (try simp only [Act.put]); (try simp only [sI9, sZ9, sS9])
      refine wpAny_1 19 ?_
      rotate_left 1
      all_goals
       refine wpOp_of_listL rfl ?_
       ((with_reducible refine is_store ?_); (refine own_stU hO (h := ?_); clear hO; intro wv hO)); (try simp only [Act.put])
       refine wpList_done (qk_intro ?_)
      exact wpAny_done (by kernel_rfl) ⟨rfl, rfl, hO⟩ _
      exact wpAny_done (by kernel_rfl) ⟨rfl, rfl, hO⟩ _
     clear hO
     intro wv hO
     rw [uc_swp hx.out hy.out] at hO
     clear hx hy c1 c2
     go_wp2_with fail
     go_roundg (s + 1)
     case measure => omega
     case rel => exact ⟨s, t + 1, Y, _, by omega, by omega, hYl, congrArg (Value.int .i64) (by omega), by rw [Go.Sort.size_swp]; exact hk1, by rw [show B + (t + 1) = T + 1 by omega]; exact hE2, hO⟩
    ·have g2 : decide ((L : Int) ≤ o) = false := by simp; omega
     obtain ⟨j, hj⟩ : ∃ j, a + o = j := ⟨_, rfl⟩
     have hoB : a + othB L m Y = j := by unfold othB; rw [ho, if_neg hLo]; exact hj
     rw [hoB] at hE2
     have s18 : IntKind.i64.wrap ((a : Int) + (o : Int)) = (j : Int) := by rw [IntWalk.i64_in _ (by omega)]; omega
     have s19 : (a : Int) + (o : Int) = (j : Int) := by omega
     have z1 : (0 : Int) ≤ (T : Int) := by omega
     have z2 : (T : Int) < k := by omega
     have z3 : (0 : Int) ≤ (j : Int) := by omega
     have z4 : (j : Int) < k := by omega
     obtain ⟨x, hx, c1⟩ := uc_get (d := d1) (k := T) (by omega)
     obtain ⟨y, hy, c2⟩ := uc_get (d := d1) (k := j) (by omega)
     go_wp2_with (go_at_call 239; (with_reducible refine (hn _ (hO.chunk _ List.mem_cons_self)).mono ?_); rintro e wv hw; obtain rfl := hw.1; replace hO := hO.after .here hw.2.1 hw.2.2; clear hw hn)
     apply wp_via
     case h =>
      refine wp_region_any (by kernel_rfl) ?_
      replace hO := hO.drew
      have ix9 := Ix.mk [0, 1, 2, 3, 4, 5, 6, 7, 8, 9, 10, 12, 13, 14]
      iterate 14 (refine wpAny_tkO ix9 ?_; replace ix9 := ix9.tail; (first | go_big_quiet_skip | (go_big_quiet_want; (go_big_quiet_op; (first | go_big_quiet_on | ((refine ⟨_, fun _ _ => rfl, ?_⟩); go_big_quiet_on))))); (refine wpQuiet_nil ?_); (try simp only [Act.put]); (try simp only [sI9, sZ9, sS9]))
      clear ix9
      refine wpAny_all (rs := [11, 15]) (by kernel_rfl) (by simp) (ord_cons ?_ (ord_cons ?_ ord_nil))
      rotate_left 2
      all_goals
       refine wpOp_of_listL rfl ?_
       (refine ldN ?_); (try simp only [Act.put]); (try simp only [sI9, sZ9, sS9])
       refine wpList_done (qk_intro ?_)
      refine wpAny_1 15 ?_
      rotate_left 1
      refine wpAny_1 11 ?_
      rotate_left 1
      all_goals
       refine wpOp_of_listL rfl ?_
       (refine ldN ?_); (try simp only [Act.put]); (try simp only [sI9, sZ9, sS9])
       refine wpList_done (qk_intro ?_)
      refine wpAny_tkO (Ix.mk [16]) ?_
      (first | go_big_quiet_skip | (go_big_quiet_want; (go_big_quiet_op; (first | go_big_quiet_on | ((refine ⟨_, fun _ _ => rfl, ?_⟩); go_big_quiet_on))))); (refine wpQuiet_nil ?_); (try simp only [Act.put]); (try simp only [sI9, sZ9, sS9])
      refine wpAny_1 17 ?_
      rotate_left 1
      refine wpAny_tkO (Ix.mk [16]) ?_
      (first | go_big_quiet_skip | (go_big_quiet_want; (go_big_quiet_op; (first | go_big_quiet_on | ((refine ⟨_, fun _ _ => rfl, ?_⟩); go_big_quiet_on))))); (refine wpQuiet_nil ?_); (try simp only [Act.put]); (try simp only [sI9, sZ9, sS9])
      refine wpAny_1 17 ?_
      rotate_left 1
      all_goals
       refine wpOp_of_listL rfl ?_
       ((with_reducible refine is_store ?_); (refine own_stU hO (h := ?_); clear hO; intro wv hO)); (try simp only [Act.put])
       refine wpList_done (qk_intro ?_)
      refine wpAny_tkO (Ix.mk [18]) ?_
      (first | go_big_quiet_skip | (go_big_quiet_want; (go_big_quiet_op; (first | go_big_quiet_on | ((refine ⟨_, fun _ _ => rfl, ?_⟩); go_big_quiet_on))))); (refine wpQuiet_nil ?_); (try simp only [Act.put]); (try simp only [sI9, sZ9, sS9])
      refine wpAny_1 19 ?_
      rotate_left 1
      refine wpAny_tkO (Ix.mk [18]) ?_
      (first | go_big_quiet_skip | (go_big_quiet_want; (go_big_quiet_op; (first | go_big_quiet_on | ((refine ⟨_, fun _ _ => rfl, ?_⟩); go_big_quiet_on))))); (refine wpQuiet_nil ?_); (try simp only [Act.put]); (try simp only [sI9, sZ9, sS9])
      refine wpAny_1 19 ?_
      rotate_left 1
      all_goals
       refine wpOp_of_listL rfl ?_
       ((with_reducible refine is_store ?_); (refine own_stU hO (h := ?_); clear hO; intro wv hO)); (try simp only [Act.put])
       refine wpList_done (qk_intro ?_)
      exact wpAny_done (by kernel_rfl) ⟨rfl, rfl, hO⟩ _
      exact wpAny_done (by kernel_rfl) ⟨rfl, rfl, hO⟩ _
     clear hO
     intro wv hO
     rw [uc_swp hx.out hy.out] at hO
     clear hx hy c1 c2
     go_wp2_with fail
     go_roundg (s + 1)
     case measure => omega
     case rel => exact ⟨s, t + 1, Y, _, by omega, by omega, hYl, congrArg (Value.int .i64) (by omega), by rw [Go.Sort.size_swp]; exact hk1, by rw [show B + (t + 1) = T + 1 by omega]; exact hE2, hO⟩
 ·have g0 : decide (8 ≤ (L : Int)) = false := by simp; omega
  have hX : d = D := by rw [← hD]; unfold Go.Sort.breakPatterns; rw [if_neg (by omega)]
  subst hX
  go_enter Tryz.func230, Tryz.ntmps230
  go_wp2_with fail
  go_end0
  exact u_post hO List.mem_cons_self
end Go.Proofs.YtbdfblgdmappeaaGreatDoor
namespace Go.Proofs.YtbdfblgdmappeaaGreatDoor
open Go.RowKit
open Go.Sort (swp ltInt)
set_option maxRecDepth 100000
theorem uc_ne {d : Array Int} {k : Nat} (hk : d.size = k) (h : 0 < k) : uc d ≠ [] := fun e => by
 have := uc_length d
 rw [e, hk] at this
 simp at this; omega
def pvRes (p s : Nat) : Value := .tuple #[.int .i64 p, .int .i64 (if s = 0 then 1 else if s = 12 then 2 else 0)]
theorem pvRes_eq (p s : Nat) : pvRes p s = .tuple #[.int .i64 p, .int .i64 (Go.Sort.hintCode (Go.Sort.hintOf s))] := by
 unfold pvRes Go.Sort.hintOf
 split
 ·rfl
 ·split <;> rfl
set_option maxHeartbeats 4000000 in
theorem cpivot_any {g o c k : Nat} {d : Array Int} (a b : Nat) (w : World) (hv : IsCells w (.slice (some ⟨g, o, none⟩) k c) k (uc d)) (hk : d.size = k) (hb : b ≤ k) (hab : a < b) (hl : k ≤ 140737488355328) :
  Calls Tryz.prog 231 #[.slice (some ⟨g, o, none⟩) k c, .int .i64 a, .int .i64 b] w fun e w' => e = .returned (.tuple #[.int .i64 (Go.Sort.choosePivot ltInt d a b).1, .int .i64 (Go.Sort.hintCode (Go.Sort.choosePivot ltInt d a b).2)]) ∧ Below w.heap.size w w' := by
 rw [Go.Sort.choosePivot_eq]
 dsimp only
 rw [← pvRes_eq]
 have hO : Own [] w [] [] [⟨g, o, uc d⟩] w := own_roC hv
 have hxs := uc_ne hk (by omega)
 have hvk := fun (wq : World) (h : Keep [] w wq) => hv.keepB h (by simp)
 have hE := Lib.hid (show Go.Sort.rawPivot ltInt d a b = if b - a ≥ 8 then if b - a ≥ 50 then _ else _ else _ from rfl)
 clear hv
 obtain ⟨L, hL⟩ : ∃ L, b - a = L := ⟨_, rfl⟩
 obtain ⟨q, hq⟩ : ∃ q, L / 4 = q := ⟨_, rfl⟩
 obtain ⟨i, hi⟩ : ∃ i, a + q * 1 = i := ⟨_, rfl⟩
 obtain ⟨j, hj⟩ : ∃ j, a + q * 2 = j := ⟨_, rfl⟩
 obtain ⟨m, hm⟩ : ∃ m, a + q * 3 = m := ⟨_, rfl⟩
 rw [hL, hq, hi, hj, hm] at hE
 have s1 : IntKind.i64.wrap ((b : Int) - a) = (L : Int) := by rw [IntWalk.i64_in _ (by omega)]; omega
 have s2 : (b : Int) - a = (L : Int) := by omega
 have s3 : (L : Int).tdiv 4 = (q : Int) := by rw [Int.tdiv_eq_ediv_of_nonneg (by omega)]; omega
 have s4 : IntKind.i64.wrap (q : Int) = (q : Int) := IntWalk.i64_in _ (by omega)
 have s5 : IntKind.i64.wrap ((q : Int) * 2) = (q : Int) * 2 := IntWalk.i64_in _ (by omega)
 have s6 : IntKind.i64.wrap ((q : Int) * 3) = (q : Int) * 3 := IntWalk.i64_in _ (by omega)
 have s7 : IntKind.i64.wrap ((a : Int) + q) = (i : Int) := by rw [IntWalk.i64_in _ (by omega)]; omega
 have s8 : IntKind.i64.wrap ((a : Int) + (q : Int) * 2) = (j : Int) := by rw [IntWalk.i64_in _ (by omega)]; omega
 have s9 : IntKind.i64.wrap ((a : Int) + (q : Int) * 3) = (m : Int) := by rw [IntWalk.i64_in _ (by omega)]; omega
 have s10 : (a : Int) + q = (i : Int) := by omega
 have s11 : (a : Int) + (q : Int) * 2 = (j : Int) := by omega
 have s12 : (a : Int) + (q : Int) * 3 = (m : Int) := by omega
 have s13 : (q : Int) * 1 = (q : Int) := by omega
 by_cases h8 : 8 ≤ L
 ·have g1 : decide (8 ≤ (L : Int)) = true := by simp; omega
  by_cases h50 : 50 ≤ L
  ·have g2 : decide (50 ≤ (L : Int)) = true := by simp; omega
   have hp := hE.out
   rw [if_pos h8, if_pos h50] at hp
   clear hE
   have k1 := fun n w hv hb hne => medianAdj_any (g := g) (o := o) (c := c) (k := k) (n := n) (d := d) (s := 0) i w hv hk hb hne (by omega) (by omega) (by omega) hl
   have m1 := Go.Sort.medianAdjacent_mem ltInt d i 0
   have c1 := Go.Sort.medianAdjacent_count (lt := ltInt) d i 0
   generalize Go.Sort.medianAdjacent ltInt d i 0 = r1 at *
   obtain ⟨p1, t1⟩ := r1
   dsimp only at m1 c1 k1 hp
   have b1 : p1 < k := by omega
   have k2 := fun n w hv hb hne => medianAdj_any (g := g) (o := o) (c := c) (k := k) (n := n) (d := d) (s := t1) j w hv hk hb hne (by omega) (by omega) (by omega) hl
   have m2 := Go.Sort.medianAdjacent_mem ltInt d j t1
   have c2 := Go.Sort.medianAdjacent_count (lt := ltInt) d j t1
   generalize Go.Sort.medianAdjacent ltInt d j t1 = r2 at *
   obtain ⟨p2, t2⟩ := r2
   dsimp only at m2 c2 k2 hp
   have b2 : p2 < k := by omega
   have k3 := fun n w hv hb hne => medianAdj_any (g := g) (o := o) (c := c) (k := k) (n := n) (d := d) (s := t2) m w hv hk hb hne (by omega) (by omega) (by omega) hl
   have m3 := Go.Sort.medianAdjacent_mem ltInt d m t2
   have c3 := Go.Sort.medianAdjacent_count (lt := ltInt) d m t2
   generalize Go.Sort.medianAdjacent ltInt d m t2 = r3 at *
   obtain ⟨p3, t3⟩ := r3
   dsimp only at m3 c3 k3 hp
   have b3 : p3 < k := by omega
   clear m1 m2 m3
   have k4 := fun n w hv hb hne => median_any (g := g) (o := o) (c := c) (k := k) (n := n) (d := d) (s := t3) p1 p2 p3 w hv hk hb hne b1 b2 b3 (by omega)
   have c4 := Go.Sort.median_count (lt := ltInt) d p1 p2 p3 t3
   generalize Go.Sort.median ltInt d p1 p2 p3 t3 = r4 at *
   obtain ⟨p, s⟩ := r4
   dsimp only at c4 k4
   rw [hp]
   dsimp only
   clear c1 c2 c3 c4 s1 s5 s6 hp
   obtain ⟨R, hp⟩ : ∃ R, R = pvRes p s := ⟨_, rfl⟩
   rw [← hp]
   by_cases hs0 : s = 0
   ·subst hs0
    have g5 : ((0 : Int) == 0) = true := rfl
    go_enter Tryz.func231, Tryz.ntmps231
    go_wp2_with (first | refine ldN ?_ | ((with_reducible refine is_alloc ?_); (refine own_al (hO := hO) (hz := zero_int) (h := ?_); clear hO; intro n9 wv hO; have hne : g ≠ n9 := fun e => hO.apart _ List.mem_cons_self hxs (by rw [e]; exact List.mem_cons_self))) | (go_at_call 243; (with_reducible refine (k1 _ _ (hvk _ hO.keep) (hO.chunk _ List.mem_cons_self) hne).mono ?_); rintro e wv hw; obtain rfl := hw.1; replace hO := hO.after .here hw.2.1 hw.2.2; clear hw k1) | (go_at_call 243; (with_reducible refine (k2 _ _ (hvk _ hO.keep) (hO.chunk _ List.mem_cons_self) hne).mono ?_); rintro e wv hw; obtain rfl := hw.1; replace hO := hO.after .here hw.2.1 hw.2.2; clear hw k2) | (go_at_call 243; (with_reducible refine (k3 _ _ (hvk _ hO.keep) (hO.chunk _ List.mem_cons_self) hne).mono ?_); rintro e wv hw; obtain rfl := hw.1; replace hO := hO.after .here hw.2.1 hw.2.2; clear hw k3) | (go_at_call 244; (with_reducible refine (k4 _ _ (hvk _ hO.keep) (hO.chunk _ List.mem_cons_self) hne).mono ?_); rintro e wv hw; obtain rfl := hw.1; replace hO := hO.after .here hw.2.1 hw.2.2; clear hw k4))
    go_ret2
    subst hp
    exact ⟨by (rfl), hO.keep.below⟩
   ·have g5 : ((s : Int) == 0) = false := by simp; omega
    by_cases hs1 : s = 12
    ·subst hs1
     have g6 : ((12 : Int) == 12) = true := rfl
     go_enter Tryz.func231, Tryz.ntmps231
     go_wp2_with (first | refine ldN ?_ | ((with_reducible refine is_alloc ?_); (refine own_al (hO := hO) (hz := zero_int) (h := ?_); clear hO; intro n9 wv hO; have hne : g ≠ n9 := fun e => hO.apart _ List.mem_cons_self hxs (by rw [e]; exact List.mem_cons_self))) | (go_at_call 243; (with_reducible refine (k1 _ _ (hvk _ hO.keep) (hO.chunk _ List.mem_cons_self) hne).mono ?_); rintro e wv hw; obtain rfl := hw.1; replace hO := hO.after .here hw.2.1 hw.2.2; clear hw k1) | (go_at_call 243; (with_reducible refine (k2 _ _ (hvk _ hO.keep) (hO.chunk _ List.mem_cons_self) hne).mono ?_); rintro e wv hw; obtain rfl := hw.1; replace hO := hO.after .here hw.2.1 hw.2.2; clear hw k2) | (go_at_call 243; (with_reducible refine (k3 _ _ (hvk _ hO.keep) (hO.chunk _ List.mem_cons_self) hne).mono ?_); rintro e wv hw; obtain rfl := hw.1; replace hO := hO.after .here hw.2.1 hw.2.2; clear hw k3) | (go_at_call 244; (with_reducible refine (k4 _ _ (hvk _ hO.keep) (hO.chunk _ List.mem_cons_self) hne).mono ?_); rintro e wv hw; obtain rfl := hw.1; replace hO := hO.after .here hw.2.1 hw.2.2; clear hw k4))
     go_ret2
     subst hp
     exact ⟨by (rfl), hO.keep.below⟩
    ·have g6 : ((s : Int) == 12) = false := by simp; omega
     go_enter Tryz.func231, Tryz.ntmps231
     go_wp2_with (first | refine ldN ?_ | ((with_reducible refine is_alloc ?_); (refine own_al (hO := hO) (hz := zero_int) (h := ?_); clear hO; intro n9 wv hO; have hne : g ≠ n9 := fun e => hO.apart _ List.mem_cons_self hxs (by rw [e]; exact List.mem_cons_self))) | (go_at_call 243; (with_reducible refine (k1 _ _ (hvk _ hO.keep) (hO.chunk _ List.mem_cons_self) hne).mono ?_); rintro e wv hw; obtain rfl := hw.1; replace hO := hO.after .here hw.2.1 hw.2.2; clear hw k1) | (go_at_call 243; (with_reducible refine (k2 _ _ (hvk _ hO.keep) (hO.chunk _ List.mem_cons_self) hne).mono ?_); rintro e wv hw; obtain rfl := hw.1; replace hO := hO.after .here hw.2.1 hw.2.2; clear hw k2) | (go_at_call 243; (with_reducible refine (k3 _ _ (hvk _ hO.keep) (hO.chunk _ List.mem_cons_self) hne).mono ?_); rintro e wv hw; obtain rfl := hw.1; replace hO := hO.after .here hw.2.1 hw.2.2; clear hw k3) | (go_at_call 244; (with_reducible refine (k4 _ _ (hvk _ hO.keep) (hO.chunk _ List.mem_cons_self) hne).mono ?_); rintro e wv hw; obtain rfl := hw.1; replace hO := hO.after .here hw.2.1 hw.2.2; clear hw k4))
     go_ret2
     subst hp
     exact ⟨by ((unfold pvRes; rw [if_neg hs0, if_neg hs1]; rfl)), hO.keep.below⟩
  ·have g2 : decide (50 ≤ (L : Int)) = false := by simp; omega
   have hp := hE.out
   rw [if_pos h8, if_neg h50] at hp
   clear hE
   have k4 := fun n w hv hb hne => median_any (g := g) (o := o) (c := c) (k := k) (n := n) (d := d) (s := 0) i j m w hv hk hb hne (by omega) (by omega) (by omega) (by omega)
   generalize Go.Sort.median ltInt d i j m 0 = r4 at *
   obtain ⟨p, s⟩ := r4
   dsimp only at k4
   rw [hp]
   dsimp only
   clear s1 s5 s6 hp
   obtain ⟨R, hp⟩ : ∃ R, R = pvRes p s := ⟨_, rfl⟩
   rw [← hp]
   by_cases hs0 : s = 0
   ·subst hs0
    have g5 : ((0 : Int) == 0) = true := rfl
    go_enter Tryz.func231, Tryz.ntmps231
    go_wp2_with (first | refine ldN ?_ | ((with_reducible refine is_alloc ?_); (refine own_al (hO := hO) (hz := zero_int) (h := ?_); clear hO; intro n9 wv hO; have hne : g ≠ n9 := fun e => hO.apart _ List.mem_cons_self hxs (by rw [e]; exact List.mem_cons_self))) | (go_at_call 244; (with_reducible refine (k4 _ _ (hvk _ hO.keep) (hO.chunk _ List.mem_cons_self) hne).mono ?_); rintro e wv hw; obtain rfl := hw.1; replace hO := hO.after .here hw.2.1 hw.2.2; clear hw k4))
    go_ret2
    subst hp
    exact ⟨by (rfl), hO.keep.below⟩
   ·have g5 : ((s : Int) == 0) = false := by simp; omega
    by_cases hs1 : s = 12
    ·subst hs1
     have g6 : ((12 : Int) == 12) = true := rfl
     go_enter Tryz.func231, Tryz.ntmps231
     go_wp2_with (first | refine ldN ?_ | ((with_reducible refine is_alloc ?_); (refine own_al (hO := hO) (hz := zero_int) (h := ?_); clear hO; intro n9 wv hO; have hne : g ≠ n9 := fun e => hO.apart _ List.mem_cons_self hxs (by rw [e]; exact List.mem_cons_self))) | (go_at_call 244; (with_reducible refine (k4 _ _ (hvk _ hO.keep) (hO.chunk _ List.mem_cons_self) hne).mono ?_); rintro e wv hw; obtain rfl := hw.1; replace hO := hO.after .here hw.2.1 hw.2.2; clear hw k4))
     go_ret2
     subst hp
     exact ⟨by (rfl), hO.keep.below⟩
    ·have g6 : ((s : Int) == 12) = false := by simp; omega
     go_enter Tryz.func231, Tryz.ntmps231
     go_wp2_with (first | refine ldN ?_ | ((with_reducible refine is_alloc ?_); (refine own_al (hO := hO) (hz := zero_int) (h := ?_); clear hO; intro n9 wv hO; have hne : g ≠ n9 := fun e => hO.apart _ List.mem_cons_self hxs (by rw [e]; exact List.mem_cons_self))) | (go_at_call 244; (with_reducible refine (k4 _ _ (hvk _ hO.keep) (hO.chunk _ List.mem_cons_self) hne).mono ?_); rintro e wv hw; obtain rfl := hw.1; replace hO := hO.after .here hw.2.1 hw.2.2; clear hw k4))
     go_ret2
     subst hp
     exact ⟨by ((unfold pvRes; rw [if_neg hs0, if_neg hs1]; rfl)), hO.keep.below⟩
 ·have g1 : decide (8 ≤ (L : Int)) = false := by simp; omega
  have hp := hE.out
  rw [if_neg h8] at hp
  rw [hp]
  dsimp only
  clear hE hp
  obtain ⟨R, hp⟩ : ∃ R, R = pvRes j 0 := ⟨_, rfl⟩
  rw [← hp]
  go_enter Tryz.func231, Tryz.ntmps231
  go_wp2_with (first | refine ldN ?_ | ((with_reducible refine is_alloc ?_); (refine own_al (hO := hO) (hz := zero_int) (h := ?_); clear hO; intro n9 wv hO; have hne : g ≠ n9 := fun e => hO.apart _ List.mem_cons_self hxs (by rw [e]; exact List.mem_cons_self))))
  go_ret2
  subst hp
  exact ⟨by (rfl), hO.keep.below⟩
end Go.Proofs.YtbdfblgdmappeaaGreatDoor
