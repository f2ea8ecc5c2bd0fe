/- CalendarSegments: the walk. -/
import Derived.Test.YtfhkmkbfgmbbaaaDoorMO
import Derived.Test.YtfhkmkbfgmbbaaaDoorMN
namespace Go.Proofs.YtfhkmkbfgmbbaaaDoor
open Go.RowKit
set_option maxRecDepth 100000
theorem segs_two {v1 v2 : Value} {K1 K2 : List Rg} {n : Nat} (h1 : WinOk K1) (h2 : WinOk K2) (w : World) (hv : IsCells w (.slice (some ⟨n, 0, none⟩) 2 2) 2 [v1, v2]) (hv1 : IsCells w v1 K1.length (rcs K1)) (hv2 : IsCells w v2 K2.length (rcs K2)) :
    Calls Tryd.prog 26 #[.slice (some ⟨n, 0, none⟩) 2 2] w (RetInts w (segR [K1, K2] 10079)) :=
  segs_any (vs := [v1, v2]) (Ks := [K1, K2]) w rfl hv (fun k h => by
    match k, h with
    | 0, _ => exact hv1
    | 1, _ => exact hv2) (by simp) (fun K hK => by
    simp only [List.mem_cons, List.not_mem_nil, or_false] at hK
    rcases hK with rfl | rfl
    · have := h1.2.2; omega
    · have := h2.2.2; omega) (fun K hK => by
    simp only [List.mem_cons, List.not_mem_nil, or_false] at hK
    rcases hK with rfl | rfl
    · exact h1.bnd
    · exact h2.bnd)
theorem seg_turn (K1 K2 : List Rg) {m : Int} (h1 : 1 ≤ m) (h2 : m ≤ 10079) : decide (m ∈ segR [K1, K2] 10079) = ((memB K1 m != memB K1 (m - 1)) || (memB K2 m != memB K2 (m - 1))) := by
  rw [Bool.eq_iff_iff, decide_eq_true_iff, mem_segR, Bool.or_eq_true]
  simp only [List.mem_cons, List.not_mem_nil, or_false, exists_eq_or_imp, exists_eq_left]
  unfold turnB
  constructor
  · rintro (h | ⟨_, _, h⟩)
    · omega
    · exact h
  · intro h
    exact .inr ⟨h1, by omega, h⟩
theorem seg_head (Ks : List (List Rg)) : (segR Ks 10079)[0]? = some 0 := rfl
theorem take_dec {s : List Int} {m : Int} {i : Nat} (h : i < s.length) : decide (m ∈ s.take (i + 1)) = (decide (m ∈ s.take i) || (s[i] == m)) := by
  rw [List.take_succ_eq_append_getElem h, Bool.eq_iff_iff, decide_eq_true_iff, List.mem_append, List.mem_singleton, Bool.or_eq_true, decide_eq_true_iff, beq_iff_eq]
  exact ⟨fun h => h.imp id Eq.symm, fun h => h.imp id Eq.symm⟩
set_option maxHeartbeats 16000000 in
theorem seg_law {sl : Value} {zs : List Int} (minute : Int) (w : World) (hN : Nms w) (hZ : ZsOk sl zs) (hr : ∀ s ∈ roS sl (ints zs), w.rangeAt s.g s.o s.xs) :
    Calls Tryd.prog 7 #[sl, .int .i64 minute] w fun e w' => e = .returned (.bool true) ∧ Below w.heap.size w w' := by
  have hO := own_law hr
  clear hr
  obtain ⟨sa, sc, rfl, -⟩ := hZ.view
  obtain ⟨r0, r1⟩ := modI_bd minute (show (0 : Int) < 10079 by omega)
  have hmod := fun w => mod_is minute 10079 w (by omega) (by omega)
  generalize modI minute 10079 = n2 at *
  have t1 : IntKind.i64.wrap (1 + n2) = 1 + n2 := IntWalk.i64_in _ (by omega)
  have hsn := fun w h => sane9_any w h
  go_enter Tryd.func7, Tryd.ntmps7
  go_upto_if 26 with (first | (go_at_call 8; (with_reducible refine (new_any _ _ _).mono ?_); rintro e wv ⟨n, rfl, hB, hn, hb⟩; replace hO := hO.gain hb hB hn; have hT := hO.tapeIn List.mem_cons_self (fun _ h => h) (Nat.zero_le _); clear hb hB hn) | ((fail_if_success (have := K1)); (go_at_call 21; (with_reducible refine (window_any hZ (hO.tapeIn List.mem_cons_self (fun _ h => h) hT.le)).mono ?_); rintro e wv ⟨v1, i1, rfl, ⟨K1, hK1, hv9, hn9⟩, hk9, hT1⟩; have hoff9 := off_of_new hO hn9; have f1 := isCells_form hv9; replace hO := hO.after (by (repeat (exact Upd.here))) hk9 hT1.blk; replace hO := hO.offC hv9 hoff9; replace hT := hT1; clear hT1 hk9 hv9 hn9 hoff9; obtain ⟨a1, c1, rfl, -⟩ := (show FormC _ _ from f1).view)) | ((fail_if_success (have := K2)); (go_at_call 21; (with_reducible refine (window_any hZ (hO.tapeIn List.mem_cons_self (by (intro s hs; repeat (first | exact hs | apply List.mem_append_right))) hT.le)).mono ?_); rintro e wv ⟨v2, i2, rfl, ⟨K2, hK2, hv9, hn9⟩, hk9, hT1⟩; have hoff9 := off_of_new hO hn9; have f2 := isCells_form hv9; replace hO := hO.after (by (repeat (exact Upd.here))) hk9 hT1.blk; replace hO := hO.offC hv9 hoff9; replace hT := hT1; clear hT1 hk9 hv9 hn9 hoff9; obtain ⟨a2, c2, rfl, -⟩ := (show FormC _ _ from f2).view)) | ((with_reducible refine is_build ?_); (refine' own_buildP (o := ⟨some 18, _, _, _, _, _⟩) [.slice a1 K1.length c1, .slice a2 K2.length c2] hO (by rfl) rfl slice_RangesL rfl rfl (by rfl) (by decide) (by decide) ?_); clear hO; intro n18 wv hO) | (go_at_call 26; (with_reducible refine (segs_two hK1 hK2 _ (lit_cells (own_chunkAt hO List.mem_cons_self)) (hO.isC f1 (rcs_nil_of K1) (by intro q hq; repeat (first | exact List.mem_append_left _ hq | apply List.mem_append_right))) (hO.isC f2 (rcs_nil_of K2) (by intro q hq; repeat (exact List.mem_append_left _ hq)))).mono ?_); rintro e wv ⟨v3, rfl, ⟨hv9, hn9⟩, hb9⟩; have f3 := isCells_form hv9; replace hO := hO.gainC hb9 hv9 hn9; clear hb9 hv9 hn9; obtain ⟨a3, c3, rfl, ha3⟩ := f3.view) | (go_at_call 15; (with_reducible refine (hmod _).mono ?_); rintro e _ ⟨rfl, rfl⟩) | (go_at_call 19; (with_reducible refine (next_pos 2 hZ (hO.tapeIn (by (repeat (first | exact List.mem_cons_self | refine List.mem_cons_of_mem _ ?_))) (by (intro s hs; repeat (first | exact hs | apply List.mem_append_right))) hT.le) (by omega) (by omega)).mono ?_); rintro e wv ⟨v, i3, rfl, hv, hk9, hT1⟩; replace hO := hO.after (by (repeat (first | exact Upd.here | apply Upd.there))) hk9 hT1.blk; replace hT := hT1; clear hT1 hk9; obtain ⟨r, rfl, hr0, hr1⟩ := hv))
  have hm9 : ∀ m, 1 ≤ m → m ≤ 10079 → decide (m ∈ segR [K1, K2] 10079) = ((memB K1 m != memB K1 (m - 1)) || (memB K2 m != memB K2 (m - 1))) := fun m h1 h2 => seg_turn K1 K2 h1 h2
  have hasc := segR_asc [K1, K2] 10079
  have hhd := seg_head [K1, K2]
  have hln : (segR [K1, K2] 10079).length ≤ 10080 := by
    have h1 : ∀ n, (mins n).length = n := fun n => by
      induction n with
      | zero => rfl
      | succ n ih => rw [mins, List.length_append, ih]; rfl
    have h2 := List.length_filter_le (fun m => [K1, K2].any fun l => turnB l m) (mins 10079)
    rw [h1] at h2
    unfold segR
    rw [List.length_cons]
    omega
  generalize segR [K1, K2] 10079 = S at *
  have HM9 := Lib.hid hm9
  have HAS := Lib.hid hasc
  clear hm9 hasc
  have hS0 : 0 < S.length := by
    cases S with
    | nil => cases hhd
    | cons x t => simp
  obtain ⟨g3, o3, rfl⟩ := ha3 hS0
  have HH := Lib.hid hhd
  clear hhd
  rw [show roS (.slice (some ⟨g3, o3, none⟩) S.length c3) (ints S) = [⟨g3, o3, ints S⟩] from rfl, List.cons_append, List.nil_append] at hO
  have k1 := hK1.bnd
  have k2 := hK2.bnd
  have kl1 := hK1.2.2
  have kl2 := hK2.2.2
  have z1 := rcs_nil_of K1
  have z2 := rcs_nil_of K2
  clear hK1 hK2
  have hr : r = 0 ∨ r = 1 := by omega
  have hgo : ∀ (m : Int), 1 ≤ m → m ≤ 10079 → True := fun _ _ _ => trivial
  clear hgo
  rcases hr with rfl | rfl
  · go_upto_region 7 with (go_at_call 10; (with_reducible refine (minute_any hZ (hO.tapeIn (by (repeat (first | exact List.mem_cons_self | refine List.mem_cons_of_mem _ ?_))) (by (intro s hs; repeat (first | exact hs | apply List.mem_append_right | apply List.mem_cons_of_mem))) hT.le)).mono ?_); rintro e wv ⟨v, i4, rfl, ⟨m0, rfl, m1, m2⟩, hk9, hT1⟩; replace hO := hO.after (by (repeat (first | exact Upd.here | apply Upd.there))) hk9 hT1.blk; replace hT := hT1; clear hT1 hk9)
    generalize hM : max m0 1 = M
    have M1 : 1 ≤ M := by omega
    have M2 : M ≤ 10079 := by omega
    clear hM m1 m2 r0 r1
    have t9 : IntKind.i64.wrap (M - 1) = M - 1 := IntWalk.i64_in _ (by omega)
    have hB9 := HM9.out M M1 M2
    have ha1 := fun w h => active9_any (vl := .slice a1 K1.length c1) (l := K1) M w h (by omega) k1
    have ha2 := fun w h => active9_any (vl := .slice a1 K1.length c1) (l := K1) (M - 1) w h (by omega) k1
    have ha3 := fun w h => active9_any (vl := .slice a2 K2.length c2) (l := K2) M w h (by omega) k2
    have ha4 := fun w h => active9_any (vl := .slice a2 K2.length c2) (l := K2) (M - 1) w h (by omega) k2
    generalize memB K1 M = p1 at *
    generalize memB K1 (M - 1) = p2 at *
    generalize memB K2 M = p3 at *
    generalize memB K2 (M - 1) = p4 at *
    have HB : Hid (decide (M ∈ S) = ((p1 != p2) || (p3 != p4))) := Lib.hid hB9
    clear hB9 HM9 k1 k2 t1
    replace hO := (hO.sub (X' := [⟨n18, [.slice a1 K1.length c1, .slice a2 K2.length c2], 38⟩]) (.cons_cons _ (.cons _ .slnil)) (.refl _) (fun _ h => h)).chunkRoX
    go_wp2_with fail
    go_loopw [9, 10] (fun b q wr => ∃ i : Nat, i ≤ S.length ∧ q = .int .i64 i ∧ b = .bool (decide (M ∈ S.take i)) ∧ Own [] w [] [] (⟨n18, 0, [.slice a1 K1.length c1, .slice a2 K2.length c2]⟩ :: ⟨g3, o3, ints S⟩ :: (roS (.slice a2 K2.length c2) (rcs K2) ++ (roS (.slice a1 K1.length c1) (rcs K1) ++ roS (.slice sa zs.length sc) (ints zs)))) wr) (fun _ q _ => S.length - (intOf q).toNat)
    case atStart => exact ⟨0, by omega, rfl, by simp, hO⟩
    case round =>
      clear hO
      obtain ⟨i, hi, rfl, rfl, hO⟩ := hrel
      have s4 : IntKind.i64.wrap ((i : Int) + 1) = (i : Int) + 1 := IntWalk.i64_in _ (by omega)
      by_cases hlt : i < S.length
      · have g1 : decide ((i : Int) < (S.length : Int)) = true := decide_eq_true (by omega)
        have u1 := intsK_at hlt
        have hpr : i = 0 ∨ ∃ k, i = k + 1 := by cases i with | zero => exact .inl rfl | succ k => exact .inr ⟨k, rfl⟩
        have HT := Lib.hid (take_dec (m := M) hlt)
        obtain ⟨bb, hbb⟩ : ∃ bb, decide (M ∈ S.take i) = bb := ⟨_, rfl⟩
        rw [hbb] at HT
        rw [hbb]
        clear hbb
        go_upto_region 11 with (fail)
        have q3 := hO.ro ⟨g3, o3, ints S⟩ (List.mem_cons_of_mem _ List.mem_cons_self) i _ u1
        dsimp only at q3
        rcases hpr with hi0 | ⟨k, rfl⟩
        · obtain ⟨x, hx⟩ : ∃ x, S[i] = x := ⟨_, rfl⟩
          rw [hx] at HT q3 u1
          have HX := Lib.hid hx
          clear hx
          obtain ⟨d, hd⟩ : ∃ d, (x == M) = d := ⟨_, rfl⟩
          rw [hd] at HT
          have g5 : decide ((i : Int) > 0) = false := decide_eq_false (by omega)
          have g6 : decide (0 < i) = false := decide_eq_false (by omega)
          clear hi0
          cases bb <;> cases d
          all_goals
            go_wp2_with ((with_reducible refine is_load ?_); (refine own_ldV (h := ?_)))
            (refine own_quiet hO (by kernel_rfl) (by kernel_rfl) ?_; clear hO; (repeat (first | go_big_quiet_skip | (go_big_quiet_want; (go_big_quiet_op; (first | go_big_quiet_on | ((refine ⟨_, fun _ _ => rfl, ?_⟩); go_big_quiet_on)))))); (refine wpQuiet_nil ?_); intro wv hO)
            go_wp2_with fail
            go_roundw
            case rel => exact ⟨i + 1, by omega, by go_num, by rw [HT.out]; rfl, hO⟩
            case measure => simp [intOf]; omega
        · have hlk := List.pairwise_iff_getElem.1 HAS.out k (k + 1) (by omega) hlt (by omega)
          have u2 := intsK_at (l := S) (show k < S.length by omega)
          have q4 := hO.ro ⟨g3, o3, ints S⟩ (List.mem_cons_of_mem _ List.mem_cons_self) k _ u2
          dsimp only at q4
          obtain ⟨x, hx⟩ : ∃ x, S[k + 1] = x := ⟨_, rfl⟩
          rw [hx] at HT q3 u1 hlk
          have HX := Lib.hid hx
          clear hx
          obtain ⟨y, hy⟩ : ∃ y, S[k] = y := ⟨_, rfl⟩
          rw [hy] at q4 u2 hlk
          have HY := Lib.hid hy
          clear hy
          obtain ⟨d, hd⟩ : ∃ d, (x == M) = d := ⟨_, rfl⟩
          rw [hd] at HT
          have g5 : decide (((k + 1 : Nat) : Int) > 0) = true := decide_eq_true (by omega)
          have g6 : decide (0 < k + 1) = true := decide_eq_true (by omega)
          have g7 : decide (x ≤ y) = false := decide_eq_false (by omega)
          have s5 : IntKind.i64.wrap (((k + 1 : Nat) : Int) - 1) = (k : Int) := by rw [IntWalk.i64_in _ (by omega)]; omega
          clear hlk
          cases bb <;> cases d
          all_goals
            go_wp2_with ((with_reducible refine is_load ?_); (refine own_ldV (h := ?_)))
            (refine own_quiet hO (by kernel_rfl) (by kernel_rfl) ?_; clear hO; (repeat (go_big_quiet_want; (first | ((with_reducible refine is_loadQ ?_); (refine q_ldV (h := ?_)); (try simp only [Act.put]); (try simp only [List.setIfInBounds_toArray, List.set_cons_zero, List.set_cons_succ]); go_big_quiet_on) | (go_big_quiet_op; (first | go_big_quiet_on | ((refine ⟨_, fun _ _ => rfl, ?_⟩); go_big_quiet_on)))))); (refine wpQuiet_nil ?_); intro wv hO)
            go_wp2_with fail
            go_roundw
            case rel => exact ⟨k + 1 + 1, by omega, by go_num, by rw [HT.out]; rfl, hO⟩
            case measure => simp [intOf]; omega
      · have g1 : decide ((i : Int) < (S.length : Int)) = false := decide_eq_false (by omega)
        have e9 : decide (M ∈ S.take i) = ((p1 != p2) || (p3 != p4)) := by rw [show i = S.length by omega, List.take_length]; exact HB.out
        rw [e9]
        clear e9
        obtain rfl : i = S.length := by omega
        have u1 : (ints S)[0]? = some (.int .i64 0) := by
          have := HH.out
          cases S with
          | nil => cases this
          | cons x t => cases this; rfl
        have q3 := hO.ro ⟨g3, o3, ints S⟩ (List.mem_cons_of_mem _ List.mem_cons_self) 0 _ u1
        dsimp only at q3
        have g3 : decide ((S.length : Int) > 0) = true := decide_eq_true (by omega)
        have g4 : decide (0 < S.length) = true := decide_eq_true (by omega)
        have hpp : ∃ d1 d2 : Bool, (p1 != p2) = d1 ∧ (p1 == p2) = (!d1) ∧ (p3 != p4) = d2 ∧ (p3 == p4) = (!d2) ∧ ((d1 = true) ∨ (d1 = false ∧ d2 = true) ∨ (d1 = false ∧ d2 = false)) := ⟨_, _, rfl, by simp [bne], rfl, by simp [bne], by cases (p1 != p2) <;> cases (p3 != p4) <;> simp⟩
        obtain ⟨d1, d2, w1, w2, w3, w4, hpp⟩ := hpp
        rw [w1, w3]
        rcases hpp with rfl | ⟨rfl, rfl⟩ | ⟨rfl, rfl⟩
        all_goals
          go_wp2_with fail
          refine wp_region_any (by kernel_rfl) ?_
          replace hO := hO.drew
          have ix9 := Ix.mk [0, 1, 3, 5, 6, 8, 9]
          iterate 7 (refine wpAny_tk ix9 ?_; replace ix9 := ix9.tail; (first | go_big_quiet_skip | (go_big_quiet_want; (go_big_quiet_op; (first | go_big_quiet_on | ((refine ⟨_, fun _ _ => rfl, ?_⟩); go_big_quiet_on))))); (refine wpQuiet_nil ?_); (try simp only [Act.put]); (try simp only [List.setIfInBounds_toArray, List.set_cons_zero, List.set_cons_succ]))
          clear ix9
          refine wpAny_all (rs := [2, 7]) (by kernel_rfl) (by simp) (ord_cons ?_ (ord_cons ?_ ord_nil))
          rotate_left 2
          all_goals
            refine wpOp_of_listL rfl ?_
            ((with_reducible refine is_load ?_); (refine own_ldV (hl := ld_one one_rgsS (hO.roCellG (j := 0) List.mem_cons_self rfl)) (h := ?_))); (try simp only [Act.put]); (try simp only [List.setIfInBounds_toArray, List.set_cons_zero, List.set_cons_succ])
            refine wpList_done (qk_intro ?_)
          refine wpAny_all (rs := [4, 7]) (by kernel_rfl) (by simp) (ord_cons ?_ (ord_cons ?_ ord_nil))
          rotate_left 2
          refine wpAny_all (rs := [2]) (by kernel_rfl) (by simp) (ord_cons ?_ ord_nil)
          rotate_left 1
          all_goals
            refine wpOp_of_listL rfl ?_
            (first | ((with_reducible refine is_load ?_); (refine own_ldV (hl := ld_one one_rgsS (hO.roCellG (j := 0) List.mem_cons_self rfl)) (h := ?_))) | ((refine wpList_step (fun K hK => ?_)); go_simp; ((go_at_call 27; (with_reducible refine (ha1 _ (hO.isC f1 z1 (by intro q hq; repeat (first | exact List.mem_append_left _ hq | apply List.mem_append_right | apply List.mem_cons_of_mem)))).mono ?_); rintro e wv ⟨rfl, hb⟩; replace hO := hO.call hb; clear hb); (try simp only []); (refine hK _ _ ?_); clear hK K))); (try simp only [Act.put]); (try simp only [List.setIfInBounds_toArray, List.set_cons_zero, List.set_cons_succ])
            refine wpList_done (qk_intro ?_)
          refine wpAny_all (rs := [7]) (by kernel_rfl) (by simp) (ord_cons ?_ ord_nil)
          rotate_left 1
          refine wpAny_all (rs := [4]) (by kernel_rfl) (by simp) (ord_cons ?_ ord_nil)
          rotate_left 1
          refine wpAny_all (rs := [4]) (by kernel_rfl) (by simp) (ord_cons ?_ ord_nil)
          rotate_left 1
          all_goals
            refine wpOp_of_listL rfl ?_
            (first | ((with_reducible refine is_load ?_); (refine own_ldV (hl := ld_one one_rgsS (hO.roCellG (j := 0) List.mem_cons_self rfl)) (h := ?_))) | ((refine wpList_step (fun K hK => ?_)); go_simp; ((go_at_call 27; (with_reducible refine (ha1 _ (hO.isC f1 z1 (by intro q hq; repeat (first | exact List.mem_append_left _ hq | apply List.mem_append_right | apply List.mem_cons_of_mem)))).mono ?_); rintro e wv ⟨rfl, hb⟩; replace hO := hO.call hb; clear hb); (try simp only []); (refine hK _ _ ?_); clear hK K))); (try simp only [Act.put]); (try simp only [List.setIfInBounds_toArray, List.set_cons_zero, List.set_cons_succ])
            refine wpList_done (qk_intro ?_)
          refine wpAny_all (rs := [10]) (by kernel_rfl) (by simp) (ord_cons ?_ ord_nil)
          rotate_left 1
          refine wpAny_all (rs := [10]) (by kernel_rfl) (by simp) (ord_cons ?_ ord_nil)
          rotate_left 1
          refine wpAny_all (rs := [10]) (by kernel_rfl) (by simp) (ord_cons ?_ ord_nil)
          rotate_left 1
          all_goals
            refine wpOp_of_listL rfl ?_
            ((refine wpList_step (fun K hK => ?_)); go_simp; ((go_at_call 27; (with_reducible refine (ha2 _ (hO.isC f1 z1 (by intro q hq; repeat (first | exact List.mem_append_left _ hq | apply List.mem_append_right | apply List.mem_cons_of_mem)))).mono ?_); rintro e wv ⟨rfl, hb⟩; replace hO := hO.call hb; clear hb); (try simp only []); (refine hK _ _ ?_); clear hK K))
            refine wpList_done (qk_intro ?_)
          have ix9 := Ix.mk [11, 12, 13, 14, 16, 18, 19, 21, 22]
          iterate 9 (refine wpAny_tk ix9 ?_; replace ix9 := ix9.tail; (first | go_big_quiet_skip | (go_big_quiet_want; (go_big_quiet_op; (first | go_big_quiet_on | ((refine ⟨_, fun _ _ => rfl, ?_⟩); go_big_quiet_on))))); (refine wpQuiet_nil ?_); (try simp only [Act.put]); (try simp only [List.setIfInBounds_toArray, List.set_cons_zero, List.set_cons_succ]))
          clear ix9
          refine wpAny_all (rs := [15, 20]) (by kernel_rfl) (by simp) (ord_cons ?_ (ord_cons ?_ ord_nil))
          rotate_left 2
          have ix9 := Ix.mk [11, 12, 13, 14, 16, 18, 19, 21, 22]
          iterate 9 (refine wpAny_tk ix9 ?_; replace ix9 := ix9.tail; (first | go_big_quiet_skip | (go_big_quiet_want; (go_big_quiet_op; (first | go_big_quiet_on | ((refine ⟨_, fun _ _ => rfl, ?_⟩); go_big_quiet_on))))); (refine wpQuiet_nil ?_); (try simp only [Act.put]); (try simp only [List.setIfInBounds_toArray, List.set_cons_zero, List.set_cons_succ]))
          clear ix9
          refine wpAny_all (rs := [15, 20]) (by kernel_rfl) (by simp) (ord_cons ?_ (ord_cons ?_ ord_nil))
          rotate_left 2
          have ix9 := Ix.mk [11, 12, 13, 14, 16, 18, 19, 21, 22]
          iterate 9 (refine wpAny_tk ix9 ?_; replace ix9 := ix9.tail; (first | go_big_quiet_skip | (go_big_quiet_want; (go_big_quiet_op; (first | go_big_quiet_on | ((refine ⟨_, fun _ _ => rfl, ?_⟩); go_big_quiet_on))))); (refine wpQuiet_nil ?_); (try simp only [Act.put]); (try simp only [List.setIfInBounds_toArray, List.set_cons_zero, List.set_cons_succ]))
          clear ix9
          refine wpAny_all (rs := [15, 20]) (by kernel_rfl) (by simp) (ord_cons ?_ (ord_cons ?_ ord_nil))
          rotate_left 2
          all_goals
            refine wpOp_of_listL rfl ?_
            (first | ((with_reducible refine is_load ?_); (refine own_ldV (hl := ld_one one_rgsS (hO.roCellG (j := 1) List.mem_cons_self rfl)) (h := ?_))) | ((refine wpList_step (fun K hK => ?_)); go_simp; ((refine hK _ _ ?_); clear hK K))); (try simp only [Act.put]); (try simp only [List.setIfInBounds_toArray, List.set_cons_zero, List.set_cons_succ])
            refine wpList_done (qk_intro ?_)
          refine wpAny_all (rs := [17, 20]) (by kernel_rfl) (by simp) (ord_cons ?_ (ord_cons ?_ ord_nil))
          rotate_left 2
          refine wpAny_all (rs := [15]) (by kernel_rfl) (by simp) (ord_cons ?_ ord_nil)
          rotate_left 1
          refine wpAny_all (rs := [17, 20]) (by kernel_rfl) (by simp) (ord_cons ?_ (ord_cons ?_ ord_nil))
          rotate_left 2
          refine wpAny_all (rs := [15]) (by kernel_rfl) (by simp) (ord_cons ?_ ord_nil)
          rotate_left 1
          refine wpAny_all (rs := [17, 20]) (by kernel_rfl) (by simp) (ord_cons ?_ (ord_cons ?_ ord_nil))
          rotate_left 2
          refine wpAny_all (rs := [15]) (by kernel_rfl) (by simp) (ord_cons ?_ ord_nil)
          rotate_left 1
          all_goals
            refine wpOp_of_listL rfl ?_
            (first | ((with_reducible refine is_load ?_); (refine own_ldV (hl := ld_one one_rgsS (hO.roCellG (j := 1) List.mem_cons_self rfl)) (h := ?_))) | ((refine wpList_step (fun K hK => ?_)); go_simp; (first | ((refine hK _ _ ?_); clear hK K) | ((go_at_call 27; (with_reducible refine (ha3 _ (hO.isC f2 z2 (by intro q hq; repeat (first | exact List.mem_append_left _ hq | apply List.mem_cons_of_mem)))).mono ?_); rintro e wv ⟨rfl, hb⟩; replace hO := hO.call hb; clear hb); (try simp only []); (refine hK _ _ ?_); clear hK K)))); (try simp only [Act.put]); (try simp only [List.setIfInBounds_toArray, List.set_cons_zero, List.set_cons_succ])
            refine wpList_done (qk_intro ?_)
          refine wpAny_all (rs := [20]) (by kernel_rfl) (by simp) (ord_cons ?_ ord_nil)
          rotate_left 1
          refine wpAny_all (rs := [17]) (by kernel_rfl) (by simp) (ord_cons ?_ ord_nil)
          rotate_left 1
          refine wpAny_all (rs := [17]) (by kernel_rfl) (by simp) (ord_cons ?_ ord_nil)
          rotate_left 1
          refine wpAny_all (rs := [20]) (by kernel_rfl) (by simp) (ord_cons ?_ ord_nil)
          rotate_left 1
          refine wpAny_all (rs := [17]) (by kernel_rfl) (by simp) (ord_cons ?_ ord_nil)
          rotate_left 1
          refine wpAny_all (rs := [17]) (by kernel_rfl) (by simp) (ord_cons ?_ ord_nil)
          rotate_left 1
          refine wpAny_all (rs := [20]) (by kernel_rfl) (by simp) (ord_cons ?_ ord_nil)
          rotate_left 1
          refine wpAny_all (rs := [17]) (by kernel_rfl) (by simp) (ord_cons ?_ ord_nil)
          rotate_left 1
          refine wpAny_all (rs := [17]) (by kernel_rfl) (by simp) (ord_cons ?_ ord_nil)
          rotate_left 1
          all_goals
            refine wpOp_of_listL rfl ?_
            (first | ((with_reducible refine is_load ?_); (refine own_ldV (hl := ld_one one_rgsS (hO.roCellG (j := 1) List.mem_cons_self rfl)) (h := ?_))) | ((refine wpList_step (fun K hK => ?_)); go_simp; (first | ((refine hK _ _ ?_); clear hK K) | ((go_at_call 27; (with_reducible refine (ha3 _ (hO.isC f2 z2 (by intro q hq; repeat (first | exact List.mem_append_left _ hq | apply List.mem_cons_of_mem)))).mono ?_); rintro e wv ⟨rfl, hb⟩; replace hO := hO.call hb; clear hb); (try simp only []); (refine hK _ _ ?_); clear hK K)))); (try simp only [Act.put]); (try simp only [List.setIfInBounds_toArray, List.set_cons_zero, List.set_cons_succ])
            refine wpList_done (qk_intro ?_)
          refine wpAny_all (rs := [23]) (by kernel_rfl) (by simp) (ord_cons ?_ ord_nil)
          rotate_left 1
          refine wpAny_all (rs := [23]) (by kernel_rfl) (by simp) (ord_cons ?_ ord_nil)
          rotate_left 1
          refine wpAny_all (rs := [23]) (by kernel_rfl) (by simp) (ord_cons ?_ ord_nil)
          rotate_left 1
          refine wpAny_all (rs := [23]) (by kernel_rfl) (by simp) (ord_cons ?_ ord_nil)
          rotate_left 1
          refine wpAny_all (rs := [23]) (by kernel_rfl) (by simp) (ord_cons ?_ ord_nil)
          rotate_left 1
          refine wpAny_all (rs := [23]) (by kernel_rfl) (by simp) (ord_cons ?_ ord_nil)
          rotate_left 1
          refine wpAny_all (rs := [23]) (by kernel_rfl) (by simp) (ord_cons ?_ ord_nil)
          rotate_left 1
          refine wpAny_all (rs := [23]) (by kernel_rfl) (by simp) (ord_cons ?_ ord_nil)
          rotate_left 1
          refine wpAny_all (rs := [23]) (by kernel_rfl) (by simp) (ord_cons ?_ ord_nil)
          rotate_left 1
          all_goals
            refine wpOp_of_listL rfl ?_
            ((refine wpList_step (fun K hK => ?_)); go_simp; (first | ((refine hK _ _ ?_); clear hK K) | ((go_at_call 27; (with_reducible refine (ha4 _ (hO.isC f2 z2 (by intro q hq; repeat (first | exact List.mem_append_left _ hq | apply List.mem_cons_of_mem)))).mono ?_); rintro e wv ⟨rfl, hb⟩; replace hO := hO.call hb; clear hb); (try simp only []); (refine hK _ _ ?_); clear hK K)))
            refine wpList_done (qk_intro ?_)
          have ix9 := Ix.mk [24, 25]
          iterate 2 (refine wpAny_tk ix9 ?_; replace ix9 := ix9.tail; (first | go_big_quiet_skip | (go_big_quiet_want; (go_big_quiet_op; (first | go_big_quiet_on | ((refine ⟨_, fun _ _ => rfl, ?_⟩); go_big_quiet_on))))); (refine wpQuiet_nil ?_); (try simp only [Act.put]); (try simp only [List.setIfInBounds_toArray, List.set_cons_zero, List.set_cons_succ]))
          clear ix9
          refine wpAny_all (rs := [26]) (by kernel_rfl) (by simp) (ord_cons ?_ ord_nil)
          rotate_left 1
          have ix9 := Ix.mk [24, 25]
          iterate 2 (refine wpAny_tk ix9 ?_; replace ix9 := ix9.tail; (first | go_big_quiet_skip | (go_big_quiet_want; (go_big_quiet_op; (first | go_big_quiet_on | ((refine ⟨_, fun _ _ => rfl, ?_⟩); go_big_quiet_on))))); (refine wpQuiet_nil ?_); (try simp only [Act.put]); (try simp only [List.setIfInBounds_toArray, List.set_cons_zero, List.set_cons_succ]))
          clear ix9
          refine wpAny_all (rs := [26]) (by kernel_rfl) (by simp) (ord_cons ?_ ord_nil)
          rotate_left 1
          have ix9 := Ix.mk [24, 25]
          iterate 2 (refine wpAny_tk ix9 ?_; replace ix9 := ix9.tail; (first | go_big_quiet_skip | (go_big_quiet_want; (go_big_quiet_op; (first | go_big_quiet_on | ((refine ⟨_, fun _ _ => rfl, ?_⟩); go_big_quiet_on))))); (refine wpQuiet_nil ?_); (try simp only [Act.put]); (try simp only [List.setIfInBounds_toArray, List.set_cons_zero, List.set_cons_succ]))
          clear ix9
          refine wpAny_all (rs := [26]) (by kernel_rfl) (by simp) (ord_cons ?_ ord_nil)
          rotate_left 1
          have ix9 := Ix.mk [24, 25]
          iterate 2 (refine wpAny_tk ix9 ?_; replace ix9 := ix9.tail; (first | go_big_quiet_skip | (go_big_quiet_want; (go_big_quiet_op; (first | go_big_quiet_on | ((refine ⟨_, fun _ _ => rfl, ?_⟩); go_big_quiet_on))))); (refine wpQuiet_nil ?_); (try simp only [Act.put]); (try simp only [List.setIfInBounds_toArray, List.set_cons_zero, List.set_cons_succ]))
          clear ix9
          refine wpAny_all (rs := [26]) (by kernel_rfl) (by simp) (ord_cons ?_ ord_nil)
          rotate_left 1
          have ix9 := Ix.mk [24, 25]
          iterate 2 (refine wpAny_tk ix9 ?_; replace ix9 := ix9.tail; (first | go_big_quiet_skip | (go_big_quiet_want; (go_big_quiet_op; (first | go_big_quiet_on | ((refine ⟨_, fun _ _ => rfl, ?_⟩); go_big_quiet_on))))); (refine wpQuiet_nil ?_); (try simp only [Act.put]); (try simp only [List.setIfInBounds_toArray, List.set_cons_zero, List.set_cons_succ]))
          clear ix9
          refine wpAny_all (rs := [26]) (by kernel_rfl) (by simp) (ord_cons ?_ ord_nil)
          rotate_left 1
          have ix9 := Ix.mk [24, 25]
          iterate 2 (refine wpAny_tk ix9 ?_; replace ix9 := ix9.tail; (first | go_big_quiet_skip | (go_big_quiet_want; (go_big_quiet_op; (first | go_big_quiet_on | ((refine ⟨_, fun _ _ => rfl, ?_⟩); go_big_quiet_on))))); (refine wpQuiet_nil ?_); (try simp only [Act.put]); (try simp only [List.setIfInBounds_toArray, List.set_cons_zero, List.set_cons_succ]))
          clear ix9
          refine wpAny_all (rs := [26]) (by kernel_rfl) (by simp) (ord_cons ?_ ord_nil)
          rotate_left 1
          have ix9 := Ix.mk [24, 25]
          iterate 2 (refine wpAny_tk ix9 ?_; replace ix9 := ix9.tail; (first | go_big_quiet_skip | (go_big_quiet_want; (go_big_quiet_op; (first | go_big_quiet_on | ((refine ⟨_, fun _ _ => rfl, ?_⟩); go_big_quiet_on))))); (refine wpQuiet_nil ?_); (try simp only [Act.put]); (try simp only [List.setIfInBounds_toArray, List.set_cons_zero, List.set_cons_succ]))
          clear ix9
          refine wpAny_all (rs := [26]) (by kernel_rfl) (by simp) (ord_cons ?_ ord_nil)
          rotate_left 1
          have ix9 := Ix.mk [24, 25]
          iterate 2 (refine wpAny_tk ix9 ?_; replace ix9 := ix9.tail; (first | go_big_quiet_skip | (go_big_quiet_want; (go_big_quiet_op; (first | go_big_quiet_on | ((refine ⟨_, fun _ _ => rfl, ?_⟩); go_big_quiet_on))))); (refine wpQuiet_nil ?_); (try simp only [Act.put]); (try simp only [List.setIfInBounds_toArray, List.set_cons_zero, List.set_cons_succ]))
          clear ix9
          refine wpAny_all (rs := [26]) (by kernel_rfl) (by simp) (ord_cons ?_ ord_nil)
          rotate_left 1
          have ix9 := Ix.mk [24, 25]
          iterate 2 (refine wpAny_tk ix9 ?_; replace ix9 := ix9.tail; (first | go_big_quiet_skip | (go_big_quiet_want; (go_big_quiet_op; (first | go_big_quiet_on | ((refine ⟨_, fun _ _ => rfl, ?_⟩); go_big_quiet_on))))); (refine wpQuiet_nil ?_); (try simp only [Act.put]); (try simp only [List.setIfInBounds_toArray, List.set_cons_zero, List.set_cons_succ]))
          clear ix9
          refine wpAny_all (rs := [26]) (by kernel_rfl) (by simp) (ord_cons ?_ ord_nil)
          rotate_left 1
          all_goals
            refine wpOp_of_listL rfl ?_
            ((refine wpList_step (fun K hK => ?_)); go_simp; ((refine hK _ _ ?_); clear hK K))
            refine wpList_done (qk_intro ?_)
          refine wpAny_done (by kernel_rfl) ?_ _
          rotate_left
          refine wpAny_done (by kernel_rfl) ?_ _
          rotate_left
          refine wpAny_done (by kernel_rfl) ?_ _
          rotate_left
          refine wpAny_done (by kernel_rfl) ?_ _
          rotate_left
          refine wpAny_done (by kernel_rfl) ?_ _
          rotate_left
          refine wpAny_done (by kernel_rfl) ?_ _
          rotate_left
          refine wpAny_done (by kernel_rfl) ?_ _
          rotate_left
          refine wpAny_done (by kernel_rfl) ?_ _
          rotate_left
          refine wpAny_done (by kernel_rfl) ?_ _
          rotate_left
          all_goals
            go_wp2_with (first | ((with_reducible refine is_load ?_); (refine own_ldV (h := ?_))) | (go_at_call 16; (with_reducible refine (hsn _ (hO.nms hN (by simp))).mono ?_); rintro e wv ⟨rfl, hb⟩; replace hO := hO.call hb; clear hb))
            go_ret
            exact ⟨rfl, hO.keep.below⟩
  · go_upto_region 7 with (fail)
    simp only [show ((1 : Int) == 0) = false from rfl]
    generalize hM : 1 + n2 = M at *
    have M1 : 1 ≤ M := by omega
    have M2 : M ≤ 10079 := by omega
    clear hM r0 r1
    have t9 : IntKind.i64.wrap (M - 1) = M - 1 := IntWalk.i64_in _ (by omega)
    have hB9 := HM9.out M M1 M2
    have ha1 := fun w h => active9_any (vl := .slice a1 K1.length c1) (l := K1) M w h (by omega) k1
    have ha2 := fun w h => active9_any (vl := .slice a1 K1.length c1) (l := K1) (M - 1) w h (by omega) k1
    have ha3 := fun w h => active9_any (vl := .slice a2 K2.length c2) (l := K2) M w h (by omega) k2
    have ha4 := fun w h => active9_any (vl := .slice a2 K2.length c2) (l := K2) (M - 1) w h (by omega) k2
    generalize memB K1 M = p1 at *
    generalize memB K1 (M - 1) = p2 at *
    generalize memB K2 M = p3 at *
    generalize memB K2 (M - 1) = p4 at *
    have HB : Hid (decide (M ∈ S) = ((p1 != p2) || (p3 != p4))) := Lib.hid hB9
    clear hB9 HM9 k1 k2 t1
    replace hO := (hO.sub (X' := [⟨n18, [.slice a1 K1.length c1, .slice a2 K2.length c2], 38⟩]) (.cons_cons _ (.cons _ .slnil)) (.refl _) (fun _ h => h)).chunkRoX
    go_wp2_with fail
    go_loopw [9, 10] (fun b q wr => ∃ i : Nat, i ≤ S.length ∧ q = .int .i64 i ∧ b = .bool (decide (M ∈ S.take i)) ∧ Own [] w [] [] (⟨n18, 0, [.slice a1 K1.length c1, .slice a2 K2.length c2]⟩ :: ⟨g3, o3, ints S⟩ :: (roS (.slice a2 K2.length c2) (rcs K2) ++ (roS (.slice a1 K1.length c1) (rcs K1) ++ roS (.slice sa zs.length sc) (ints zs)))) wr) (fun _ q _ => S.length - (intOf q).toNat)
    case atStart => exact ⟨0, by omega, rfl, by simp, hO⟩
    case round =>
      clear hO
      obtain ⟨i, hi, rfl, rfl, hO⟩ := hrel
      have s4 : IntKind.i64.wrap ((i : Int) + 1) = (i : Int) + 1 := IntWalk.i64_in _ (by omega)
      by_cases hlt : i < S.length
      · have g1 : decide ((i : Int) < (S.length : Int)) = true := decide_eq_true (by omega)
        have u1 := intsK_at hlt
        have hpr : i = 0 ∨ ∃ k, i = k + 1 := by cases i with | zero => exact .inl rfl | succ k => exact .inr ⟨k, rfl⟩
        have HT := Lib.hid (take_dec (m := M) hlt)
        obtain ⟨bb, hbb⟩ : ∃ bb, decide (M ∈ S.take i) = bb := ⟨_, rfl⟩
        rw [hbb] at HT
        rw [hbb]
        clear hbb
        go_upto_region 11 with (fail)
        have q3 := hO.ro ⟨g3, o3, ints S⟩ (List.mem_cons_of_mem _ List.mem_cons_self) i _ u1
        dsimp only at q3
        rcases hpr with hi0 | ⟨k, rfl⟩
        · obtain ⟨x, hx⟩ : ∃ x, S[i] = x := ⟨_, rfl⟩
          rw [hx] at HT q3 u1
          have HX := Lib.hid hx
          clear hx
          obtain ⟨d, hd⟩ : ∃ d, (x == M) = d := ⟨_, rfl⟩
          rw [hd] at HT
          have g5 : decide ((i : Int) > 0) = false := decide_eq_false (by omega)
          have g6 : decide (0 < i) = false := decide_eq_false (by omega)
          clear hi0
          cases bb <;> cases d
          all_goals
            go_wp2_with ((with_reducible refine is_load ?_); (refine own_ldV (h := ?_)))
            (refine own_quiet hO (by kernel_rfl) (by kernel_rfl) ?_; clear hO; (repeat (first | go_big_quiet_skip | (go_big_quiet_want; (go_big_quiet_op; (first | go_big_quiet_on | ((refine ⟨_, fun _ _ => rfl, ?_⟩); go_big_quiet_on)))))); (refine wpQuiet_nil ?_); intro wv hO)
            go_wp2_with fail
            go_roundw
            case rel => exact ⟨i + 1, by omega, by go_num, by rw [HT.out]; rfl, hO⟩
            case measure => simp [intOf]; omega
        · have hlk := List.pairwise_iff_getElem.1 HAS.out k (k + 1) (by omega) hlt (by omega)
          have u2 := intsK_at (l := S) (show k < S.length by omega)
          have q4 := hO.ro ⟨g3, o3, ints S⟩ (List.mem_cons_of_mem _ List.mem_cons_self) k _ u2
          dsimp only at q4
          obtain ⟨x, hx⟩ : ∃ x, S[k + 1] = x := ⟨_, rfl⟩
          rw [hx] at HT q3 u1 hlk
          have HX := Lib.hid hx
          clear hx
          obtain ⟨y, hy⟩ : ∃ y, S[k] = y := ⟨_, rfl⟩
          rw [hy] at q4 u2 hlk
          have HY := Lib.hid hy
          clear hy
          obtain ⟨d, hd⟩ : ∃ d, (x == M) = d := ⟨_, rfl⟩
          rw [hd] at HT
          have g5 : decide (((k + 1 : Nat) : Int) > 0) = true := decide_eq_true (by omega)
          have g6 : decide (0 < k + 1) = true := decide_eq_true (by omega)
          have g7 : decide (x ≤ y) = false := decide_eq_false (by omega)
          have s5 : IntKind.i64.wrap (((k + 1 : Nat) : Int) - 1) = (k : Int) := by rw [IntWalk.i64_in _ (by omega)]; omega
          clear hlk
          cases bb <;> cases d
          all_goals
            go_wp2_with ((with_reducible refine is_load ?_); (refine own_ldV (h := ?_)))
            (refine own_quiet hO (by kernel_rfl) (by kernel_rfl) ?_; clear hO; (repeat (go_big_quiet_want; (first | ((with_reducible refine is_loadQ ?_); (refine q_ldV (h := ?_)); (try simp only [Act.put]); (try simp only [List.setIfInBounds_toArray, List.set_cons_zero, List.set_cons_succ]); go_big_quiet_on) | (go_big_quiet_op; (first | go_big_quiet_on | ((refine ⟨_, fun _ _ => rfl, ?_⟩); go_big_quiet_on)))))); (refine wpQuiet_nil ?_); intro wv hO)
            go_wp2_with fail
            go_roundw
            case rel => exact ⟨k + 1 + 1, by omega, by go_num, by rw [HT.out]; rfl, hO⟩
            case measure => simp [intOf]; omega
      · have g1 : decide ((i : Int) < (S.length : Int)) = false := decide_eq_false (by omega)
        have e9 : decide (M ∈ S.take i) = ((p1 != p2) || (p3 != p4)) := by rw [show i = S.length by omega, List.take_length]; exact HB.out
        rw [e9]
        clear e9
        obtain rfl : i = S.length := by omega
        have u1 : (ints S)[0]? = some (.int .i64 0) := by
          have := HH.out
          cases S with
          | nil => cases this
          | cons x t => cases this; rfl
        have q3 := hO.ro ⟨g3, o3, ints S⟩ (List.mem_cons_of_mem _ List.mem_cons_self) 0 _ u1
        dsimp only at q3
        have g3 : decide ((S.length : Int) > 0) = true := decide_eq_true (by omega)
        have g4 : decide (0 < S.length) = true := decide_eq_true (by omega)
        have hpp : ∃ d1 d2 : Bool, (p1 != p2) = d1 ∧ (p1 == p2) = (!d1) ∧ (p3 != p4) = d2 ∧ (p3 == p4) = (!d2) ∧ ((d1 = true) ∨ (d1 = false ∧ d2 = true) ∨ (d1 = false ∧ d2 = false)) := ⟨_, _, rfl, by simp [bne], rfl, by simp [bne], by cases (p1 != p2) <;> cases (p3 != p4) <;> simp⟩
        obtain ⟨d1, d2, w1, w2, w3, w4, hpp⟩ := hpp
        rw [w1, w3]
        rcases hpp with rfl | ⟨rfl, rfl⟩ | ⟨rfl, rfl⟩
        all_goals
          go_wp2_with fail
          refine wp_region_any (by kernel_rfl) ?_
          replace hO := hO.drew
          have ix9 := Ix.mk [0, 1, 3, 5, 6, 8, 9]
          iterate 7 (refine wpAny_tk ix9 ?_; replace ix9 := ix9.tail; (first | go_big_quiet_skip | (go_big_quiet_want; (go_big_quiet_op; (first | go_big_quiet_on | ((refine ⟨_, fun _ _ => rfl, ?_⟩); go_big_quiet_on))))); (refine wpQuiet_nil ?_); (try simp only [Act.put]); (try simp only [List.setIfInBounds_toArray, List.set_cons_zero, List.set_cons_succ]))
          clear ix9
          refine wpAny_all (rs := [2, 7]) (by kernel_rfl) (by simp) (ord_cons ?_ (ord_cons ?_ ord_nil))
          rotate_left 2
          all_goals
            refine wpOp_of_listL rfl ?_
            ((with_reducible refine is_load ?_); (refine own_ldV (hl := ld_one one_rgsS (hO.roCellG (j := 0) List.mem_cons_self rfl)) (h := ?_))); (try simp only [Act.put]); (try simp only [List.setIfInBounds_toArray, List.set_cons_zero, List.set_cons_succ])
            refine wpList_done (qk_intro ?_)
          refine wpAny_all (rs := [4, 7]) (by kernel_rfl) (by simp) (ord_cons ?_ (ord_cons ?_ ord_nil))
          rotate_left 2
          refine wpAny_all (rs := [2]) (by kernel_rfl) (by simp) (ord_cons ?_ ord_nil)
          rotate_left 1
          all_goals
            refine wpOp_of_listL rfl ?_
            (first | ((with_reducible refine is_load ?_); (refine own_ldV (hl := ld_one one_rgsS (hO.roCellG (j := 0) List.mem_cons_self rfl)) (h := ?_))) | ((refine wpList_step (fun K hK => ?_)); go_simp; ((go_at_call 27; (with_reducible refine (ha1 _ (hO.isC f1 z1 (by intro q hq; repeat (first | exact List.mem_append_left _ hq | apply List.mem_append_right | apply List.mem_cons_of_mem)))).mono ?_); rintro e wv ⟨rfl, hb⟩; replace hO := hO.call hb; clear hb); (try simp only []); (refine hK _ _ ?_); clear hK K))); (try simp only [Act.put]); (try simp only [List.setIfInBounds_toArray, List.set_cons_zero, List.set_cons_succ])
            refine wpList_done (qk_intro ?_)
          refine wpAny_all (rs := [7]) (by kernel_rfl) (by simp) (ord_cons ?_ ord_nil)
          rotate_left 1
          refine wpAny_all (rs := [4]) (by kernel_rfl) (by simp) (ord_cons ?_ ord_nil)
          rotate_left 1
          refine wpAny_all (rs := [4]) (by kernel_rfl) (by simp) (ord_cons ?_ ord_nil)
          rotate_left 1
          all_goals
            refine wpOp_of_listL rfl ?_
            (first | ((with_reducible refine is_load ?_); (refine own_ldV (hl := ld_one one_rgsS (hO.roCellG (j := 0) List.mem_cons_self rfl)) (h := ?_))) | ((refine wpList_step (fun K hK => ?_)); go_simp; ((go_at_call 27; (with_reducible refine (ha1 _ (hO.isC f1 z1 (by intro q hq; repeat (first | exact List.mem_append_left _ hq | apply List.mem_append_right | apply List.mem_cons_of_mem)))).mono ?_); rintro e wv ⟨rfl, hb⟩; replace hO := hO.call hb; clear hb); (try simp only []); (refine hK _ _ ?_); clear hK K))); (try simp only [Act.put]); (try simp only [List.setIfInBounds_toArray, List.set_cons_zero, List.set_cons_succ])
            refine wpList_done (qk_intro ?_)
          refine wpAny_all (rs := [10]) (by kernel_rfl) (by simp) (ord_cons ?_ ord_nil)
          rotate_left 1
          refine wpAny_all (rs := [10]) (by kernel_rfl) (by simp) (ord_cons ?_ ord_nil)
          rotate_left 1
          refine wpAny_all (rs := [10]) (by kernel_rfl) (by simp) (ord_cons ?_ ord_nil)
          rotate_left 1
          all_goals
            refine wpOp_of_listL rfl ?_
            ((refine wpList_step (fun K hK => ?_)); go_simp; ((go_at_call 27; (with_reducible refine (ha2 _ (hO.isC f1 z1 (by intro q hq; repeat (first | exact List.mem_append_left _ hq | apply List.mem_append_right | apply List.mem_cons_of_mem)))).mono ?_); rintro e wv ⟨rfl, hb⟩; replace hO := hO.call hb; clear hb); (try simp only []); (refine hK _ _ ?_); clear hK K))
            refine wpList_done (qk_intro ?_)
          have ix9 := Ix.mk [11, 12, 13, 14, 16, 18, 19, 21, 22]
          iterate 9 (refine wpAny_tk ix9 ?_; replace ix9 := ix9.tail; (first | go_big_quiet_skip | (go_big_quiet_want; (go_big_quiet_op; (first | go_big_quiet_on | ((refine ⟨_, fun _ _ => rfl, ?_⟩); go_big_quiet_on))))); (refine wpQuiet_nil ?_); (try simp only [Act.put]); (try simp only [List.setIfInBounds_toArray, List.set_cons_zero, List.set_cons_succ]))
          clear ix9
          refine wpAny_all (rs := [15, 20]) (by kernel_rfl) (by simp) (ord_cons ?_ (ord_cons ?_ ord_nil))
          rotate_left 2
          have ix9 := Ix.mk [11, 12, 13, 14, 16, 18, 19, 21, 22]
          iterate 9 (refine wpAny_tk ix9 ?_; replace ix9 := ix9.tail; (first | go_big_quiet_skip | (go_big_quiet_want; (go_big_quiet_op; (first | go_big_quiet_on | ((refine ⟨_, fun _ _ => rfl, ?_⟩); go_big_quiet_on))))); (refine wpQuiet_nil ?_); (try simp only [Act.put]); (try simp only [List.setIfInBounds_toArray, List.set_cons_zero, List.set_cons_succ]))
          clear ix9
          refine wpAny_all (rs := [15, 20]) (by kernel_rfl) (by simp) (ord_cons ?_ (ord_cons ?_ ord_nil))
          rotate_left 2
          have ix9 := Ix.mk [11, 12, 13, 14, 16, 18, 19, 21, 22]
          iterate 9 (refine wpAny_tk ix9 ?_; replace ix9 := ix9.tail; (first | go_big_quiet_skip | (go_big_quiet_want; (go_big_quiet_op; (first | go_big_quiet_on | ((refine ⟨_, fun _ _ => rfl, ?_⟩); go_big_quiet_on))))); (refine wpQuiet_nil ?_); (try simp only [Act.put]); (try simp only [List.setIfInBounds_toArray, List.set_cons_zero, List.set_cons_succ]))
          clear ix9
          refine wpAny_all (rs := [15, 20]) (by kernel_rfl) (by simp) (ord_cons ?_ (ord_cons ?_ ord_nil))
          rotate_left 2
          all_goals
            refine wpOp_of_listL rfl ?_
            (first | ((with_reducible refine is_load ?_); (refine own_ldV (hl := ld_one one_rgsS (hO.roCellG (j := 1) List.mem_cons_self rfl)) (h := ?_))) | ((refine wpList_step (fun K hK => ?_)); go_simp; ((refine hK _ _ ?_); clear hK K))); (try simp only [Act.put]); (try simp only [List.setIfInBounds_toArray, List.set_cons_zero, List.set_cons_succ])
            refine wpList_done (qk_intro ?_)
          refine wpAny_all (rs := [17, 20]) (by kernel_rfl) (by simp) (ord_cons ?_ (ord_cons ?_ ord_nil))
          rotate_left 2
          refine wpAny_all (rs := [15]) (by kernel_rfl) (by simp) (ord_cons ?_ ord_nil)
          rotate_left 1
          refine wpAny_all (rs := [17, 20]) (by kernel_rfl) (by simp) (ord_cons ?_ (ord_cons ?_ ord_nil))
          rotate_left 2
          refine wpAny_all (rs := [15]) (by kernel_rfl) (by simp) (ord_cons ?_ ord_nil)
          rotate_left 1
          refine wpAny_all (rs := [17, 20]) (by kernel_rfl) (by simp) (ord_cons ?_ (ord_cons ?_ ord_nil))
          rotate_left 2
          refine wpAny_all (rs := [15]) (by kernel_rfl) (by simp) (ord_cons ?_ ord_nil)
          rotate_left 1
          all_goals
            refine wpOp_of_listL rfl ?_
            (first | ((with_reducible refine is_load ?_); (refine own_ldV (hl := ld_one one_rgsS (hO.roCellG (j := 1) List.mem_cons_self rfl)) (h := ?_))) | ((refine wpList_step (fun K hK => ?_)); go_simp; (first | ((refine hK _ _ ?_); clear hK K) | ((go_at_call 27; (with_reducible refine (ha3 _ (hO.isC f2 z2 (by intro q hq; repeat (first | exact List.mem_append_left _ hq | apply List.mem_cons_of_mem)))).mono ?_); rintro e wv ⟨rfl, hb⟩; replace hO := hO.call hb; clear hb); (try simp only []); (refine hK _ _ ?_); clear hK K)))); (try simp only [Act.put]); (try simp only [List.setIfInBounds_toArray, List.set_cons_zero, List.set_cons_succ])
            refine wpList_done (qk_intro ?_)
          refine wpAny_all (rs := [20]) (by kernel_rfl) (by simp) (ord_cons ?_ ord_nil)
          rotate_left 1
          refine wpAny_all (rs := [17]) (by kernel_rfl) (by simp) (ord_cons ?_ ord_nil)
          rotate_left 1
          refine wpAny_all (rs := [17]) (by kernel_rfl) (by simp) (ord_cons ?_ ord_nil)
          rotate_left 1
          refine wpAny_all (rs := [20]) (by kernel_rfl) (by simp) (ord_cons ?_ ord_nil)
          rotate_left 1
          refine wpAny_all (rs := [17]) (by kernel_rfl) (by simp) (ord_cons ?_ ord_nil)
          rotate_left 1
          refine wpAny_all (rs := [17]) (by kernel_rfl) (by simp) (ord_cons ?_ ord_nil)
          rotate_left 1
          refine wpAny_all (rs := [20]) (by kernel_rfl) (by simp) (ord_cons ?_ ord_nil)
          rotate_left 1
          refine wpAny_all (rs := [17]) (by kernel_rfl) (by simp) (ord_cons ?_ ord_nil)
          rotate_left 1
          refine wpAny_all (rs := [17]) (by kernel_rfl) (by simp) (ord_cons ?_ ord_nil)
          rotate_left 1
          all_goals
            refine wpOp_of_listL rfl ?_
            (first | ((with_reducible refine is_load ?_); (refine own_ldV (hl := ld_one one_rgsS (hO.roCellG (j := 1) List.mem_cons_self rfl)) (h := ?_))) | ((refine wpList_step (fun K hK => ?_)); go_simp; (first | ((refine hK _ _ ?_); clear hK K) | ((go_at_call 27; (with_reducible refine (ha3 _ (hO.isC f2 z2 (by intro q hq; repeat (first | exact List.mem_append_left _ hq | apply List.mem_cons_of_mem)))).mono ?_); rintro e wv ⟨rfl, hb⟩; replace hO := hO.call hb; clear hb); (try simp only []); (refine hK _ _ ?_); clear hK K)))); (try simp only [Act.put]); (try simp only [List.setIfInBounds_toArray, List.set_cons_zero, List.set_cons_succ])
            refine wpList_done (qk_intro ?_)
          refine wpAny_all (rs := [23]) (by kernel_rfl) (by simp) (ord_cons ?_ ord_nil)
          rotate_left 1
          refine wpAny_all (rs := [23]) (by kernel_rfl) (by simp) (ord_cons ?_ ord_nil)
          rotate_left 1
          refine wpAny_all (rs := [23]) (by kernel_rfl) (by simp) (ord_cons ?_ ord_nil)
          rotate_left 1
          refine wpAny_all (rs := [23]) (by kernel_rfl) (by simp) (ord_cons ?_ ord_nil)
          rotate_left 1
          refine wpAny_all (rs := [23]) (by kernel_rfl) (by simp) (ord_cons ?_ ord_nil)
          rotate_left 1
          refine wpAny_all (rs := [23]) (by kernel_rfl) (by simp) (ord_cons ?_ ord_nil)
          rotate_left 1
          refine wpAny_all (rs := [23]) (by kernel_rfl) (by simp) (ord_cons ?_ ord_nil)
          rotate_left 1
          refine wpAny_all (rs := [23]) (by kernel_rfl) (by simp) (ord_cons ?_ ord_nil)
          rotate_left 1
          refine wpAny_all (rs := [23]) (by kernel_rfl) (by simp) (ord_cons ?_ ord_nil)
          rotate_left 1
          all_goals
            refine wpOp_of_listL rfl ?_
            ((refine wpList_step (fun K hK => ?_)); go_simp; (first | ((refine hK _ _ ?_); clear hK K) | ((go_at_call 27; (with_reducible refine (ha4 _ (hO.isC f2 z2 (by intro q hq; repeat (first | exact List.mem_append_left _ hq | apply List.mem_cons_of_mem)))).mono ?_); rintro e wv ⟨rfl, hb⟩; replace hO := hO.call hb; clear hb); (try simp only []); (refine hK _ _ ?_); clear hK K)))
            refine wpList_done (qk_intro ?_)
          have ix9 := Ix.mk [24, 25]
          iterate 2 (refine wpAny_tk ix9 ?_; replace ix9 := ix9.tail; (first | go_big_quiet_skip | (go_big_quiet_want; (go_big_quiet_op; (first | go_big_quiet_on | ((refine ⟨_, fun _ _ => rfl, ?_⟩); go_big_quiet_on))))); (refine wpQuiet_nil ?_); (try simp only [Act.put]); (try simp only [List.setIfInBounds_toArray, List.set_cons_zero, List.set_cons_succ]))
          clear ix9
          refine wpAny_all (rs := [26]) (by kernel_rfl) (by simp) (ord_cons ?_ ord_nil)
          rotate_left 1
          have ix9 := Ix.mk [24, 25]
          iterate 2 (refine wpAny_tk ix9 ?_; replace ix9 := ix9.tail; (first | go_big_quiet_skip | (go_big_quiet_want; (go_big_quiet_op; (first | go_big_quiet_on | ((refine ⟨_, fun _ _ => rfl, ?_⟩); go_big_quiet_on))))); (refine wpQuiet_nil ?_); (try simp only [Act.put]); (try simp only [List.setIfInBounds_toArray, List.set_cons_zero, List.set_cons_succ]))
          clear ix9
          refine wpAny_all (rs := [26]) (by kernel_rfl) (by simp) (ord_cons ?_ ord_nil)
          rotate_left 1
          have ix9 := Ix.mk [24, 25]
          iterate 2 (refine wpAny_tk ix9 ?_; replace ix9 := ix9.tail; (first | go_big_quiet_skip | (go_big_quiet_want; (go_big_quiet_op; (first | go_big_quiet_on | ((refine ⟨_, fun _ _ => rfl, ?_⟩); go_big_quiet_on))))); (refine wpQuiet_nil ?_); (try simp only [Act.put]); (try simp only [List.setIfInBounds_toArray, List.set_cons_zero, List.set_cons_succ]))
          clear ix9
          refine wpAny_all (rs := [26]) (by kernel_rfl) (by simp) (ord_cons ?_ ord_nil)
          rotate_left 1
          have ix9 := Ix.mk [24, 25]
          iterate 2 (refine wpAny_tk ix9 ?_; replace ix9 := ix9.tail; (first | go_big_quiet_skip | (go_big_quiet_want; (go_big_quiet_op; (first | go_big_quiet_on | ((refine ⟨_, fun _ _ => rfl, ?_⟩); go_big_quiet_on))))); (refine wpQuiet_nil ?_); (try simp only [Act.put]); (try simp only [List.setIfInBounds_toArray, List.set_cons_zero, List.set_cons_succ]))
          clear ix9
          refine wpAny_all (rs := [26]) (by kernel_rfl) (by simp) (ord_cons ?_ ord_nil)
          rotate_left 1
          have ix9 := Ix.mk [24, 25]
          iterate 2 (refine wpAny_tk ix9 ?_; replace ix9 := ix9.tail; (first | go_big_quiet_skip | (go_big_quiet_want; (go_big_quiet_op; (first | go_big_quiet_on | ((refine ⟨_, fun _ _ => rfl, ?_⟩); go_big_quiet_on))))); (refine wpQuiet_nil ?_); (try simp only [Act.put]); (try simp only [List.setIfInBounds_toArray, List.set_cons_zero, List.set_cons_succ]))
          clear ix9
          refine wpAny_all (rs := [26]) (by kernel_rfl) (by simp) (ord_cons ?_ ord_nil)
          rotate_left 1
          have ix9 := Ix.mk [24, 25]
          iterate 2 (refine wpAny_tk ix9 ?_; replace ix9 := ix9.tail; (first | go_big_quiet_skip | (go_big_quiet_want; (go_big_quiet_op; (first | go_big_quiet_on | ((refine ⟨_, fun _ _ => rfl, ?_⟩); go_big_quiet_on))))); (refine wpQuiet_nil ?_); (try simp only [Act.put]); (try simp only [List.setIfInBounds_toArray, List.set_cons_zero, List.set_cons_succ]))
          clear ix9
          refine wpAny_all (rs := [26]) (by kernel_rfl) (by simp) (ord_cons ?_ ord_nil)
          rotate_left 1
          have ix9 := Ix.mk [24, 25]
          iterate 2 (refine wpAny_tk ix9 ?_; replace ix9 := ix9.tail; (first | go_big_quiet_skip | (go_big_quiet_want; (go_big_quiet_op; (first | go_big_quiet_on | ((refine ⟨_, fun _ _ => rfl, ?_⟩); go_big_quiet_on))))); (refine wpQuiet_nil ?_); (try simp only [Act.put]); (try simp only [List.setIfInBounds_toArray, List.set_cons_zero, List.set_cons_succ]))
          clear ix9
          refine wpAny_all (rs := [26]) (by kernel_rfl) (by simp) (ord_cons ?_ ord_nil)
          rotate_left 1
          have ix9 := Ix.mk [24, 25]
          iterate 2 (refine wpAny_tk ix9 ?_; replace ix9 := ix9.tail; (first | go_big_quiet_skip | (go_big_quiet_want; (go_big_quiet_op; (first | go_big_quiet_on | ((refine ⟨_, fun _ _ => rfl, ?_⟩); go_big_quiet_on))))); (refine wpQuiet_nil ?_); (try simp only [Act.put]); (try simp only [List.setIfInBounds_toArray, List.set_cons_zero, List.set_cons_succ]))
          clear ix9
          refine wpAny_all (rs := [26]) (by kernel_rfl) (by simp) (ord_cons ?_ ord_nil)
          rotate_left 1
          have ix9 := Ix.mk [24, 25]
          iterate 2 (refine wpAny_tk ix9 ?_; replace ix9 := ix9.tail; (first | go_big_quiet_skip | (go_big_quiet_want; (go_big_quiet_op; (first | go_big_quiet_on | ((refine ⟨_, fun _ _ => rfl, ?_⟩); go_big_quiet_on))))); (refine wpQuiet_nil ?_); (try simp only [Act.put]); (try simp only [List.setIfInBounds_toArray, List.set_cons_zero, List.set_cons_succ]))
          clear ix9
          refine wpAny_all (rs := [26]) (by kernel_rfl) (by simp) (ord_cons ?_ ord_nil)
          rotate_left 1
          all_goals
            refine wpOp_of_listL rfl ?_
            ((refine wpList_step (fun K hK => ?_)); go_simp; ((refine hK _ _ ?_); clear hK K))
            refine wpList_done (qk_intro ?_)
          refine wpAny_done (by kernel_rfl) ?_ _
          rotate_left
          refine wpAny_done (by kernel_rfl) ?_ _
          rotate_left
          refine wpAny_done (by kernel_rfl) ?_ _
          rotate_left
          refine wpAny_done (by kernel_rfl) ?_ _
          rotate_left
          refine wpAny_done (by kernel_rfl) ?_ _
          rotate_left
          refine wpAny_done (by kernel_rfl) ?_ _
          rotate_left
          refine wpAny_done (by kernel_rfl) ?_ _
          rotate_left
          refine wpAny_done (by kernel_rfl) ?_ _
          rotate_left
          refine wpAny_done (by kernel_rfl) ?_ _
          rotate_left
          all_goals
            go_wp2_with (first | ((with_reducible refine is_load ?_); (refine own_ldV (h := ?_))) | (go_at_call 16; (with_reducible refine (hsn _ (hO.nms hN (by simp))).mono ?_); rintro e wv ⟨rfl, hb⟩; replace hO := hO.call hb; clear hb))
            go_ret
            exact ⟨rfl, hO.keep.below⟩
end Go.Proofs.YtfhkmkbfgmbbaaaDoor
