/- The reference of packet sets: rests is the canonical form of an operation. -/
import Derived.Test.YtbdfblgdmappeaaGreatDoorNA
import Derived.Test.YtbdfblgdmappeaaGreatDoorMO
import Derived.Test.YtbdfblgdmappeaaGreatDoorMV
namespace Go.Proofs.YtbdfblgdmappeaaGreatDoor
open Go.RowKit
set_option maxRecDepth 100000
theorem set_front5 {b : Bx} {j : Nat} (h : j < 5) (hi : Int) (ys : List Value) : (bcs b ++ ys).set (j * 2 + 1) (.int .u32 hi) = bcs (b.set j ⟨(b.at j).lo, hi⟩) ++ ys := by
 rcases five h with rfl | rfl | rfl | rfl | rfl <;> rfl
theorem cellsB_setHi {l : List Bx} {k j : Nat} (h : k < l.length) (hj : j < 5) (hi : Int) : (cellsB l).set (k * 10 + j * 2 + 1) (.int .u32 hi) = cellsB (l.set k (l[k].set j ⟨(l[k].at j).lo, hi⟩)) := by
 induction l generalizing k with
 | nil => simp at h
 | cons c l ih =>
  cases k with
  | zero =>
   simp only [cellsB, List.set_cons_zero, List.getElem_cons_zero, Nat.zero_mul, Nat.zero_add]
   exact set_front5 hj hi _
  | succ k =>
   simp only [cellsB, List.set_cons_succ, List.getElem_cons_succ]
   rw [← ih (by simpa using h), show (k + 1) * 10 + j * 2 + 1 = (bcs c).length + (k * 10 + j * 2 + 1) by rw [bcs_length]; omega, List.set_append_right _ _ (by omega), Nat.add_sub_cancel_left]
theorem Own.bring {M : List Nat} {w0 w : World} {X : List Chunk} {R : List Row} {A S : List Ro} {b : Ro} (hO : Own M w0 X R (A ++ b :: S) w) : Own M w0 X R (b :: (A ++ S)) w :=
 hO.sub (.refl _) (.refl _) fun q hq => by
  simp only [List.mem_cons, List.mem_append] at hq ⊢
  rcases hq with h | h | h <;> simp [h]
theorem rrests_base {o : Int} {op : Bool → Bool → Bool} (hop : OpR o op) {va vb : Value} {la lb : List Bx} (w : World) (hva : IsBoxes w va la) (hvb : IsBoxes w vb lb) :
  Calls Tryz.prog 135 #[va, vb, .int .i64 o, .int .i64 5] w (RetBoxes w (canonF op 5 0 la lb)) := by
 have hO := own_start [] w
 obtain ⟨a, c, rfl, ha⟩ := hva.view
 obtain ⟨b, d, rfl, hb⟩ := hvb.view
 have g1 := pos_len la
 have g2 := pos_len lb
 clear hva hvb
 rw [canonF]
 generalize (!la.isEmpty) = x at *
 generalize (!lb.isEmpty) = y at *
 have hh := hop.holds x y
 cases hxy : op x y
 ·rw [hxy] at hh
  go_enter Tryz.func135, Tryz.ntmps135
  go_wp2_with (go_at_call 181; refine (hh _).mono ?_; rintro e _ ⟨rfl, rfl⟩)
  go_ret
  exact ⟨_, rfl, ⟨.inl ⟨rfl, by simp⟩, fun g hg => by cases hg⟩, hO.keep.below⟩
 ·rw [hxy] at hh
  go_enter Tryz.func135, Tryz.ntmps135
  go_wp2_with (first | (refine bl9 29 hO ?_; clear hO; intro n29 wv hO) | (go_at_call 181; refine (hh _).mono ?_; rintro e _ ⟨rfl, rfl⟩))
  go_ret
  exact ⟨_, rfl, ⟨own_boxesC hO (l := [zbx]) List.mem_cons_self (by rw [cellsB_one]; rfl) (by simp), own_newC hO List.mem_cons_self⟩, hO.keep.below⟩
theorem rrests_none {o : Int} {op : Bool → Bool → Bool} (hop : OpR o op) {va vb : Value} {la lb : List Bx} {f n : Nat} (w : World) (hf : f < 5) (hva : IsBoxes w va la) (hvb : IsBoxes w vb lb) (hno : noB o (!la.isEmpty) (!lb.isEmpty) = true) :
  Calls Tryz.prog 135 #[va, vb, .int .i64 o, .int .i64 f] w (RetBoxes w (canonF op f n la lb)) := by
 have hO := own_start [] w
 obtain ⟨a, c, rfl, ha⟩ := hva.view
 obtain ⟨b, d, rfl, hb⟩ := hvb.view
 have g1 := pos_len la
 have g2 := pos_len lb
 have g0 : ((f : Int) == 5) = false := by simp; omega
 rw [hop.nil f n la lb hno]
 have hn := hop.none (!la.isEmpty) (!lb.isEmpty)
 rw [hno] at hn
 clear hva hvb hno
 generalize (!la.isEmpty) = x at *
 generalize (!lb.isEmpty) = y at *
 go_enter Tryz.func135, Tryz.ntmps135
 go_wp2_with (go_at_call 182; refine (hn _).mono ?_; rintro e _ ⟨rfl, rfl⟩)
 go_ret
 exact ⟨_, rfl, ⟨.inl ⟨rfl, rfl⟩, fun g hg => by cases hg⟩, hO.keep.below⟩
theorem starts_seg {f : Nat} (hf : f < 5) {a b : List Bx} (ha : vL a) (hb : vL b) {i : Nat} (h : i < (pts f a b).length) :
  ∃ s : Rg, (segs (topOf f) (pts f a b))[i]? = some s ∧ (pts f a b)[i]? = some s.lo ∧ (i + 1 < (pts f a b).length → (pts f a b)[i + 1]? = some (s.hi + 1)) ∧ (¬ i + 1 < (pts f a b).length → s.hi = topOf f) ∧ 0 ≤ s.lo ∧ s.lo ≤ s.hi ∧ s.hi ≤ topOf f := by
 obtain ⟨s, h1, h2, h3, h4⟩ := pts_seg hf ha hb h
 rw [List.getElem?_append_left h] at h2
 refine ⟨s, h1, h2, fun h' => ?_, fun h' => ?_, h4⟩
 ·rwa [List.getElem?_append_left h'] at h3
 ·have e : i + 1 = (pts f a b).length := by omega
  rw [e, List.getElem?_append_right (Nat.le_refl _), Nat.sub_self] at h3
  have := Option.some.inj h3
  omega
theorem starts_next {f : Nat} (hf : f < 5) {a b : List Bx} (ha : vL a) (hb : vL b) {i : Nat} {s t : Rg} (hs : (segs (topOf f) (pts f a b))[i]? = some s) (ht : (segs (topOf f) (pts f a b))[i + 1]? = some t) : t.lo = s.hi + 1 := by
 have hl := (List.getElem?_eq_some_iff.1 ht).1
 rw [segs_length] at hl
 obtain ⟨s', h1, h2, h3, _⟩ := starts_seg hf ha hb (i := i) (by omega)
 obtain ⟨t', k1, k2, _⟩ := starts_seg hf ha hb (i := i + 1) hl
 rw [hs] at h1
 rw [ht] at k1
 cases h1
 cases k1
 have := h3 hl
 rw [k2] at this
 exact Option.some.inj this
set_option maxHeartbeats 32000000 in
theorem rrests_any {o : Int} {op : Bool → Bool → Bool} (hop : OpR o op) : ∀ (n f : Nat), f + n = 5 → ∀ (va vb : Value) (la lb : List Bx) (w : World), IsBoxes w va la → IsBoxes w vb lb → vL la → vL lb → la.length ≤ 10000000000 → lb.length ≤ 10000000000 → (canonF op f n la lb).length ≤ 100000000000 →
  Calls Tryz.prog 135 #[va, vb, .int .i64 o, .int .i64 f] w (RetBoxes w (canonF op f n la lb)) := by
 intro n
 induction n with
 | zero =>
  intro f hf va vb la lb w hva hvb _ _ _ _ _
  obtain rfl : f = 5 := by omega
  exact rrests_base hop w hva hvb
 | succ n ih =>
  intro f hfn va vb la lb w hva hvb ka kb na nb hD
  have hf : f < 5 := by omega
  by_cases hno : noB o (!la.isEmpty) (!lb.isEmpty) = true
  ·exact rrests_none hop w hf hva hvb hno
  have hn9 := hop.none (!la.isEmpty) (!lb.isEmpty)
  rw [Bool.eq_false_iff.2 hno] at hn9
  clear hno
  have hO := own_start [] w
  obtain ⟨a, c, rfl, ha⟩ := hva.view
  obtain ⟨b, d, rfl, hb⟩ := hvb.view
  have hrg := fun w hva hvb => ranges_any (va := .slice a la.length c) (vb := .slice b lb.length d) (la := la) (lb := lb) (f := f) w hva hvb hf (by omega) (by omega)
  have tl := topOf_le f
  have tp := topPos f
  have hvR : ∀ r ∈ rgs f la ++ rgs f lb, 0 ≤ r.lo ∧ r.lo ≤ 4294967295 ∧ 0 ≤ r.hi ∧ r.hi ≤ 4294967295 := fun r hr => by
   rcases List.mem_append.1 hr with hr | hr
   ·obtain ⟨x, hx, rfl⟩ := List.mem_map.1 hr
    have := ka x hx f hf
    omega
   ·obtain ⟨x, hx, rfl⟩ := List.mem_map.1 hr
    have := kb x hx f hf
    omega
  have hst : ∀ v w, IsCells w v (rgs f la ++ rgs f lb).length (rcs (rgs f la ++ rgs f lb)) → Calls Tryz.prog 183 #[v, .int .u32 (topOf f)] w (NewU4 w (pts f la lb)) := fun v w hv => starts_any (l := rgs f la ++ rgs f lb) w hv (by rw [List.length_append, rgs_length, rgs_length]; omega) (by omega) tl hvR
  have htp := fun w => rtop_any f w hf
  have g1 := pos_len la
  have g2 := pos_len lb
  have g0 : ((f : Int) == 5) = false := by simp; omega
  have hN1 : (pts f la lb).length ≤ 40000000001 := by
   have h := ptsR_len (topOf f) (rgs f la ++ rgs f lb) _ (Nat.le_refl _)
   rw [List.take_length, List.length_append, rgs_length, rgs_length] at h
   have e : pts f la lb = ptsR (topOf f) (rgs f la ++ rgs f lb) := rfl
   rw [e]; omega
  obtain ⟨F, hF⟩ : ∃ F : Int → List Bx, F = fun v => canonF op (f + 1) n (covB la f v) (covB lb f v) := ⟨_, rfl⟩
  have HS := Lib.hid (fun (i : Nat) (h : i < (pts f la lb).length) => starts_seg hf ka kb h)
  have HN := Lib.hid (fun (i : Nat) (s t : Rg) hs ht => starts_next hf ka kb (i := i) (s := s) (t := t) hs ht)
  have hSl : (segs (topOf f) (pts f la lb)).length = (pts f la lb).length := segs_length _ _
  have HR := Lib.hid (fun (v : Int) (h0 : 0 ≤ v) (h2 : v ≤ topOf f) => show (F v).length ≤ 100000000000 from Nat.le_trans (by rw [hF]; exact rest_le op hf n ka kb h0 h2) hD)
  have HT := Lib.hid (fun (i : Nat) => show (boxesG f (gpre F (segs (topOf f) (pts f la lb)) i)).length ≤ 100000000000 from Nat.le_trans (by
   rw [boxesG_length, canonF_succ, flatG_rev_length, hF]; exact total_pre i) hD)
  have HA := Lib.hid (fun (i : Nat) (h : i = (segs (topOf f) (pts f la lb)).length) => show canonF op f (n + 1) la lb = boxesG f (gpre F (segs (topOf f) (pts f la lb)) i) by
   rw [canonF_succ, hF, gpre_all h]; rfl)
  have HF := Lib.hid hF
  clear hF hD hvR
  rw [hSl] at HA
  generalize canonF op f (n + 1) la lb = D at *
  generalize segs (topOf f) (pts f la lb) = SS at *
  generalize pts f la lb = PN at *
  generalize topOf f = top at *
  have HI := Lib.hid ih
  clear ih hSl
  have HVa := Lib.hid hva
  have HVb := Lib.hid hvb
  clear hva hvb
  generalize (!la.isEmpty) = x at *
  generalize (!lb.isEmpty) = y at *
  have w0 : IntKind.u64.wrap top = top := by rw [IntKind.wrap_u64]; omega
  go_enter Tryz.func135, Tryz.ntmps135
  go_wp2_with (first | (go_at_call 182; refine (hn9 _).mono ?_; rintro e _ ⟨rfl, rfl⟩) | (go_at_call 159; (with_reducible refine (hrg _ (HVa.out.keep0 hO) (HVb.out.keep0 hO)).mono ?_); rintro e wv ⟨v, rfl, ⟨hv9, hn8⟩, hb9⟩; replace hO := hO.call hb9; clear hb9 hn8) | (go_at_call 98; refine (htp _).mono ?_; rintro e _ ⟨rfl, rfl⟩) | (go_at_call 183; (with_reducible refine (hst _ _ hv9).mono ?_); rintro e wv ⟨gp, cp, rfl, hcp, hrp, hnp, hb9⟩; replace hO := hO.gainU hb9 hrp hnp; clear hb9 hrp hnp hv9))
  replace hO := hO.nilRow 98 10
  go_loopw [9, 10, 12] (fun vo vl qi wr => ∃ (i : Nat) (L : List Bx), i ≤ PN.length ∧ qi = .int .i64 i ∧ FormB vl L ∧ L.length ≤ 100000000000 ∧ (i = 0 → L = []) ∧ Hid (∀ s, SS[i]? = some s → JoinOk (gpre F SS i) L s.lo) ∧ Own [] w [] [⟨vo, (boxesG f (gpre F SS i)).length, cellsB (boxesG f (gpre F SS i)), 98, 10⟩] (⟨gp, 0, ul PN⟩ :: roS vl (cellsB L)) wr) (fun _ _ qi _ => PN.length - (intOf qi).toNat)
  case atStart => exact ⟨0, [], by omega, rfl, .inl ⟨rfl, rfl⟩, by simp, fun _ => rfl, Lib.hid (fun s _ => by rw [gpre_zero]; exact JoinOk.zero _), by rw [gpre_zero]; exact hO⟩
  case round =>
   clear hO
   obtain ⟨i, L, hi, rfl, hfL, hLl, hL0, HE, hO⟩ := hrel
   have s2 : IntKind.i64.wrap ((i : Int) + 1) = (i : Int) + 1 := IntWalk.i64_in _ (by omega)
   have hvw := row_view (hO.row _ List.mem_cons_self)
   dsimp only at hvw
   obtain ⟨ao, co, rfl, hao⟩ := hvw
   have HfL := Lib.hid hfL
   obtain ⟨aL, cL, rfl, haL⟩ := hfL.view
   have HL0 := Lib.hid hL0
   clear hfL hL0
   by_cases hlt : i < PN.length
   ·obtain ⟨s, hs, hp1, hp2, hp3, b0, b1, b2⟩ := HS.out i hlt
    have c1 : (ul PN)[i]? = some (.int .u64 s.lo) := by simp [ul, hp1]
    have hBl := HT.out i
    have hTD := HR.out s.lo b0 (by omega)
    have HJ := Lib.hid (HE.out s hs)
    have HST := Lib.hid (gpre_succ (F := F) hs)
    generalize gpre F SS i = G at *
    go_upto_if 58 with (go_at_call 98; refine (htp _).mono ?_; rintro e _ ⟨rfl, rfl⟩)
    go_cut [13] (fun q13 wx => q13 = .int .u64 s.hi ∧ Own [] w [] [⟨.slice ao (boxesG f G).length co, (boxesG f G).length, cellsB (boxesG f G), 98, 10⟩] (⟨gp, 0, ul PN⟩ :: roS (.slice aL L.length cL) (cellsB L)) wx)
    case first =>
     by_cases h1 : i + 1 < PN.length
     ·have c2 : (ul PN)[i + 1]? = some (.int .u64 (s.hi + 1)) := by simp [ul, hp2 h1]
      have w2 : IntKind.u64.wrap (s.hi + 1 - 1) = s.hi := by rw [IntKind.wrap_u64]; omega
      have w2' : IntKind.u64.wrap s.hi = s.hi := by rw [IntKind.wrap_u64]; omega
      have s3 : ((i : Int) + 1).toNat = i + 1 := by omega
      have z1 : (0 : Int) ≤ (i : Int) + 1 := by omega
      have z2 : (i : Int) + 1 < (PN.length : Int) := by omega
      have g3' : decide ((i : Int) + 1 < (PN.length : Int)) = true := decide_eq_true z2
      clear hp2 hp3 hp1
      go_wp2_with (refine ldN ?_)
      go_meet
      exact ⟨rfl, hO⟩
     ·have hsh := hp3 h1
      have g3' : decide ((i : Int) + 1 < (PN.length : Int)) = false := decide_eq_false (by omega)
      have HH := Lib.hid hsh
      clear hp2 hp3 hp1 hsh
      go_wp2_with fail
      go_meet
      exact ⟨by rw [HH.out], hO⟩
    case rest =>
     clear hO
     obtain ⟨rfl, hO⟩ := hcut
     clear hp1 hp2 hp3
     have hF1 := congrFun HF.out s.lo
     obtain ⟨T, hT⟩ : ∃ T, F s.lo = T := ⟨_, rfl⟩
     rw [hT] at hF1 hTD
     have HST2 := Lib.hid (show gpre F SS (i + 1) = addG s T G by rw [← hT]; exact HST.out)
     clear HST
     have hatA := fun w hv => rat_any (vl := .slice a la.length c) (l := la) (f := f) (v := s.lo) w hv hf ka (by omega)
     have hatB := fun w hv => rat_any (vl := .slice b lb.length d) (l := lb) (f := f) (v := s.lo) w hv hf kb (by omega)
     have hih := fun v1 v2 w h1 h2 => HI.out (f + 1) (by omega) v1 v2 (covB la f s.lo) (covB lb f s.lo) w h1 h2 (ka.cov f s.lo) (kb.cov f s.lo) (Nat.le_trans (List.length_filter_le _ _) na) (Nat.le_trans (List.length_filter_le _ _) nb) (by rw [← hF1]; exact hTD)
     have e1 : ((f + 1 : Nat) : Int) = (f : Int) + 1 := by omega
     rw [e1] at hih
     rw [← hF1] at hih
     have s4 : IntKind.i64.wrap ((f : Int) + 1) = (f : Int) + 1 := IntWalk.i64_in _ (by omega)
     generalize covB la f s.lo = A at *
     generalize covB lb f s.lo = B at *
     clear hF1 hT
     go_upto_region 15 with (fail)
     go_cut [14] (fun q14 wx => ∃ v, q14 = v ∧ FormB v T ∧ Own [] w [] [⟨.slice ao (boxesG f G).length co, (boxesG f G).length, cellsB (boxesG f G), 98, 10⟩] (⟨gp, 0, ul PN⟩ :: (roS v (cellsB T) ++ roS (.slice aL L.length cL) (cellsB L))) wx)
     case first =>
      refine wp_region_any (by kernel_rfl) ?_
      replace hO := hO.drew
      have ix9 := Ix.mk [0, 1, 2, 3, 4, 7, 8, 9, 10, 11, 14, 15, 16]
      iterate 13 (refine wpAny_tk ix9 ?_; replace ix9 := ix9.tail; (first | go_big_quiet_skip | (go_big_quiet_want; (go_big_quiet_op; (first | go_big_quiet_on | ((refine ⟨_, fun _ _ => rfl, ?_⟩); go_big_quiet_on))))); (refine wpQuiet_nil ?_); (try simp only [Act.put]); (try simp only [sI9, sZ9, sS9]))
      clear ix9
      refine wpAny_all (rs := [5, 12]) (by kernel_rfl) (by simp) (ord_cons ?_ (ord_cons ?_ ord_nil))
      rotate_left 2
      all_goals
       refine wpOp_of_listL rfl ?_
       (refine ldN ?_); (try simp only [Act.put]); (try simp only [sI9, sZ9, sS9])
       refine wpList_done (qk_intro ?_)
      refine wpAny_all (rs := [6, 12]) (by kernel_rfl) (by simp) (ord_cons ?_ (ord_cons ?_ ord_nil))
      rotate_left 2
      refine wpAny_1 5 ?_
      rotate_left 1
      all_goals
       refine wpOp_of_listL rfl ?_
       (first | refine ldN ?_ | ((refine wpList_step (fun K hK => ?_)); go_simp; ((go_at_call 184; (with_reducible refine (hatA _ (HVa.out.keep0 hO)).mono ?_); rintro e wv ⟨v1, rfl, ⟨hv9, hn9⟩, hb9⟩; have hfv1 := hv9.form; replace hO := (hO.gainB hb9 hv9 hn9).bring; clear hb9 hv9 hn9); (try simp only []); (refine hK _ _ ?_); clear hK K))); (try simp only [Act.put]); (try simp only [sI9, sZ9, sS9])
       refine wpList_done (qk_intro ?_)
      refine wpAny_1 12 ?_
      rotate_left 1
      refine wpAny_1 6 ?_
      rotate_left 1
      refine wpAny_1 6 ?_
      rotate_left 1
      all_goals
       refine wpOp_of_listL rfl ?_
       (first | refine ldN ?_ | ((refine wpList_step (fun K hK => ?_)); go_simp; ((go_at_call 184; (with_reducible refine (hatA _ (HVa.out.keep0 hO)).mono ?_); rintro e wv ⟨v1, rfl, ⟨hv9, hn9⟩, hb9⟩; have hfv1 := hv9.form; replace hO := (hO.gainB hb9 hv9 hn9).bring; clear hb9 hv9 hn9); (try simp only []); (refine hK _ _ ?_); clear hK K))); (try simp only [Act.put]); (try simp only [sI9, sZ9, sS9])
       refine wpList_done (qk_intro ?_)
      refine wpAny_1 13 ?_
      rotate_left 1
      refine wpAny_1 13 ?_
      rotate_left 1
      refine wpAny_1 13 ?_
      rotate_left 1
      all_goals
       refine wpOp_of_listL rfl ?_
       ((refine wpList_step (fun K hK => ?_)); go_simp; ((go_at_call 184; (with_reducible refine (hatB _ (HVb.out.keep0 hO)).mono ?_); rintro e wv ⟨v2, rfl, ⟨hv9, hn9⟩, hb9⟩; have hfv2 := hv9.form; replace hO := (hO.gainB hb9 hv9 hn9).bring; clear hb9 hv9 hn9); (try simp only []); (refine hK _ _ ?_); clear hK K))
       refine wpList_done (qk_intro ?_)
      refine wpAny_1 17 ?_
      rotate_left 1
      refine wpAny_1 17 ?_
      rotate_left 1
      refine wpAny_1 17 ?_
      rotate_left 1
      all_goals
       refine wpOp_of_listL rfl ?_
       ((refine wpList_step (fun K hK => ?_)); go_simp; ((go_at_call 135; (with_reducible refine (hih v1 v2 _ (hO.isB hfv1 (fun q hq => List.mem_cons_of_mem _ (List.mem_append_right _ (List.mem_append_left _ hq)))) (hO.isB hfv2 (fun q hq => List.mem_cons_of_mem _ (List.mem_append_left _ hq)))).mono ?_); rintro e wv ⟨v3, rfl, ⟨hv9, hn9⟩, hb9⟩; have hfv3 := hv9.form; replace hO := (hO.gainB hb9 hv9 hn9).bring; clear hb9 hv9 hn9); (try simp only []); (refine hK _ _ ?_); clear hK K))
       refine wpList_done (qk_intro ?_)
      refine wpAny_1 18 ?_
      rotate_left 1
      refine wpAny_1 18 ?_
      rotate_left 1
      refine wpAny_1 18 ?_
      rotate_left 1
      all_goals
       refine wpOp_of_listL rfl ?_
       ((refine wpList_step (fun K hK => ?_)); go_simp; ((refine hK _ _ ?_); clear hK K))
       refine wpList_done (qk_intro ?_)
      refine wpAny_done (by kernel_rfl) ?_ _
      rotate_left
      refine wpAny_done (by kernel_rfl) ?_ _
      rotate_left
      refine wpAny_done (by kernel_rfl) ?_ _
      rotate_left
      all_goals
       go_wp2_with fail
       go_meet
       exact ⟨_, rfl, hfv3, hO.sub (.refl _) (.refl _) (fun q hq => by simp only [List.mem_cons, List.mem_append] at hq ⊢; rcases hq with h | h | h <;> simp [h])⟩
     case rest =>
      clear hO hatA hatB hih
      obtain ⟨vT, rfl, hfT, hO⟩ := hcut
      have HfT := Lib.hid hfT
      obtain ⟨aT, cT, rfl, haT⟩ := hfT.view
      clear hfT
      have hmT : ∀ q ∈ roS (.slice aT T.length cT) (cellsB T), q ∈ (⟨gp, 0, ul PN⟩ : Ro) :: (roS (.slice aT T.length cT) (cellsB T) ++ roS (.slice aL L.length cL) (cellsB L)) := fun q hq => List.mem_cons_of_mem _ (List.mem_append_left _ hq)
      have hmL : ∀ q ∈ roS (.slice aL L.length cL) (cellsB L), q ∈ (⟨gp, 0, ul PN⟩ : Ro) :: (roS (.slice aT T.length cT) (cellsB T) ++ roS (.slice aL L.length cL) (cellsB L)) := fun q hq => List.mem_cons_of_mem _ (List.mem_append_right _ hq)
      have HmT := Lib.hid hmT
      have HmL := Lib.hid hmL
      clear hmT hmL
      obtain ⟨J, hJ⟩ : ∃ J, decide (T ≠ [] ∧ T = L) = J := ⟨_, rfl⟩
      have HJJ := Lib.hid hJ
      clear hJ
      go_upto_region 16 with (fail)
      go_cut [94] (fun q94 wx => q94 = .bool J ∧ Own [] w [] [⟨.slice ao (boxesG f G).length co, (boxesG f G).length, cellsB (boxesG f G), 98, 10⟩] (⟨gp, 0, ul PN⟩ :: (roS (.slice aT T.length cT) (cellsB T) ++ roS (.slice aL L.length cL) (cellsB L))) wx)
      case first =>
       by_cases hi0 : 0 < i
       ·have g3 : decide (0 < i) = true := decide_eq_true hi0
        have g3' : decide ((0 : Int) < (i : Int)) = true := decide_eq_true (by omega)
        by_cases hT0 : 0 < T.length
        ·have g4 : decide (0 < T.length) = true := decide_eq_true hT0
         have HW := Lib.hid (show decide (T = L) = J by rw [← HJJ.out]; have : T ≠ [] := List.length_pos_iff.1 hT0; simp [this])
         go_wp2_with (go_at_call 141; refine (rsame_any _ _ T L _ (hO.isB HfT.out HmT.out) (hO.isB HfL.out HmL.out) (by omega) (by omega)).mono ?_; rintro e wv ⟨rfl, hb⟩; replace hO := hO.call hb; clear hb)
         go_meet
         exact ⟨by rw [HW.out], hO⟩
        ·have g4 : decide (0 < T.length) = false := decide_eq_false hT0
         have HW := Lib.hid (show false = J by rw [← HJJ.out]; have : T = [] := List.length_eq_zero_iff.1 (by omega); simp [this])
         go_wp2_with fail
         go_meet
         exact ⟨by rw [HW.out], hO⟩
       ·have g3 : decide (0 < i) = false := decide_eq_false hi0
        have g3' : decide ((0 : Int) < (i : Int)) = false := decide_eq_false (by omega)
        have HW := Lib.hid (show false = J by rw [← HJJ.out, HL0.out (by omega)]; by_cases h : T = [] <;> simp [h])
        go_wp2_with fail
        go_meet
        exact ⟨by rw [HW.out], hO⟩
      case rest =>
       clear hO
       obtain ⟨rfl, hO⟩ := hcut
       obtain ⟨FS, hFS⟩ : ∃ FS, (⟨gp, 0, ul PN⟩ : Ro) :: (roS (.slice aT T.length cT) (cellsB T) ++ roS (.slice aL L.length cL) (cellsB L)) = FS := ⟨_, rfl⟩
       have HG1 := Lib.hid (show (⟨gp, 0, ul PN⟩ : Ro) ∈ FS by rw [← hFS]; exact List.mem_cons_self)
       rw [hFS] at hO HmT HmL
       clear hFS
       have w1 : IntKind.u32.wrap s.lo = s.lo := by rw [IntKind.wrap_u32]; omega
       have w3 : IntKind.u32.wrap s.hi = s.hi := by rw [IntKind.wrap_u32]; omega
       have y1 : (0 : Int) ≤ (f : Int) := by omega
       have y2 : (f : Int) < 5 := by omega
       cases J
       ·have hn : T = [] ∨ T ≠ L := by
         by_cases h : T = []
         ·exact .inl h
         ·right; intro e; exact absurd ⟨h, e⟩ (of_decide_eq_false HJJ.out)
        have HBN := Lib.hid (boxes_new (f := f) HJ.out b1 hn)
        clear hn
        generalize boxesG f G = Q at *
        go_wp2_with fail
        go_loopw [9, 16] (fun vo qj wr => ∃ j : Nat, j ≤ T.length ∧ qj = .int .i64 j ∧ Own [] w [] [⟨vo, (Q ++ (T.take j).map fun y => y.set f s).length, cellsB (Q ++ (T.take j).map fun y => y.set f s), 98, 10⟩] FS wr) (fun _ qj _ => T.length - (intOf qj).toNat)
        case atStart => exact ⟨0, by omega, rfl, by simp only [List.take_zero, List.map_nil, List.append_nil]; exact hO⟩
        case round =>
         clear hO
         obtain ⟨j, hj, rfl, hO⟩ := hrel
         by_cases hlt3 : j < T.length
         ·obtain ⟨gx, ox, rfl⟩ := haT (by omega)
          have hmx := HmT.out ⟨gx, ox, cellsB T⟩ (by simp [roS])
          have hO2 := hO.sub (S' := ⟨gx, ox, cellsB T⟩ :: ⟨gp, 0, ul PN⟩ :: FS) (.refl _) (.refl _) (fun q hq => (List.mem_cons.1 hq).elim (fun h => h ▸ hmx) (fun h => (List.mem_cons.1 h).elim (fun h => h ▸ HG1.out) id))
          replace hO := hO2
          clear hO2 hmx
          have HU := Lib.hid (show Q ++ (T.take (j + 1)).map (fun y => y.set f s) = (Q ++ (T.take j).map fun y => y.set f s) ++ [T[j].set f s] by
           rw [List.take_succ_eq_append_getElem hlt3, List.map_append, List.append_assoc]; rfl)
          have hVl : (Q ++ (T.take j).map fun y => y.set f s).length + 1 ≤ 1000000000000 := by
           rw [List.length_append, List.length_map, List.length_take]; omega
          generalize (Q ++ (T.take j).map fun y => y.set f s) = V at *
          have t1 := tk_box T hlt3
          go_wp2_with (first | refine ldN ?_ | (refine stN hO ?_; clear hO; intro wv hO) | (refine al9 17 hO ?_; clear hO; intro n17 wv hO) | (refine bl9 137 hO ?_; clear hO; intro n137 wv hO) | (refine ap9 138 hO ?_; clear hO; intro g138 c138 wv hO))
          go_roundw
          case rel =>
           refine ⟨j + 1, by omega, by go_num, ?_⟩
           rw [HU.out, List.length_append, cellsB_append, cellsB_one]
           exact hO.sub (.cons _ (.cons _ (.refl _))) (.refl _) (fun _ h => List.mem_cons_of_mem _ (List.mem_cons_of_mem _ h))
          case measure => simp [intOf]; omega
         ·have hjx : j = T.length := by omega
          subst hjx
          rw [List.take_length] at hO
          go_wp2_with fail
          go_roundw
          case rel =>
           refine ⟨i + 1, T, by omega, by go_num, HfT.out, hTD, fun h => absurd h (by omega), Lib.hid (fun s' hs' => ?_), ?_⟩
           ·rw [HST2.out, HN.out i s s' hs hs']; exact HBN.out.2
           ·rw [HST2.out, HBN.out.1]
            exact hO.sub (.refl _) (.refl _) (fun q hq => (List.mem_cons.1 hq).elim (fun h => h ▸ HG1.out) (HmT.out q))
          case measure => simp [intOf]; omega
       ·have hnT : T ≠ [] ∧ T = L := of_decide_eq_true HJJ.out
        obtain ⟨hT0, hTL⟩ := hnT
        subst hTL
        obtain ⟨A, lo, e0, e1, hj9⟩ := boxes_join (f := f) HJ.out hT0
        have hK : (boxesG f G).length = A.length + T.length := by rw [e0, midJ_length]
        have hTp : 0 < T.length := List.length_pos_iff.2 hT0
        have HX := Lib.hid e0
        have HX1 := Lib.hid e1
        have HX2 := Lib.hid hj9
        clear e0 e1 hj9
        have hms := fun j (h : j < T.length) => midJ_set (f := f) hf (A := A) (lo := lo) (h0 := s.lo - 1) (h1 := s.hi) h
        have HMS := Lib.hid hms
        clear hms
        generalize (boxesG f G).length = K at *
        rw [HX.out] at hO
        clear HX
        obtain ⟨go, rfl⟩ := hao (by omega)
        have s5 : IntKind.i64.wrap ((K : Int) - (T.length : Int)) = (A.length : Int) := by
         rw [show (K : Int) - (T.length : Int) = (A.length : Int) by omega]; exact IntWalk.i64_in _ (by omega)
        have HKK := Lib.hid hK
        clear hK
        go_wp2_with fail
        go_loopw [15] (fun q15 wr => ∃ j : Nat, j ≤ T.length ∧ q15 = .int .i64 ((A.length + j : Nat) : Int) ∧ Own [] w [] [⟨.slice (some ⟨go, 0, none⟩) K co, K, cellsB (midJ f A T lo (s.lo - 1) s.hi j), 98, 10⟩] FS wr) (fun q15 _ => K - (intOf q15).toNat)
        case atStart => exact ⟨0, by omega, rfl, hO⟩
        case round =>
         clear hO
         obtain ⟨j, hj, rfl, hO⟩ := hrel
         have hK2 := HKK.out
         by_cases hlt3 : j < T.length
         ·have hmk : A.length + j < (midJ f A T lo (s.lo - 1) s.hi j).length := by rw [midJ_length]; omega
          have hn9 := cellsB_setHi hmk hf s.hi
          rw [HMS.out j hlt3 hmk] at hn9
          have hsz : (A.length + j) * 10 + f * 2 + 1 < (cellsB (midJ f A T lo (s.lo - 1) s.hi j)).length := by rw [cellsB_length, midJ_length]; omega
          have hkK : A.length + j < K := by omega
          have s6 : IntKind.i64.wrap (((A.length + j : Nat) : Int) + 1) = ((A.length + j : Nat) : Int) + 1 := IntWalk.i64_in _ (by omega)
          have HNX := Lib.hid (show ((A.length + j : Nat) : Int) + 1 = ((A.length + (j + 1) : Nat) : Int) by omega)
          have hkn : K - ((A.length + j) + 1) < K - (A.length + j) := by omega
          clear hmk hK2
          generalize cellsB (midJ f A T lo (s.lo - 1) s.hi j) = C0 at *
          obtain ⟨C1, hC1⟩ : ∃ C1, cellsB (midJ f A T lo (s.lo - 1) s.hi (j + 1)) = C1 := ⟨_, rfl⟩
          rw [hC1] at hn9
          have HC1 := Lib.hid hC1
          clear hC1
          generalize A.length + j = k at *
          go_wp2_with ((with_reducible refine is_store ?_); (refine own_stRo hO (h := ?_); clear hO; intro wv hO))
          go_roundw
          case rel => exact ⟨j + 1, by omega, by rw [← HNX.out], by rw [HC1.out]; exact hO⟩
          case measure => simp [intOf]; omega
         ·have hjx : A.length + j = K := by omega
          have hjT : j = T.length := by omega
          subst hjT
          rw [hjx]
          have HjX := Lib.hid hjx
          clear hjx hK2
          go_wp2_with fail
          go_roundw
          case rel =>
           refine ⟨i + 1, T, by omega, by go_num, HfL.out, hTD, fun h => absurd h (by omega), Lib.hid (fun s' hs' => ?_), ?_⟩
           ·rw [HST2.out, HN.out i s s' hs hs']; exact HX2.out
           ·rw [HST2.out, HX1.out, midJ_length, HjX.out]
            exact hO.sub (.refl _) (.refl _) (fun q hq => (List.mem_cons.1 hq).elim (fun h => h ▸ HG1.out) (HmL.out q))
          case measure => simp [intOf]; omega
   ·obtain rfl : i = PN.length := by omega
    go_wp2_with fail
    go_ret
    exact ⟨_, rfl, ⟨by rw [HA.out _ rfl]; exact own_boxes hO List.mem_cons_self, own_new hO List.mem_cons_self⟩, hO.keep.below⟩
end Go.Proofs.YtbdfblgdmappeaaGreatDoor
