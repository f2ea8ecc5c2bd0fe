/- PacketsetCanonical's plain law: sets with equal members are equal; a list is within another one exactly if nothing remains. No program in sight. -/
import Derived.Deep.CutRange
import Derived.Deep.DeepCutAuto
import Derived.Test.YtdfihajngmgigaaDoorMV
import Derived.Test.YtdfihajngmgigaaDoorMW
import Derived.Test.YtdfihajngmgigaaDoorMS
import Derived.Test.YtdfihajngmgigaaDoorMB
namespace Go.Proofs.YtdfihajngmgigaaDoor
open Go.RowKit
theorem sub_iff {a b : List Bx} (ka : vL a) (kb : vL b) : (canonF exB 0 5 a b).isEmpty = true ↔ ∀ h, okP h → inq a h = true → inq b h = true := by
  have hv := (canonF_cn exB 5 0 rfl ka kb).valid rfl
  constructor
  · intro h0 h hok h1
    have h2 := inq_canon (op := exB) hok ka kb
    rw [List.isEmpty_iff.1 h0, inq_nil, h1] at h2
    cases hb : inq b h
    · rw [hb] at h2; cases h2
    · rfl
  · intro H
    cases hD : canonF exB 0 5 a b with
    | nil => rfl
    | cons x xs =>
      exfalso
      rw [hD] at hv
      have hx := hv x (by simp)
      have hok : okP fun k => (x.at k).lo := fun k hk => by have := hx k hk; dsimp only; omega
      have h2 := inq_canon (op := exB) hok ka kb
      rw [hD, inq_iff.2 (inL_lows hx)] at h2
      cases h1 : inq a fun k => (x.at k).lo
      · rw [h1] at h2; cases h2
      · rw [h1, H _ hok h1] at h2; cases h2
theorem make_set {l x : List Bx} (kl : okL l) (h : makeF l = some x) : IsSet x ∧ ∀ p, okP p → inq x p = inq (valF l) p := by
  obtain ⟨h1, h2, h3⟩ := makeGo_spec (cn_nil 0 5) (by simp) (valF_vL kl) h
  exact ⟨⟨h1.valid rfl, h2, h1⟩, fun p hp => by rw [h3 p hp, inq_nil, Bool.false_or]⟩
theorem IsSet.make {x : List Bx} (h : IsSet x) : makeF x = some x := by
  unfold makeF
  rw [valF_id h.1]
  exact makeGo_canon h.2.2 h.2.1
theorem IsSet.val {x : List Bx} (h : IsSet x) : validF x = true := by
  unfold validF
  rw [valF_id h.1, (dvd_zero h.1).2 h.2.2]
  simp [h.2.1]
theorem same_sub {la lb x y : List Bx} (ka : okL la) (kb : okL lb) (hx : makeF la = some x) (hy : makeF lb = some y) : decide (x = y) = ((canonF exB 0 5 (valF la) (valF lb)).isEmpty && (canonF exB 0 5 (valF lb) (valF la)).isEmpty) := by
  obtain ⟨sx, mx⟩ := make_set ka hx
  obtain ⟨sy, my⟩ := make_set kb hy
  rw [Bool.eq_iff_iff, decide_eq_true_iff, Bool.and_eq_true, sub_iff (valF_vL ka) (valF_vL kb), sub_iff (valF_vL kb) (valF_vL ka)]
  constructor
  · rintro rfl
    exact ⟨fun h hok h1 => by rw [← my h hok, mx h hok]; exact h1, fun h hok h1 => by rw [← mx h hok, my h hok]; exact h1⟩
  · rintro ⟨h1, h2⟩
    refine sx.ext sy fun p hp => ?_
    rw [mx p hp, my p hp, Bool.eq_iff_iff]
    exact ⟨h1 p hp, h2 p hp⟩
end Go.Proofs.YtdfihajngmgigaaDoor

/- PacketsetCanonical: the walk. -/
namespace Go.Proofs.YtdfihajngmgigaaDoor
open Go.RowKit
set_option maxRecDepth 100000
set_option maxHeartbeats 32000000 in
theorem pscanon_law (sl : Value) (zs : List Int) (va vb : Value) (la lb : List Bx) (w : World) (ht : Tops w) (hZ : ZsOk sl zs) (hr : ∀ s ∈ roS sl (ints zs), w.rangeAt s.g s.o s.xs) (hva : IsBoxes w va la) (hvb : IsBoxes w vb lb) (ka : okL la) (kb : okL lb) :
    Calls Tryd.prog 7 #[sl, va, vb] w fun e w' => e = .returned (.bool true) ∧ Below w.heap.size w w' := by
  have hO := ((own_law hr).addBoxes hva).addBoxes hvb
  clear hr
  obtain ⟨sa, sc, rfl, -⟩ := hZ.view
  have hfa := hva.form
  have hfb := hvb.form
  obtain ⟨aa, ca, rfl, -⟩ := hva.view
  obtain ⟨ab, cb, rfl, -⟩ := hvb.view
  clear hva hvb
  have huge_a := fun w hv => huge_any (vl := .slice aa la.length ca) (l := la) w hv
  have huge_b := fun w hv => huge_any (vl := .slice ab lb.length cb) (l := lb) w hv
  have k3 : ecd none = 3 := rfl
  have k0 : ∀ u, ecd (some u) = 0 := fun _ => rfl
  go_enter Tryd.func7, Tryd.ntmps7
  go_upto_region 2 with (first | ((with_reducible refine is_load ?_); refine own_ld (h := ?_)) | ((with_reducible refine is_store ?_); (first | refine own_stR (hO := hO) (h := ?_) | refine own_st1 (hO := hO) (h := ?_)); clear hO; intro wv hO) | (go_at_call 10; (with_reducible refine (new_any _ _ _).mono ?_); rintro e wv ⟨n, rfl, hB, hn, hb⟩; replace hO := hO.gain hb hB hn; have hT := hO.tapeIn List.mem_cons_self (by (intro s hs; repeat (first | exact hs | exact List.mem_append_left _ hs | apply List.mem_append_right | apply List.mem_cons_of_mem))) (Nat.zero_le _); clear hb hB hn))
  go_cut [26] (fun q26 wx => ∃ (c : Bool) (i1 : Nat), q26 = .bool c ∧ (c = false → la.length ≤ 6 ∧ lb.length ≤ 6) ∧ i1 ≤ zs.length ∧ Own [] w [⟨n, tcs (.slice sa zs.length sc) i1, 74⟩] [] (roS (.slice ab lb.length cb) (cellsB lb) ++ (roS (.slice aa la.length ca) (cellsB la) ++ roS (.slice sa zs.length sc) (ints zs))) wx)
  case first =>
    by_cases h1 : 6 < la.length
    · rw [decide_eq_true h1] at huge_a
      clear huge_b
      go_wp2_with (first | ((with_reducible refine is_load ?_); refine own_ld (h := ?_)) | ((with_reducible refine is_store ?_); (first | refine own_stR (hO := hO) (h := ?_) | refine own_st1 (hO := hO) (h := ?_)); clear hO; intro wv hO) | (go_at_call 29; refine (huge_a _ (hO.isB hfa (by intro q hq; repeat (first | exact hq | exact List.mem_append_left _ hq | apply List.mem_append_right | apply List.mem_cons_of_mem)))).mono ?_; rintro e _ ⟨rfl, rfl⟩))
      go_meet
      exact ⟨true, _, rfl, fun h => absurd h (by decide), hT.le, hO⟩
    · rw [decide_eq_false h1] at huge_a
      by_cases h2 : 6 < lb.length
      · rw [decide_eq_true h2] at huge_b
        go_wp2_with (first | ((with_reducible refine is_load ?_); refine own_ld (h := ?_)) | ((with_reducible refine is_store ?_); (first | refine own_stR (hO := hO) (h := ?_) | refine own_st1 (hO := hO) (h := ?_)); clear hO; intro wv hO) | (go_at_call 29; refine (huge_a _ (hO.isB hfa (by intro q hq; repeat (first | exact hq | exact List.mem_append_left _ hq | apply List.mem_append_right | apply List.mem_cons_of_mem)))).mono ?_; rintro e _ ⟨rfl, rfl⟩) | (go_at_call 29; refine (huge_b _ (hO.isB hfb (by intro q hq; repeat (first | exact hq | exact List.mem_append_left _ hq | apply List.mem_append_right | apply List.mem_cons_of_mem)))).mono ?_; rintro e _ ⟨rfl, rfl⟩))
        go_meet
        exact ⟨true, _, rfl, fun h => absurd h (by decide), hT.le, hO⟩
      · rw [decide_eq_false h2] at huge_b
        go_wp2_with (first | ((with_reducible refine is_load ?_); refine own_ld (h := ?_)) | ((with_reducible refine is_store ?_); (first | refine own_stR (hO := hO) (h := ?_) | refine own_st1 (hO := hO) (h := ?_)); clear hO; intro wv hO) | (go_at_call 29; refine (huge_a _ (hO.isB hfa (by intro q hq; repeat (first | exact hq | exact List.mem_append_left _ hq | apply List.mem_append_right | apply List.mem_cons_of_mem)))).mono ?_; rintro e _ ⟨rfl, rfl⟩) | (go_at_call 29; refine (huge_b _ (hO.isB hfb (by intro q hq; repeat (first | exact hq | exact List.mem_append_left _ hq | apply List.mem_append_right | apply List.mem_cons_of_mem)))).mono ?_; rintro e _ ⟨rfl, rfl⟩) | (go_at_call 27; (with_reducible refine (next_pos 4 hZ (hO.tapeIn (by (repeat (first | exact List.mem_cons_self | refine List.mem_cons_of_mem _ ?_))) (by (intro s hs; repeat (first | exact hs | exact List.mem_append_left _ hs | apply List.mem_append_right | apply List.mem_cons_of_mem))) hT.le) (by omega) (by omega)).mono ?_); rintro e wv ⟨v, i1, rfl, ⟨r, rfl, hr0, hr1⟩, hk, hT1⟩; replace hO := hO.after (by (repeat (first | exact Upd.here | apply Upd.there))) hk hT1.blk; replace hT := hT1; clear hT1 hk))
        go_meet
        exact ⟨_, _, rfl, fun _ => ⟨by omega, by omega⟩, hT.le, hO⟩
  case rest =>
    clear hO hT huge_a huge_b
    obtain ⟨c, i1, rfl, hc, hi1, hO⟩ := hcut
    have hT := hO.tapeIn List.mem_cons_self (by intro s hs; repeat (first | exact hs | exact List.mem_append_left _ hs | apply List.mem_append_right | apply List.mem_cons_of_mem)) hi1
    go_upto_if 26 with (first | ((with_reducible refine is_load ?_); refine own_ld (h := ?_)) | ((with_reducible refine is_store ?_); (first | refine own_stR (hO := hO) (h := ?_) | refine own_st1 (hO := hO) (h := ?_)); clear hO; intro wv hO))
    go_cut [1, 2] (fun q1 q2 wx => ∃ (a1 a2 : Option Addr) (c1 c2 : Nat) (l1 l2 : List Bx), q1 = .slice a1 l1.length c1 ∧ q2 = .slice a2 l2.length c2 ∧ okL l1 ∧ okL l2 ∧ l1.length ≤ 6 ∧ l2.length ≤ 6 ∧ FormB (.slice a1 l1.length c1) l1 ∧ FormB (.slice a2 l2.length c2) l2 ∧ Own [] w [] [] (roS (.slice a2 l2.length c2) (cellsB l2) ++ roS (.slice a1 l1.length c1) (cellsB l1)) wx)
    case first =>
      cases c
      · obtain ⟨n1, n2⟩ := hc rfl
        go_wp2_with (first | ((with_reducible refine is_load ?_); refine own_ld (h := ?_)) | ((with_reducible refine is_store ?_); (first | refine own_stR (hO := hO) (h := ?_) | refine own_st1 (hO := hO) (h := ?_)); clear hO; intro wv hO))
        go_meet
        exact ⟨_, _, _, _, la, lb, rfl, rfl, ka, kb, n1, n2, hfa, hfb, hO.sub (List.nil_sublist _) (.refl _) (fun q hq => (List.mem_append.1 hq).elim (fun h => List.mem_append_left _ h) (fun h => List.mem_append_right _ (List.mem_append_left _ h)))⟩
      · clear hc
        go_wp2_with (first | ((with_reducible refine is_load ?_); refine own_ld (h := ?_)) | ((with_reducible refine is_store ?_); (first | refine own_stR (hO := hO) (h := ?_) | refine own_st1 (hO := hO) (h := ?_)); clear hO; intro wv hO) | (go_at_call 20; (fail_if_success (have := kp)); (with_reducible refine (tboxes_any 4 true hZ (hO.tapeIn (by (repeat (first | exact List.mem_cons_self | refine List.mem_cons_of_mem _ ?_))) (by (intro s hs; repeat (first | exact hs | exact List.mem_append_left _ hs | apply List.mem_append_right | apply List.mem_cons_of_mem))) hT.le) (by omega) (by omega)).mono ?_); rintro e wv ⟨vp, i1, rfl, ⟨lp, hv9, hn9, kp, np, -⟩, hk, hT1⟩; have hoff9 := off_of_new hO hn9; replace hO := hO.after (by (repeat (first | exact Upd.here | apply Upd.there))) hk hT1.blk; replace hT := hT1; clear hT1 hk; have hfp := hv9.form; obtain ⟨ap, cp, rfl, -, hO⟩ := own_offS hO ⟨hv9, hoff9⟩; clear hv9 hn9 hoff9) | (go_at_call 20; (with_reducible refine (tboxes_any 4 true hZ (hO.tapeIn (by (repeat (first | exact List.mem_cons_self | refine List.mem_cons_of_mem _ ?_))) (by (intro s hs; repeat (first | exact hs | exact List.mem_append_left _ hs | apply List.mem_append_right | apply List.mem_cons_of_mem))) hT.le) (by omega) (by omega)).mono ?_); rintro e wv ⟨vq, i1, rfl, ⟨lq, hv9, hn9, kq, nq, -⟩, hk, hT1⟩; have hoff9 := off_of_new hO hn9; replace hO := hO.after (by (repeat (first | exact Upd.here | apply Upd.there))) hk hT1.blk; replace hT := hT1; clear hT1 hk; have hfq := hv9.form; obtain ⟨aq, cq, rfl, -, hO⟩ := own_offS hO ⟨hv9, hoff9⟩; clear hv9 hn9 hoff9))
        go_meet
        exact ⟨_, _, _, _, lp, lq, rfl, rfl, kp, kq, by omega, by omega, hfp, hfq, hO.sub (List.nil_sublist _) (.refl _) (fun q hq => (List.mem_append.1 hq).elim (fun h => List.mem_append_left _ h) (fun h => List.mem_append_right _ (List.mem_append_left _ h)))⟩
    case rest =>
      clear hO hT hc hfa hfb ka kb
      obtain ⟨a1, a2, c1, c2, l1, l2, rfl, rfl, ka, kb, na, nb, hf1, hf2, hO⟩ := hcut
      have hm1 := fun v w ht hv => make_any (vl := v) (l := l1) w ht hv ka (by omega)
      have hm2 := fun v w ht hv => make_any (vl := v) (l := l2) w ht hv kb (by omega)
      obtain ⟨RX, eX⟩ : ∃ R, makeF l1 = R := ⟨_, rfl⟩
      obtain ⟨RY, eY⟩ : ∃ R, makeF l2 = R := ⟨_, rfl⟩
      rw [eX] at hm1
      rw [eY] at hm2
      have EX := Lib.hid eX
      have EY := Lib.hid eY
      clear eX eY
      go_upto_region 6 with (first | ((with_reducible refine is_load ?_); refine own_ld (h := ?_)) | ((with_reducible refine is_store ?_); (first | refine own_stR (hO := hO) (h := ?_) | refine own_st1 (hO := hO) (h := ?_)); clear hO; intro wv hO) | (go_at_call 30; (with_reducible refine (hm1 _ _ (hO.tops ht (by simp)) (hO.isB hf1 (by intro q hq; repeat (first | exact hq | exact List.mem_append_left _ hq | apply List.mem_append_right | apply List.mem_cons_of_mem)))).mono ?_); rintro e wv hpo; obtain ⟨vx, rfl, hv9, hn9, hb9⟩ := hpo.uni; (try dsimp only [Option.getD_some] at hv9); have hfx := hv9.form; replace hO := hO.gainB hb9 hv9 hn9; clear hb9 hv9 hn9 hpo; obtain ⟨ax, cx, rfl, -⟩ := hfx.view) | (go_at_call 30; (with_reducible refine (hm2 _ _ (hO.tops ht (by simp)) (hO.isB hf2 (by intro q hq; repeat (first | exact hq | exact List.mem_append_left _ hq | apply List.mem_append_right | apply List.mem_cons_of_mem)))).mono ?_); rintro e wv hpo; obtain ⟨vy, rfl, hv9, hn9, hb9⟩ := hpo.uni; (try dsimp only [Option.getD_some] at hv9); have hfy := hv9.form; replace hO := hO.gainB hb9 hv9 hn9; clear hb9 hv9 hn9 hpo; obtain ⟨ay, cy, rfl, -⟩ := hfy.view))
      cases RX with
      | none =>
        go_wp2_with (first | ((with_reducible refine is_load ?_); refine own_ld (h := ?_)) | ((with_reducible refine is_store ?_); (first | refine own_stR (hO := hO) (h := ?_) | refine own_st1 (hO := hO) (h := ?_)); clear hO; intro wv hO) | (go_at_call 19; refine (sane4_any _ (hO.tops ht (by simp))).mono ?_; rintro e wv ⟨rfl, hb⟩; replace hO := hO.call hb; clear hb))
        go_ret
        exact ⟨rfl, hO.keep.below⟩
      | some lx =>
        cases RY with
        | none =>
          go_wp2_with (first | ((with_reducible refine is_load ?_); refine own_ld (h := ?_)) | ((with_reducible refine is_store ?_); (first | refine own_stR (hO := hO) (h := ?_) | refine own_st1 (hO := hO) (h := ?_)); clear hO; intro wv hO) | (go_at_call 19; refine (sane4_any _ (hO.tops ht (by simp))).mono ?_; rintro e wv ⟨rfl, hb⟩; replace hO := hO.call hb; clear hb))
          go_ret
          exact ⟨rfl, hO.keep.below⟩
        | some ly =>
          have sX := (make_set ka EX.out).1
          have sY := (make_set kb EY.out).1
          have nX := sX.le
          have nY := sY.le
          have hm3 := fun v w ht hv => make_any (vl := v) (l := lx) w ht hv sX.ok nX
          rw [sX.make] at hm3
          have hvx := fun v w ht hv => psValid_any (vl := v) (l := lx) w ht hv sX.ok nX
          rw [sX.val] at hvx
          have hvy := fun v w ht hv => psValid_any (vl := v) (l := ly) w ht hv sY.ok nY
          rw [sY.val] at hvy
          have hS1 := fun v u w hv hu => rsame4_any v u lx w hv hu (by omega)
          have hS2 := fun v u w hv hu => rsame4g_any v u lx ly w hv hu (by omega) (by omega)
          rw [same_sub ka kb EX.out EY.out] at hS2
          have hu1 := fun v u w ht hv hu => psSubset_any (va := v) (vb := u) (la := l1) (lb := l2) w ht hv hu ka kb (by omega) (by omega)
          have hu2 := fun v u w ht hv hu => psSubset_any (va := v) (vb := u) (la := l2) (lb := l1) w ht hv hu kb ka (by omega) (by omega)
          generalize (canonF exB 0 5 (valF l1) (valF l2)).isEmpty = B1 at *
          generalize (canonF exB 0 5 (valF l2) (valF l1)).isEmpty = B2 at *
          have SX := Lib.hid sX
          have SY := Lib.hid sY
          clear sX sY hm1 hm2
          dsimp only [Option.getD_some] at hfx hfy hO
          cases B1 <;> cases B2 <;> simp only [Bool.and_true, Bool.and_false, Bool.and_self] at hS2
          all_goals
            go_wp2_with (first | ((with_reducible refine is_load ?_); refine own_ld (h := ?_)) | ((with_reducible refine is_store ?_); (first | refine own_stR (hO := hO) (h := ?_) | refine own_st1 (hO := hO) (h := ?_)); clear hO; intro wv hO) | (go_at_call 30; (with_reducible refine (hm3 _ _ (hO.tops ht (by simp)) (hO.isB hfx (by intro q hq; repeat (first | exact hq | exact List.mem_append_left _ hq | apply List.mem_append_right | apply List.mem_cons_of_mem)))).mono ?_); rintro e wv hpo; obtain ⟨vz, rfl, hv9, hn9, hb9⟩ := hpo.uni; (try dsimp only [Option.getD_some] at hv9); have hfz := hv9.form; replace hO := hO.gainB hb9 hv9 hn9; clear hb9 hv9 hn9 hpo; obtain ⟨az, cz, rfl, -⟩ := hfz.view) | (go_at_call 18; (with_reducible refine (hS1 _ _ _ (hO.isB hfz (by intro q hq; repeat (first | exact hq | exact List.mem_append_left _ hq | apply List.mem_append_right | apply List.mem_cons_of_mem))) (hO.isB hfx (by intro q hq; repeat (first | exact hq | exact List.mem_append_left _ hq | apply List.mem_append_right | apply List.mem_cons_of_mem)))).mono ?_); rintro e wv ⟨rfl, hb9⟩; replace hO := hO.call hb9; clear hb9) | (go_at_call 17; (with_reducible refine (hvx _ _ (hO.tops ht (by simp)) (hO.isB hfx (by intro q hq; repeat (first | exact hq | exact List.mem_append_left _ hq | apply List.mem_append_right | apply List.mem_cons_of_mem)))).mono ?_); rintro e wv ⟨rfl, hb9⟩; replace hO := hO.call hb9; clear hb9) | (go_at_call 17; (with_reducible refine (hvy _ _ (hO.tops ht (by simp)) (hO.isB hfy (by intro q hq; repeat (first | exact hq | exact List.mem_append_left _ hq | apply List.mem_append_right | apply List.mem_cons_of_mem)))).mono ?_); rintro e wv ⟨rfl, hb9⟩; replace hO := hO.call hb9; clear hb9) | (go_at_call 18; (with_reducible refine (hS2 _ _ _ (hO.isB hfx (by intro q hq; repeat (first | exact hq | exact List.mem_append_left _ hq | apply List.mem_append_right | apply List.mem_cons_of_mem))) (hO.isB hfy (by intro q hq; repeat (first | exact hq | exact List.mem_append_left _ hq | apply List.mem_append_right | apply List.mem_cons_of_mem)))).mono ?_); rintro e wv ⟨rfl, hb9⟩; replace hO := hO.call hb9; clear hb9) | (go_at_call 31; (with_reducible refine (hu1 _ _ _ (hO.tops ht (by simp)) (hO.isB hf1 (by intro q hq; repeat (first | exact hq | exact List.mem_append_left _ hq | apply List.mem_append_right | apply List.mem_cons_of_mem))) (hO.isB hf2 (by intro q hq; repeat (first | exact hq | exact List.mem_append_left _ hq | apply List.mem_append_right | apply List.mem_cons_of_mem)))).mono ?_); rintro e wv ⟨rfl, hb9⟩; replace hO := hO.call hb9; clear hb9) | (go_at_call 31; (with_reducible refine (hu2 _ _ _ (hO.tops ht (by simp)) (hO.isB hf2 (by intro q hq; repeat (first | exact hq | exact List.mem_append_left _ hq | apply List.mem_append_right | apply List.mem_cons_of_mem))) (hO.isB hf1 (by intro q hq; repeat (first | exact hq | exact List.mem_append_left _ hq | apply List.mem_append_right | apply List.mem_cons_of_mem)))).mono ?_); rintro e wv ⟨rfl, hb9⟩; replace hO := hO.call hb9; clear hb9) | (go_at_call 19; refine (sane4_any _ (hO.tops ht (by simp))).mono ?_; rintro e wv ⟨rfl, hb⟩; replace hO := hO.call hb; clear hb))
            go_ret
            exact ⟨rfl, hO.keep.below⟩
end Go.Proofs.YtdfihajngmgigaaDoor
