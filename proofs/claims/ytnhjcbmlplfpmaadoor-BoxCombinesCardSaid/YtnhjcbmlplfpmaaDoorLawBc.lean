/- BoxCombines: the walk. -/
import Derived.Test.YtnhjcbmlplfpmaaDoorLawComb
import Derived.Test.YtnhjcbmlplfpmaaDoorMore
namespace Go.Proofs.YtnhjcbmlplfpmaaDoor
open Go.RowKit
set_option maxRecDepth 100000

theorem cellsB_one' (l : List Bx) : (cellsB l).all (·.oneCell') = true := by
  induction l with
  | nil => rfl
  | cons b l ih => simp only [cellsB, List.all_append, ih, Bool.and_true]; rfl
/-- a call that changes a block of ours and hands back a row of its own -/
theorem Own.rowT {M : List Nat} {w0 w w' : World} {X X' : List Chunk} {R : List Row} {S : List Ro} (hO : Own M w0 X R S w) (hO' : Own M w0 X' R S w') (hX : excl X' R = excl X R) {v : Value} {k size : Nat} {xs : List Value} {e : TypeId} (hn : NewFrom w v) (hr : w'.ownsRow 0 e size v k xs) : Own M w0 X' (⟨v, k, xs, e, size⟩ :: R) S w' := by
  have hmem : ∀ n, n ∈ excl X' (⟨v, k, xs, e, size⟩ :: R) ↔ n ∈ excl X' R ∨ v.ownBlock = some n := fun n => by
    have := mem_blocks (X := X') (A := []) (B := R) (r := ⟨v, k, xs, e, size⟩) (g := n)
    simpa [excl] using this
  refine ⟨hO'.keep, hO'.chunk, fun r hr' => ?_, hO'.ro, ?_, fun n hn' => ?_, fun s hs hne hm => ?_⟩
  · rcases List.mem_cons.1 hr' with rfl | hr'
    · exact hr
    · exact hO'.row r hr'
  · have := (nodup_blocks (X := X') (A := []) (B := R) (r := ⟨v, k, xs, e, size⟩)).2 ⟨by simpa [excl] using hO'.nd, fun g hg hm => by
      have h2 := hO.lt g (hX ▸ (by simpa [excl] using hm))
      have := hn g hg
      omega⟩
    simpa using this
  · rcases (hmem n).1 hn' with h | h
    · exact hO'.free n h
    · exact .inr (Nat.le_trans hO.keep.size (hn n h))
  · rcases (hmem s.g).1 hm with hm | hm
    · exact hO'.apart s hs hne hm
    · have h2 := ro_lt (hO.ro s hs) hne
      have := hn _ hm
      omega
theorem src_boxes {w : World} {a : Option Addr} {c m : Nat} {l : List Bx} (h : IsBoxes w (.slice a l.length c) l) (hm : m ≤ l.length) : SrcAt w 10 a m (cellsB (l.take m)) := by
  refine ⟨by rw [cellsB_length]; simp; omega, fun h0 => ?_⟩
  rcases h with ⟨h1, h2⟩ | ⟨g, o, c', h1, _, hr⟩
  · subst h2; simp at hm; omega
  · cases h1
    refine ⟨g, o, rfl, fun j u hj => hr j u ?_⟩
    have hl : cellsB l = cellsB (l.take m) ++ cellsB (l.drop m) := by rw [← cellsB_append, List.take_append_drop]
    rw [hl, List.getElem?_append_left (List.getElem?_eq_some_iff.1 hj).1]
    exact hj
theorem own_lawB {w : World} {sl : Value} {zs : List Int} (hr : ∀ s ∈ roS sl (ints zs), w.rangeAt s.g s.o s.xs) {v : Value} {l : List Bx} (hv : IsBoxes w v l) : Own [] w [] [] (roS sl (ints zs) ++ roS v (cellsB l)) w := by
  refine ⟨Keep.refl _ _, fun c hc => (by cases hc), fun r hr => (by cases hr), fun s hs => ?_, by simp [excl], by simp [excl], by simp [excl]⟩
  rcases List.mem_append.1 hs with hs | hs
  · exact hr s hs
  · rcases hv with ⟨rfl, _⟩ | ⟨g, o, c, rfl, _, h⟩
    · simp [roS] at hs
    · obtain rfl := List.mem_singleton.1 hs
      exact h
set_option maxHeartbeats 8000000 in
theorem bcombines_law (sl : Value) (zs : List Int) (a b : Bx) (v : Value) (l : List Bx) (w : World) (ht : Tops w) (hZ : ZsOk sl zs) (hr : ∀ s ∈ roS sl (ints zs), w.rangeAt s.g s.o s.xs) (ka : a.ok) (kb : b.ok) (hv0 : IsBoxes w v l) (hl : l.length ≤ 9223372036854775807) :
    Calls Tryd.prog 9 #[sl, bv a, bv b, v] w fun e w' => e = .returned (.bool true) ∧ Below w.heap.size w w' := by
  have hO := own_lawB hr hv0
  obtain ⟨sa, sc, rfl, -⟩ := hZ.view
  obtain ⟨la, lc, rfl, ha⟩ := hv0.view
  go_enter Tryd.func9, Tryd.ntmps9
  go_wp2_with (first | ((with_reducible refine is_load ?_); (first | (refine own_ld (h := ?_)))) | ((with_reducible refine is_store ?_); (first | (refine own_stR (hO := hO) (h := ?_); clear hO; intro wv hO) | (refine own_st1 (hO := hO) (h := ?_); clear hO; intro wv hO))) | ((with_reducible refine is_box ?_); (first | (refine own_bx (o := ⟨some 5, _, _, _, _, _⟩) (hO := hO) (h := ?_); clear hO; intro n5 wv hO) | (refine own_bx (o := ⟨some 6, _, _, _, _, _⟩) (hO := hO) (h := ?_); clear hO; intro n6 wv hO))) | (go_at_call 16; (with_reducible refine (new_any _ _ _).mono ?_); rintro e wv ⟨n, rfl, hB, hn, hb⟩; replace hO := hO.gain hb hB hn; have hT := hO.tapeIn List.mem_cons_self (by (intro s hs; repeat (first | exact hs | exact List.mem_append_left _ hs | apply List.mem_append_right | apply List.mem_cons_of_mem))) (Nat.zero_le _); clear hb hB hn))
  go_loopw [10] (fun q wr => ∃ (k i : Nat), k ≤ 5 ∧ q = .int .i64 k ∧ TapeIn wr n (.slice sa zs.length sc) zs i ∧ Own [] w [⟨n, tcs (.slice sa zs.length sc) i, 66⟩, ⟨n6, bcs b, 26⟩, ⟨n5, bcs a, 26⟩] [] (roS (.slice sa zs.length sc) (ints zs) ++ roS (.slice la l.length lc) (cellsB l)) wr) (fun q _ => 5 - (intOf q).toNat)
  case atStart => exact ⟨0, 0, by omega, rfl, (hO.tapeIn (by (repeat (first | exact List.mem_cons_self | refine List.mem_cons_of_mem _ ?_))) (by (intro s hs; repeat (first | exact hs | exact List.mem_append_left _ hs | apply List.mem_append_right | apply List.mem_cons_of_mem))) hT.le), hO⟩
  case round =>
    clear hO hT
    obtain ⟨k, i, hk, rfl, hT, hO⟩ := hrel
    by_cases hlt : k < 5
    · have d1 : decide ((k : Int) < 5) = true := by simp; omega
      go_wp2_with (first | ((with_reducible refine is_load ?_); (first | (refine own_ld (h := ?_)))) | ((with_reducible refine is_store ?_); (first | (refine own_stR (hO := hO) (h := ?_); clear hO; intro wv hO) | (refine own_st1 (hO := hO) (h := ?_); clear hO; intro wv hO))) | ((with_reducible refine is_alloc ?_); (first | (refine own_al (o := ⟨some 11, _, _, _, _, _⟩) (hO := hO) (h := ?_); clear hO; intro n11 wv hO) | (refine own_al (o := ⟨some 12, _, _, _, _, _⟩) (hO := hO) (h := ?_); clear hO; intro n12 wv hO) | (refine own_al (o := ⟨some 13, _, _, _, _, _⟩) (hO := hO) (h := ?_); clear hO; intro n13 wv hO))) | ((fail_if_success (have := hx)); (go_at_call 17; (with_reducible refine (tbox_any hZ (hO.tapeIn (by (repeat (first | exact List.mem_cons_self | refine List.mem_cons_of_mem _ ?_))) (by (intro s hs; repeat (first | exact hs | exact List.mem_append_left _ hs | apply List.mem_append_right | apply List.mem_cons_of_mem))) hT.le)).mono ?_); rintro e wv ⟨v, i1, rfl, hv, hk, hT1⟩; replace hO := hO.after (by (repeat (first | exact Upd.here | apply Upd.there))) hk hT1.blk; replace hT := hT1; clear hT1 hk; obtain ⟨x, rfl, hx⟩ := hv)) | ((fail_if_success (have := hy)); (go_at_call 17; (with_reducible refine (tbox_any hZ (hO.tapeIn (by (repeat (first | exact List.mem_cons_self | refine List.mem_cons_of_mem _ ?_))) (by (intro s hs; repeat (first | exact hs | exact List.mem_append_left _ hs | apply List.mem_append_right | apply List.mem_cons_of_mem))) hT.le)).mono ?_); rintro e wv ⟨v, i1, rfl, hv, hk, hT1⟩; replace hO := hO.after (by (repeat (first | exact Upd.here | apply Upd.there))) hk hT1.blk; replace hT := hT1; clear hT1 hk; obtain ⟨y, rfl, hy⟩ := hv)) | (go_at_call 30; refine (rintersect_any _ _ _).mono ?_; rintro e wv ⟨rfl, hb⟩; replace hO := hO.call hb; clear hb))
      have kx := hx.ok
      have ky := hy.ok
      have kz := interB_ok kx ky
      (try simp only [Act.put]); (try simp only [List.setIfInBounds_toArray, List.set_cons_zero, List.set_cons_succ]); (refine own_tloose 38 [(37, fun v _ => v = .bool true), (42, fun v _ => v = .bool true), (48, fun v _ => v = .bool true), (54, fun v _ => v = .bool true), (60, IsBx), (62, fun v _ => v = .bool true), (69, IsBx), (70, fun v _ => v = .bool true)] hO hT (by repeat (first | exact Pick.here | apply Pick.there)) (by kernel_rfl) (by kernel_rfl) (by rfl) (by repeat (first | exact Split.zero _ | apply Split.succ)) ?_ ?_); (focus (repeat (first | exact lasts_nil | (refine lasts_cons (fun v w w' _ _ hk h => ?_) ?_; focus (first | exact h | exact IsLit.keep h hk (by simp) | exact IsElt.keep h hk (by simp)))))); clear hO; (repeat (first | (refine loose_plain (by (intro _ hd; cases hd; rfl)) (by rfl) (fun _ h => TC.own h) ?_; (first | go_big_quiet_skip | (go_big_quiet_want; (first | ((with_reducible refine is_loadQ ?_); (first | (refine q_ld (h := ?_))); (try simp only [Act.put]); (try simp only [List.setIfInBounds_toArray, List.set_cons_zero, List.set_cons_succ]); go_big_quiet_on) | (go_big_quiet_op; (first | go_big_quiet_on | ((refine ⟨_, fun _ _ => rfl, ?_⟩); go_big_quiet_on)))))); refine wpQuiet_nil ?_; (try simp only [Act.put]); (try simp only [List.setIfInBounds_toArray, List.set_cons_zero, List.set_cons_succ])) | (refine loose_fact (by rfl) rfl (by rfl) ?_ ?_ (Nat.le_of_ble_eq_true rfl); (focus (intro w1 hC hF; (first | (exact loose_lit hC rfl (by first | exact slice_u32 | exact slice_u8) rfl rfl (by rfl) (by decide) (by decide) (by simp [excl])) | (obtain ⟨i1, hi1, hO⟩ := hC; go_simp; (first | (go_at_call 31; (with_reducible refine (combines_any _ _ _ (hO.tops ht (by simp)) (by assumption) (by assumption)).mono ?_); rintro e w3 ⟨rfl, hb⟩; exact ⟨_, rfl, keep_of_below hb _, TC.call ⟨i1, hi1, hO⟩ hb, rfl⟩) | (go_at_call 22; (with_reducible refine (spoil_any _ hZ (hO.tapeIn List.mem_cons_self (by (intro s hs; repeat (first | exact hs | exact List.mem_append_left _ hs | apply List.mem_append_right | apply List.mem_cons_of_mem))) hi1) (by assumption)).mono ?_); rintro e w3 ⟨v, i2, rfl, hv, hk, hT1⟩; exact ⟨_, rfl, hk, TC.next hO hk hT1, hv⟩)))))); (intro u w1 hC hu; (first | (obtain ⟨h, rfl, hh⟩ : IsHd u w1 := hu) | (obtain ⟨b, rfl, hb⟩ : IsBx u w1 := hu) | (obtain ⟨b, rfl, hb⟩ : IsBox u w1 := hu) | obtain ⟨r, rfl, hr0, hr1⟩ := hu | (try subst hu)); (try simp only [Act.put]); (try simp only [List.setIfInBounds_toArray, List.set_cons_zero, List.set_cons_succ]))) | (refine loose_skip (by rfl) ?_; (try simp only [Act.put]); (try simp only [List.setIfInBounds_toArray, List.set_cons_zero, List.set_cons_succ])))); (refine wpLoose_nil ?_); intro wv hI; obtain ⟨⟨i1, hi1, hO⟩, hF⟩ := hI; have hT := hO.tapeIn List.mem_cons_self (by (intro s hs; repeat (first | exact hs | exact List.mem_append_left _ hs | apply List.mem_append_right | apply List.mem_cons_of_mem))) hi1; (try refine wpList_done ?_)
      go_wp2_with (first | ((with_reducible refine is_load ?_); (first | (refine own_ld (h := ?_)))) | ((with_reducible refine is_store ?_); (first | (refine own_stR (hO := hO) (h := ?_); clear hO; intro wv hO) | (refine own_st1 (hO := hO) (h := ?_); clear hO; intro wv hO))))
      go_roundw
      case rel =>
        have hT2 := (hO.tapeIn (by (repeat (first | exact List.mem_cons_self | refine List.mem_cons_of_mem _ ?_))) (by (intro s hs; repeat (first | exact hs | exact List.mem_append_left _ hs | apply List.mem_append_right | apply List.mem_cons_of_mem))) hT.le)
        exact ⟨k + 1, _, hlt, by go_num, hT2, hO.sub (by repeat (first | exact List.Sublist.slnil | apply List.Sublist.cons_cons | apply List.Sublist.cons)) (.refl _) (fun _ h => h)⟩
      case measure => simp [intOf]; omega
    · have d1 : decide ((k : Int) < 5) = false := by simp; omega
      rcases hv0 with ⟨h1, h2⟩ | ⟨g, o, c', h1, hcl, hrl⟩
      · subst h2
        cases h1
        have hv0 : IsBoxes w (.slice none 0 0) [] := .inl ⟨rfl, rfl⟩
        go_wp2_with (first | ((with_reducible refine is_load ?_); (first | (refine own_ld (h := ?_)))) | ((with_reducible refine is_store ?_); (first | (refine own_stR (hO := hO) (h := ?_); clear hO; intro wv hO) | (refine own_st1 (hO := hO) (h := ?_); clear hO; intro wv hO))))
        (try simp only [Act.put]); (try simp only [List.setIfInBounds_toArray, List.set_cons_zero, List.set_cons_succ])
        refine wp_region_any (by kernel_rfl) ?_
        replace hO := hO.drew
        refine wpAny_takePL 0 rfl (by kernel_rfl) (by kernel_rfl) (by kernel_rfl) (by intro c d v a w h; cases d <;> exact h) (by rfl) ?_
        (first | go_big_quiet_skip | (go_big_quiet_want; (go_big_quiet_op; (first | go_big_quiet_on | ((refine ⟨_, fun _ _ => rfl, ?_⟩); go_big_quiet_on))))); (refine wpQuiet_nil ?_); (try simp only [Act.put]); (try simp only [List.setIfInBounds_toArray, List.set_cons_zero, List.set_cons_succ])
        refine wpAny_takePL 2 rfl (by kernel_rfl) (by kernel_rfl) (by kernel_rfl) (by intro c d v a w h; cases d <;> exact h) (by rfl) ?_
        (first | go_big_quiet_skip | (go_big_quiet_want; (go_big_quiet_op; (first | go_big_quiet_on | ((refine ⟨_, fun _ _ => rfl, ?_⟩); go_big_quiet_on))))); (refine wpQuiet_nil ?_); (try simp only [Act.put]); (try simp only [List.setIfInBounds_toArray, List.set_cons_zero, List.set_cons_succ])
        refine wpAny_takePL 3 rfl (by kernel_rfl) (by kernel_rfl) (by kernel_rfl) (by intro c d v a w h; cases d <;> exact h) (by rfl) ?_
        (first | go_big_quiet_skip | (go_big_quiet_want; (go_big_quiet_op; (first | go_big_quiet_on | ((refine ⟨_, fun _ _ => rfl, ?_⟩); go_big_quiet_on))))); (refine wpQuiet_nil ?_); (try simp only [Act.put]); (try simp only [List.setIfInBounds_toArray, List.set_cons_zero, List.set_cons_succ])
        refine wpAny_takePL 4 rfl (by kernel_rfl) (by kernel_rfl) (by kernel_rfl) (by intro c d v a w h; cases d <;> exact h) (by rfl) ?_
        (first | go_big_quiet_skip | (go_big_quiet_want; (go_big_quiet_op; (first | go_big_quiet_on | ((refine ⟨_, fun _ _ => rfl, ?_⟩); go_big_quiet_on))))); (refine wpQuiet_nil ?_); (try simp only [Act.put]); (try simp only [List.setIfInBounds_toArray, List.set_cons_zero, List.set_cons_succ])
        refine wpAny_takePL 5 rfl (by kernel_rfl) (by kernel_rfl) (by kernel_rfl) (by intro c d v a w h; cases d <;> exact h) (by rfl) ?_
        (first | go_big_quiet_skip | (go_big_quiet_want; (go_big_quiet_op; (first | go_big_quiet_on | ((refine ⟨_, fun _ _ => rfl, ?_⟩); go_big_quiet_on))))); (refine wpQuiet_nil ?_); (try simp only [Act.put]); (try simp only [List.setIfInBounds_toArray, List.set_cons_zero, List.set_cons_succ])
        refine wpAny_takePL 6 rfl (by kernel_rfl) (by kernel_rfl) (by kernel_rfl) (by intro c d v a w h; cases d <;> exact h) (by rfl) ?_
        (first | go_big_quiet_skip | (go_big_quiet_want; (go_big_quiet_op; (first | go_big_quiet_on | ((refine ⟨_, fun _ _ => rfl, ?_⟩); go_big_quiet_on))))); (refine wpQuiet_nil ?_); (try simp only [Act.put]); (try simp only [List.setIfInBounds_toArray, List.set_cons_zero, List.set_cons_succ])
        refine wpAny_all (rs := [1]) (by kernel_rfl) (by simp) (ord_cons ?_ ord_nil)
        rotate_left 1
        all_goals
          refine wpOp_of_listL rfl ?_
          (first | ((with_reducible refine is_load ?_); (first | (refine own_ld (h := ?_)))) | ((with_reducible refine is_store ?_); (first | (refine own_stR (hO := hO) (h := ?_); clear hO; intro wv hO) | (refine own_st1 (hO := hO) (h := ?_); clear hO; intro wv hO))) | ((with_reducible refine is_append ?_); (first | (refine own_ap (o := ⟨some 80, _, _, _, _, _⟩) (hO := hO) (h := ?_); clear hO; intro g80 c80 wv hO))) | ((with_reducible refine is_append ?_); (refine own_appendA (o := ⟨some 80, _, _, _, _, _⟩) hO rfl rfl slice_Boxes rfl rfl (src_boxes (l := ([] : List Bx)) (m := 0) (hv0.keep (keep_of_below hO.keep.below _)) (by omega)) (cellsB_one' _) (fun _ => by repeat (first | exact UpdR.here | apply UpdR.there)) (by first | omega | (simp; omega)) (by unfold maxLen; first | omega | (simp; omega)) ?_); clear hO; intro A80 c80 wv hO) | ((refine wpList_step (fun K hK => ?_)); go_simp; (first | ((refine hK _ _ ?_); clear hK K) | ((first | (go_at_call 27; (with_reducible refine (tboxesR_any 4 true hZ (hO.tapeIn (by (repeat (first | exact List.mem_cons_self | refine List.mem_cons_of_mem _ ?_))) (by (intro s hs; repeat (first | exact hs | exact List.mem_append_left _ hs | apply List.mem_append_right | apply List.mem_cons_of_mem))) hT.le) (by omega) (by omega)).mono ?_); rintro e wv ⟨v, i1, rfl, ⟨l1, -, hn1, hk1, hlen, -, hrow⟩, hk9, hT1⟩; have hO9 := hO.after (by (repeat (first | exact Upd.here | apply Upd.there))) hk9 hT1.blk; replace hO := hO.rowT hO9 rfl hn1 hrow; clear hO9 hk9 hT1 hn1 hrow)); (try simp only []); (refine hK _ _ ?_); clear hK K)))); (try simp only [Act.put]); (try simp only [List.setIfInBounds_toArray, List.set_cons_zero, List.set_cons_succ])
          refine wpList_done (qk_intro ?_)
        refine wpAny_all (rs := [7]) (by kernel_rfl) (by simp) (ord_cons ?_ ord_nil)
        rotate_left 1
        all_goals
          refine wpOp_of_listL rfl ?_
          (first | ((with_reducible refine is_load ?_); (first | (refine own_ld (h := ?_)))) | ((with_reducible refine is_store ?_); (first | (refine own_stR (hO := hO) (h := ?_); clear hO; intro wv hO) | (refine own_st1 (hO := hO) (h := ?_); clear hO; intro wv hO))) | ((with_reducible refine is_append ?_); (first | (refine own_ap (o := ⟨some 80, _, _, _, _, _⟩) (hO := hO) (h := ?_); clear hO; intro g80 c80 wv hO))) | ((with_reducible refine is_append ?_); (refine own_appendA (o := ⟨some 80, _, _, _, _, _⟩) hO rfl rfl slice_Boxes rfl rfl (src_boxes (l := ([] : List Bx)) (m := 0) (hv0.keep (keep_of_below hO.keep.below _)) (by omega)) (cellsB_one' _) (fun _ => by repeat (first | exact UpdR.here | apply UpdR.there)) (by first | omega | (simp; omega)) (by unfold maxLen; first | omega | (simp; omega)) ?_); clear hO; intro A80 c80 wv hO) | ((refine wpList_step (fun K hK => ?_)); go_simp; (first | ((refine hK _ _ ?_); clear hK K) | ((first | (go_at_call 27; (with_reducible refine (tboxesR_any 4 true hZ (hO.tapeIn (by (repeat (first | exact List.mem_cons_self | refine List.mem_cons_of_mem _ ?_))) (by (intro s hs; repeat (first | exact hs | exact List.mem_append_left _ hs | apply List.mem_append_right | apply List.mem_cons_of_mem))) hT.le) (by omega) (by omega)).mono ?_); rintro e wv ⟨v, i1, rfl, ⟨l1, -, hn1, hk1, hlen, -, hrow⟩, hk9, hT1⟩; have hO9 := hO.after (by (repeat (first | exact Upd.here | apply Upd.there))) hk9 hT1.blk; replace hO := hO.rowT hO9 rfl hn1 hrow; clear hO9 hk9 hT1 hn1 hrow)); (try simp only []); (refine hK _ _ ?_); clear hK K)))); (try simp only [Act.put]); (try simp only [List.setIfInBounds_toArray, List.set_cons_zero, List.set_cons_succ])
          refine wpList_done (qk_intro ?_)
        refine wpAny_all (rs := [8]) (by kernel_rfl) (by simp) (ord_cons ?_ ord_nil)
        rotate_left 1
        all_goals
          refine wpOp_of_listL rfl ?_
          (first | ((with_reducible refine is_load ?_); (first | (refine own_ld (h := ?_)))) | ((with_reducible refine is_store ?_); (first | (refine own_stR (hO := hO) (h := ?_); clear hO; intro wv hO) | (refine own_st1 (hO := hO) (h := ?_); clear hO; intro wv hO))) | ((with_reducible refine is_append ?_); (first | (refine own_ap (o := ⟨some 80, _, _, _, _, _⟩) (hO := hO) (h := ?_); clear hO; intro g80 c80 wv hO))) | ((with_reducible refine is_append ?_); (refine own_appendA (o := ⟨some 80, _, _, _, _, _⟩) hO rfl rfl slice_Boxes rfl rfl (src_boxes (l := ([] : List Bx)) (m := 0) (hv0.keep (keep_of_below hO.keep.below _)) (by omega)) (cellsB_one' _) (fun _ => by repeat (first | exact UpdR.here | apply UpdR.there)) (by first | omega | (simp; omega)) (by unfold maxLen; first | omega | (simp; omega)) ?_); clear hO; intro A80 c80 wv hO) | ((refine wpList_step (fun K hK => ?_)); go_simp; (first | ((refine hK _ _ ?_); clear hK K) | ((first | (go_at_call 27; (with_reducible refine (tboxesR_any 4 true hZ (hO.tapeIn (by (repeat (first | exact List.mem_cons_self | refine List.mem_cons_of_mem _ ?_))) (by (intro s hs; repeat (first | exact hs | exact List.mem_append_left _ hs | apply List.mem_append_right | apply List.mem_cons_of_mem))) hT.le) (by omega) (by omega)).mono ?_); rintro e wv ⟨v, i1, rfl, ⟨l1, -, hn1, hk1, hlen, -, hrow⟩, hk9, hT1⟩; have hO9 := hO.after (by (repeat (first | exact Upd.here | apply Upd.there))) hk9 hT1.blk; replace hO := hO.rowT hO9 rfl hn1 hrow; clear hO9 hk9 hT1 hn1 hrow)); (try simp only []); (refine hK _ _ ?_); clear hK K)))); (try simp only [Act.put]); (try simp only [List.setIfInBounds_toArray, List.set_cons_zero, List.set_cons_succ])
          refine wpList_done (qk_intro ?_)
        refine wpAny_done (by kernel_rfl) ?_ _
        rotate_left
        all_goals
          rw [← cellsB_append] at hO
          have hLl : (l1 ++ ([] : List Bx).take 0).length = l1.length + 0 := by simp <;> omega
          generalize l1 ++ ([] : List Bx).take 0 = L at *
          go_wp2_with (first | ((with_reducible refine is_load ?_); (first | (refine own_ld (h := ?_)))) | ((with_reducible refine is_store ?_); (first | (refine own_stR (hO := hO) (h := ?_); clear hO; intro wv hO) | (refine own_st1 (hO := hO) (h := ?_); clear hO; intro wv hO))) | ((with_reducible refine is_alloc ?_); (first | (refine own_al (o := ⟨some 15, _, _, _, _, _⟩) (hO := hO) (h := ?_); clear hO; intro n15 wv hO) | (refine own_al (o := ⟨some 17, _, _, _, _, _⟩) (hO := hO) (h := ?_); clear hO; intro n17 wv hO))) | (go_at_call 28; (with_reducible refine (hull_any _ L _ ?_ ?_ (by omega)).mono ?_); (focus exact hO.tops ht (by simp)); (focus exact own_boxes hO (by (repeat (first | exact List.mem_cons_self | refine List.mem_cons_of_mem _ ?_)))); rintro e wv ⟨rfl, hb9⟩; replace hO := hO.call hb9; clear hb9) | (go_at_call 32; (with_reducible refine (rhull_any _ L _ ?_ (by omega)).mono ?_); (focus exact own_boxes hO (by (repeat (first | exact List.mem_cons_self | refine List.mem_cons_of_mem _ ?_)))); rintro e wv ⟨rfl, hb9⟩; replace hO := hO.call hb9; clear hb9) | (go_at_call 31; (with_reducible refine (combines_any a b _ ?_ ka kb).mono ?_); (focus exact hO.tops ht (by simp)); rintro e wv ⟨rfl, hb9⟩; replace hO := hO.call hb9; clear hb9) | (go_at_call 31; (with_reducible refine (combines_any b a _ ?_ kb ka).mono ?_); (focus exact hO.tops ht (by simp)); rintro e wv ⟨rfl, hb9⟩; replace hO := hO.call hb9; clear hb9) | (go_at_call 15; refine (sane_any _ (hO.tops ht (by simp))).mono ?_; rintro e wv ⟨rfl, hb⟩; replace hO := hO.call hb; clear hb))
          go_ret
          exact ⟨rfl, hO.keep.below⟩
      · cases h1
        have hv0 : IsBoxes w (.slice (some ⟨g, o, none⟩) l.length lc) l := .inr ⟨g, o, lc, rfl, hcl, hrl⟩
        obtain ⟨M, hM⟩ : ∃ M : Nat, min l.length 50 = M := ⟨_, rfl⟩
        have q1 : min (l.length : Int) 50 = (M : Int) := by omega
        have q2 : M ≤ l.length := by omega
        have q3 : M ≤ 50 := by omega
        clear hM
        go_wp2_with (first | ((with_reducible refine is_load ?_); (first | (refine own_ld (h := ?_)))) | ((with_reducible refine is_store ?_); (first | (refine own_stR (hO := hO) (h := ?_); clear hO; intro wv hO) | (refine own_st1 (hO := hO) (h := ?_); clear hO; intro wv hO))))
        (try simp only [Act.put]); (try simp only [List.setIfInBounds_toArray, List.set_cons_zero, List.set_cons_succ])
        refine wp_region_any (by kernel_rfl) ?_
        replace hO := hO.drew
        refine wpAny_takePL 0 rfl (by kernel_rfl) (by kernel_rfl) (by kernel_rfl) (by intro c d v a w h; cases d <;> exact h) (by rfl) ?_
        (first | go_big_quiet_skip | (go_big_quiet_want; (go_big_quiet_op; (first | go_big_quiet_on | ((refine ⟨_, fun _ _ => rfl, ?_⟩); go_big_quiet_on))))); (refine wpQuiet_nil ?_); (try simp only [Act.put]); (try simp only [List.setIfInBounds_toArray, List.set_cons_zero, List.set_cons_succ])
        refine wpAny_takePL 2 rfl (by kernel_rfl) (by kernel_rfl) (by kernel_rfl) (by intro c d v a w h; cases d <;> exact h) (by rfl) ?_
        (first | go_big_quiet_skip | (go_big_quiet_want; (go_big_quiet_op; (first | go_big_quiet_on | ((refine ⟨_, fun _ _ => rfl, ?_⟩); go_big_quiet_on))))); (refine wpQuiet_nil ?_); (try simp only [Act.put]); (try simp only [List.setIfInBounds_toArray, List.set_cons_zero, List.set_cons_succ])
        refine wpAny_takePL 3 rfl (by kernel_rfl) (by kernel_rfl) (by kernel_rfl) (by intro c d v a w h; cases d <;> exact h) (by rfl) ?_
        (first | go_big_quiet_skip | (go_big_quiet_want; (go_big_quiet_op; (first | go_big_quiet_on | ((refine ⟨_, fun _ _ => rfl, ?_⟩); go_big_quiet_on))))); (refine wpQuiet_nil ?_); (try simp only [Act.put]); (try simp only [List.setIfInBounds_toArray, List.set_cons_zero, List.set_cons_succ])
        refine wpAny_takePL 4 rfl (by kernel_rfl) (by kernel_rfl) (by kernel_rfl) (by intro c d v a w h; cases d <;> exact h) (by rfl) ?_
        (first | go_big_quiet_skip | (go_big_quiet_want; (go_big_quiet_op; (first | go_big_quiet_on | ((refine ⟨_, fun _ _ => rfl, ?_⟩); go_big_quiet_on))))); (refine wpQuiet_nil ?_); (try simp only [Act.put]); (try simp only [List.setIfInBounds_toArray, List.set_cons_zero, List.set_cons_succ])
        refine wpAny_takePL 5 rfl (by kernel_rfl) (by kernel_rfl) (by kernel_rfl) (by intro c d v a w h; cases d <;> exact h) (by rfl) ?_
        (first | go_big_quiet_skip | (go_big_quiet_want; (go_big_quiet_op; (first | go_big_quiet_on | ((refine ⟨_, fun _ _ => rfl, ?_⟩); go_big_quiet_on))))); (refine wpQuiet_nil ?_); (try simp only [Act.put]); (try simp only [List.setIfInBounds_toArray, List.set_cons_zero, List.set_cons_succ])
        refine wpAny_takePL 6 rfl (by kernel_rfl) (by kernel_rfl) (by kernel_rfl) (by intro c d v a w h; cases d <;> exact h) (by rfl) ?_
        (first | go_big_quiet_skip | (go_big_quiet_want; (go_big_quiet_op; (first | go_big_quiet_on | ((refine ⟨_, fun _ _ => rfl, ?_⟩); go_big_quiet_on))))); (refine wpQuiet_nil ?_); (try simp only [Act.put]); (try simp only [List.setIfInBounds_toArray, List.set_cons_zero, List.set_cons_succ])
        refine wpAny_all (rs := [1]) (by kernel_rfl) (by simp) (ord_cons ?_ ord_nil)
        rotate_left 1
        all_goals
          refine wpOp_of_listL rfl ?_
          (first | ((with_reducible refine is_load ?_); (first | (refine own_ld (h := ?_)))) | ((with_reducible refine is_store ?_); (first | (refine own_stR (hO := hO) (h := ?_); clear hO; intro wv hO) | (refine own_st1 (hO := hO) (h := ?_); clear hO; intro wv hO))) | ((with_reducible refine is_append ?_); (first | (refine own_ap (o := ⟨some 80, _, _, _, _, _⟩) (hO := hO) (h := ?_); clear hO; intro g80 c80 wv hO))) | ((with_reducible refine is_append ?_); (refine own_appendA (o := ⟨some 80, _, _, _, _, _⟩) hO rfl rfl slice_Boxes rfl rfl (src_boxes (l := l) (m := M) (hv0.keep (keep_of_below hO.keep.below _)) (by omega)) (cellsB_one' _) (fun _ => by repeat (first | exact UpdR.here | apply UpdR.there)) (by first | omega | (simp; omega)) (by unfold maxLen; first | omega | (simp; omega)) ?_); clear hO; intro A80 c80 wv hO) | ((refine wpList_step (fun K hK => ?_)); go_simp; (first | ((refine hK _ _ ?_); clear hK K) | ((first | (go_at_call 27; (with_reducible refine (tboxesR_any 4 true hZ (hO.tapeIn (by (repeat (first | exact List.mem_cons_self | refine List.mem_cons_of_mem _ ?_))) (by (intro s hs; repeat (first | exact hs | exact List.mem_append_left _ hs | apply List.mem_append_right | apply List.mem_cons_of_mem))) hT.le) (by omega) (by omega)).mono ?_); rintro e wv ⟨v, i1, rfl, ⟨l1, -, hn1, hk1, hlen, -, hrow⟩, hk9, hT1⟩; have hO9 := hO.after (by (repeat (first | exact Upd.here | apply Upd.there))) hk9 hT1.blk; replace hO := hO.rowT hO9 rfl hn1 hrow; clear hO9 hk9 hT1 hn1 hrow)); (try simp only []); (refine hK _ _ ?_); clear hK K)))); (try simp only [Act.put]); (try simp only [List.setIfInBounds_toArray, List.set_cons_zero, List.set_cons_succ])
          refine wpList_done (qk_intro ?_)
        refine wpAny_all (rs := [7]) (by kernel_rfl) (by simp) (ord_cons ?_ ord_nil)
        rotate_left 1
        all_goals
          refine wpOp_of_listL rfl ?_
          (first | ((with_reducible refine is_load ?_); (first | (refine own_ld (h := ?_)))) | ((with_reducible refine is_store ?_); (first | (refine own_stR (hO := hO) (h := ?_); clear hO; intro wv hO) | (refine own_st1 (hO := hO) (h := ?_); clear hO; intro wv hO))) | ((with_reducible refine is_append ?_); (first | (refine own_ap (o := ⟨some 80, _, _, _, _, _⟩) (hO := hO) (h := ?_); clear hO; intro g80 c80 wv hO))) | ((with_reducible refine is_append ?_); (refine own_appendA (o := ⟨some 80, _, _, _, _, _⟩) hO rfl rfl slice_Boxes rfl rfl (src_boxes (l := l) (m := M) (hv0.keep (keep_of_below hO.keep.below _)) (by omega)) (cellsB_one' _) (fun _ => by repeat (first | exact UpdR.here | apply UpdR.there)) (by first | omega | (simp; omega)) (by unfold maxLen; first | omega | (simp; omega)) ?_); clear hO; intro A80 c80 wv hO) | ((refine wpList_step (fun K hK => ?_)); go_simp; (first | ((refine hK _ _ ?_); clear hK K) | ((first | (go_at_call 27; (with_reducible refine (tboxesR_any 4 true hZ (hO.tapeIn (by (repeat (first | exact List.mem_cons_self | refine List.mem_cons_of_mem _ ?_))) (by (intro s hs; repeat (first | exact hs | exact List.mem_append_left _ hs | apply List.mem_append_right | apply List.mem_cons_of_mem))) hT.le) (by omega) (by omega)).mono ?_); rintro e wv ⟨v, i1, rfl, ⟨l1, -, hn1, hk1, hlen, -, hrow⟩, hk9, hT1⟩; have hO9 := hO.after (by (repeat (first | exact Upd.here | apply Upd.there))) hk9 hT1.blk; replace hO := hO.rowT hO9 rfl hn1 hrow; clear hO9 hk9 hT1 hn1 hrow)); (try simp only []); (refine hK _ _ ?_); clear hK K)))); (try simp only [Act.put]); (try simp only [List.setIfInBounds_toArray, List.set_cons_zero, List.set_cons_succ])
          refine wpList_done (qk_intro ?_)
        refine wpAny_all (rs := [8]) (by kernel_rfl) (by simp) (ord_cons ?_ ord_nil)
        rotate_left 1
        all_goals
          refine wpOp_of_listL rfl ?_
          (first | ((with_reducible refine is_load ?_); (first | (refine own_ld (h := ?_)))) | ((with_reducible refine is_store ?_); (first | (refine own_stR (hO := hO) (h := ?_); clear hO; intro wv hO) | (refine own_st1 (hO := hO) (h := ?_); clear hO; intro wv hO))) | ((with_reducible refine is_append ?_); (first | (refine own_ap (o := ⟨some 80, _, _, _, _, _⟩) (hO := hO) (h := ?_); clear hO; intro g80 c80 wv hO))) | ((with_reducible refine is_append ?_); (refine own_appendA (o := ⟨some 80, _, _, _, _, _⟩) hO rfl rfl slice_Boxes rfl rfl (src_boxes (l := l) (m := M) (hv0.keep (keep_of_below hO.keep.below _)) (by omega)) (cellsB_one' _) (fun _ => by repeat (first | exact UpdR.here | apply UpdR.there)) (by first | omega | (simp; omega)) (by unfold maxLen; first | omega | (simp; omega)) ?_); clear hO; intro A80 c80 wv hO) | ((refine wpList_step (fun K hK => ?_)); go_simp; (first | ((refine hK _ _ ?_); clear hK K) | ((first | (go_at_call 27; (with_reducible refine (tboxesR_any 4 true hZ (hO.tapeIn (by (repeat (first | exact List.mem_cons_self | refine List.mem_cons_of_mem _ ?_))) (by (intro s hs; repeat (first | exact hs | exact List.mem_append_left _ hs | apply List.mem_append_right | apply List.mem_cons_of_mem))) hT.le) (by omega) (by omega)).mono ?_); rintro e wv ⟨v, i1, rfl, ⟨l1, -, hn1, hk1, hlen, -, hrow⟩, hk9, hT1⟩; have hO9 := hO.after (by (repeat (first | exact Upd.here | apply Upd.there))) hk9 hT1.blk; replace hO := hO.rowT hO9 rfl hn1 hrow; clear hO9 hk9 hT1 hn1 hrow)); (try simp only []); (refine hK _ _ ?_); clear hK K)))); (try simp only [Act.put]); (try simp only [List.setIfInBounds_toArray, List.set_cons_zero, List.set_cons_succ])
          refine wpList_done (qk_intro ?_)
        refine wpAny_done (by kernel_rfl) ?_ _
        rotate_left
        all_goals
          rw [← cellsB_append] at hO
          have hLl : (l1 ++ l.take M).length = l1.length + M := by simp <;> omega
          generalize l1 ++ l.take M = L at *
          go_wp2_with (first | ((with_reducible refine is_load ?_); (first | (refine own_ld (h := ?_)))) | ((with_reducible refine is_store ?_); (first | (refine own_stR (hO := hO) (h := ?_); clear hO; intro wv hO) | (refine own_st1 (hO := hO) (h := ?_); clear hO; intro wv hO))) | ((with_reducible refine is_alloc ?_); (first | (refine own_al (o := ⟨some 15, _, _, _, _, _⟩) (hO := hO) (h := ?_); clear hO; intro n15 wv hO) | (refine own_al (o := ⟨some 17, _, _, _, _, _⟩) (hO := hO) (h := ?_); clear hO; intro n17 wv hO))) | (go_at_call 28; (with_reducible refine (hull_any _ L _ ?_ ?_ (by omega)).mono ?_); (focus exact hO.tops ht (by simp)); (focus exact own_boxes hO (by (repeat (first | exact List.mem_cons_self | refine List.mem_cons_of_mem _ ?_)))); rintro e wv ⟨rfl, hb9⟩; replace hO := hO.call hb9; clear hb9) | (go_at_call 32; (with_reducible refine (rhull_any _ L _ ?_ (by omega)).mono ?_); (focus exact own_boxes hO (by (repeat (first | exact List.mem_cons_self | refine List.mem_cons_of_mem _ ?_)))); rintro e wv ⟨rfl, hb9⟩; replace hO := hO.call hb9; clear hb9) | (go_at_call 31; (with_reducible refine (combines_any a b _ ?_ ka kb).mono ?_); (focus exact hO.tops ht (by simp)); rintro e wv ⟨rfl, hb9⟩; replace hO := hO.call hb9; clear hb9) | (go_at_call 31; (with_reducible refine (combines_any b a _ ?_ kb ka).mono ?_); (focus exact hO.tops ht (by simp)); rintro e wv ⟨rfl, hb9⟩; replace hO := hO.call hb9; clear hb9) | (go_at_call 15; refine (sane_any _ (hO.tops ht (by simp))).mono ?_; rintro e wv ⟨rfl, hb⟩; replace hO := hO.call hb; clear hb))
          go_ret
          exact ⟨rfl, hO.keep.below⟩
end Go.Proofs.YtnhjcbmlplfpmaaDoor
