/- Package packetset: Free. -/
import Derived.Test.YtbdfblgdmappeaaDoorNJ
import Derived.Test.YtbdfblgdmappeaaDoorME
import Derived.Test.YtbdfblgdmappeaaDoorMP
import Derived.Test.YtbdfblgdmappeaaDoorMR
namespace Go.Proofs.YtbdfblgdmappeaaDoor
open Go.RowKit
set_option maxRecDepth 100000
theorem cloneS_any {vl : Value} {l : List Bx} (w : World) (hv : IsBoxes w vl l) (hl : l.length ≤ 1000000000000) :
  Calls Tryd.prog 22 #[vl] w (MkBoxes w l) := by
 have hO := own_arg hv
 have hv0 := hv
 obtain ⟨a, c, rfl, ha⟩ := hv.view
 clear hv
 cases a with
 | none =>
  have hl0 : l = [] ∧ c = 0 := by
   rcases hv0 with ⟨h', h⟩ | ⟨_, _, _, h, _⟩
   ·exact ⟨h, by simpa [h] using h'⟩
   ·cases h
  obtain ⟨rfl, rfl⟩ := hl0
  have hn : ∀ w, (binOp .eql 29 (.slice none 0 0) (.slice none 0 0)).run Tryd.prog w = .ok (.bool true) w := fun w => Lib.run_eql_slice_nil w _ 45 _ _ _ _ _ Tryd.underlying29
  replace hO := hO.nilRow 45 10
  go_enter Tryd.func22, Tryd.ntmps22
  go_wp2_with fail
  go_ret
  exact ⟨_, rfl, hO.newRow List.mem_cons_self, hO.keep.below⟩
 | some ad =>
  have hsrc := fun (wq : World) (h : Keep [] w wq) => src_boxes (m := l.length) (hv0.keep h) (Nat.le_refl _)
  rw [List.take_length] at hsrc
  have hn : ∀ w, (binOp .eql 29 (.slice (some ad) l.length c) (.slice none 0 0)).run Tryd.prog w = .ok (.bool false) w := fun w => Lib.run_eql_slice_nil w _ 45 _ _ _ _ _ Tryd.underlying29
  go_enter Tryd.func22, Tryd.ntmps22
  go_wp2_with (first | ((with_reducible refine is_build ?_); (refine own_build0 (o := ⟨some 5, _, _, _, _, _⟩) hO (by rfl) rfl slice_Set ?_); clear hO; intro n5 wv hO) | ((with_reducible refine is_append ?_); (refine own_appendA (o := ⟨some 7, _, _, _, _, _⟩) hO rfl rfl slice_Set rfl rfl (hsrc _ hO.keep) (cellsB_one' _) (fun _ => by repeat (exact UpdR.here)) (by (omega)) (by unfold maxLen; (omega)) ?_); clear hO; intro A7 c7 wv hO))
  go_ret
  simp only [Nat.zero_add, List.nil_append] at hO
  exact ⟨_, rfl, hO.newRow List.mem_cons_self, hO.keep.below⟩
def midW (k : Nat) (x : List Bx) (i : Nat) : List Bx := (x.take i).map (wideB k) ++ x.drop i
theorem midW_length (k : Nat) (x : List Bx) (i : Nat) : (midW k x i).length = x.length := by unfold midW; simp; omega
theorem midW_set {k : Nat} {x : List Bx} {i : Nat} (h : i < x.length) : ∀ h', (midW k x i).set i (((midW k x i)[i]'h').set k (fullBx.at k)) = midW k x (i + 1) := by
 intro h'
 have hl : ((x.take i).map (wideB k)).length = i := by simp; omega
 have e : (midW k x i)[i]'h' = x[i] := by
  have : (midW k x i)[i]? = some x[i] := by
   unfold midW
   rw [List.getElem?_append_right (by omega), hl, Nat.sub_self, List.drop_eq_getElem_cons h]; rfl
  rw [List.getElem?_eq_getElem h'] at this
  exact Option.some.inj this
 rw [e]
 unfold midW
 rw [List.set_append_right _ _ (by omega), hl, Nat.sub_self, List.drop_eq_getElem_cons h, List.set_cons_zero, List.take_succ_eq_append_getElem h, List.map_append, List.append_assoc]
 rfl
set_option maxHeartbeats 8000000 in
theorem psFree_any {vl : Value} {l : List Bx} (f : Int) (w : World) (ht : Tops w) (hv : IsBoxes w vl l) (kl : okL l) (hl : l.length ≤ 1000000000000) :
  Calls Tryd.prog 7 #[vl, .int .i64 f] w (SetPost w (freeF l f)) := by
 have hO := own_start [] w
 have h0 := fun w ht hv => set_any (vl := vl) (l := l) w ht hv kl hl
 unfold freeF
 cases hx : setF l with
 | none =>
  rw [hx] at h0
  go_enter Tryd.func7, Tryd.ntmps7
  go_wp2_with (go_at_call 21; (with_reducible refine (h0 _ (hO.tops ht (by simp)) (hv.keep0 hO)).mono ?_); rintro e wv hpo; obtain ⟨rfl, hb9⟩ := hpo.no; replace hO := hO.call hb9; clear hb9 hpo)
  go_ret2
  exact ⟨.slice none 0 0, hO.keep.below, .inr ⟨rfl, rfl⟩⟩
 | some x =>
  rw [hx] at h0
  obtain ⟨x1, x2, x3, _⟩ := setF_ok kl hx
  dsimp only
  have hcl := fun v w hv => cloneS_any (vl := v) (l := x) w hv (by omega)
  have HXX := Lib.hid (show limF (canonF orB 0 5 x []) = some x by rw [canon_self x3]; exact if_pos x2)
  by_cases hr : 0 ≤ f ∧ f < 5
  ·rw [if_pos hr]
   obtain ⟨k, rfl, hk⟩ := nat_of hr.1 hr.2
   rw [Int.toNat_natCast]
   have hw := wide_vL hk x1
   have hcb := fun v w ht hv => comb_any op_either (va := v) (vb := .slice none 0 0) (la := x.map (wideB k)) (lb := []) w ht hv (.inl ⟨rfl, rfl⟩) hw (fun b hb => by cases hb) (by simp; omega) (by simp)
   have htp := fun w ht => top_any k w ht hk
   have y1 : (0 : Int) ≤ (k : Int) := by omega
   have y2 : (k : Int) < 5 := by omega
   have g1 : decide ((0 : Int) ≤ (k : Int)) = true := decide_eq_true y1
   have g2 : decide ((k : Int) < 5) = true := decide_eq_true y2
   have g3 : decide (k < 5) = true := decide_eq_true hk
   have hms := fun i (h : i < x.length) => midW_set (k := k) h
   rw [full_at hk] at hms
   have HMS := Lib.hid hms
   have HMD := Lib.hid (show midW k x x.length = x.map (wideB k) by unfold midW; simp)
   have HM0 := Lib.hid (show midW k x 0 = x by unfold midW; simp)
   clear hx x1 x3 hw hr hms
   generalize canonF orB 0 5 (x.map (wideB k)) [] = D at *
   go_enter Tryd.func7, Tryd.ntmps7
   go_wp2_with (first | (go_at_call 21; (with_reducible refine (h0 _ (hO.tops ht (by simp)) (hv.keep0 hO)).mono ?_); rintro e wv hpo; obtain ⟨v8, rfl, hv9, hb9⟩ := hpo.yes; have hf8 := hv9.form; replace hO := hO.gainAny hb9 hv9; clear hb9 hv9 hpo) | (go_at_call 22; (with_reducible refine (hcl _ _ (hO.isB hf8 (fun q hq => List.mem_append_left _ hq))).mono ?_); rintro e wv ⟨v, rfl, hrow, hb9⟩; replace hO := hO.gainRow hb9 hrow; have hvw := row_view hrow; clear hb9 hrow hcl; obtain ⟨a, c, rfl, ha⟩ := hvw))
   go_loopw [22] (fun q wr => ∃ i : Nat, i ≤ x.length ∧ q = .int .i64 i ∧ Own [] w [] [⟨.slice a x.length c, x.length, cellsB (midW k x i), 45, 10⟩] [] wr) (fun q _ => x.length - (intOf q).toNat)
   case atStart => exact ⟨0, by omega, rfl, by rw [HM0.out]; exact hO.sub (.refl _) (.refl _) (fun _ h => by cases h)⟩
   case round =>
    clear hO
    obtain ⟨i, hi, rfl, hO⟩ := hrel
    have s2 : IntKind.i64.wrap ((i : Int) + 1) = (i : Int) + 1 := IntWalk.i64_in _ (by omega)
    by_cases hlt : i < x.length
    ·obtain ⟨g, rfl⟩ := ha (by omega)
     have hmk : i < (midW k x i).length := by rw [midW_length]; exact hlt
     have hn := cellsB_setAt hmk hk 0 (topOf k)
     rw [HMS.out i hlt hmk] at hn
     have hsz : i * 10 + k * 2 + 2 ≤ (cellsB (midW k x i)).length := by rw [cellsB_length, midW_length]; omega
     clear hmk
     go_wp2_with fail
     refine wp_region_any (by kernel_rfl) ?_
     replace hO := hO.drew
     have ix9 := Ix.mk [0, 1, 2, 3, 6]
     iterate 5 (refine wpAny_tk ix9 ?_; replace ix9 := ix9.tail; (first | go_big_quiet_skip | (go_big_quiet_want; (go_big_quiet_op; (first | go_big_quiet_on | ((refine ⟨_, fun _ _ => rfl, ?_⟩); go_big_quiet_on))))); (refine wpQuiet_nil ?_); (try simp only [Act.put]); (try simp only [sI9, sZ9, sS9]))
     clear ix9
     refine wpAny_1 4 ?_
     rotate_left 1
     all_goals
      refine wpOp_of_listL rfl ?_
      ((refine wpList_step (fun K hK => ?_)); go_simp; ((go_at_call 23; (with_reducible refine (htp _ (hO.tops ht (by simp))).mono ?_); rintro e _ ⟨rfl, rfl⟩); (try simp only []); (refine hK _ _ ?_); clear hK K))
      refine wpList_done (qk_intro ?_)
     have ix9 := Ix.mk [5, 7]
     iterate 2 (refine wpAny_tk ix9 ?_; replace ix9 := ix9.tail; (first | go_big_quiet_skip | (go_big_quiet_want; (go_big_quiet_op; (first | go_big_quiet_on | ((refine ⟨_, fun _ _ => rfl, ?_⟩); go_big_quiet_on))))); (refine wpQuiet_nil ?_); (try simp only [Act.put]); (try simp only [sI9, sZ9, sS9]))
     clear ix9
     refine wpAny_1 8 ?_
     rotate_left 1
     all_goals
      refine wpOp_of_listL rfl ?_
      ((with_reducible refine is_store ?_); (refine own_stRw hO (h := ?_); clear hO; intro wv hO)); (try simp only [Act.put])
      refine wpList_done (qk_intro ?_)
     refine wpAny_done (by kernel_rfl) ?_ _
     rotate_left
     all_goals
      go_wp2_with fail
      go_roundw
      case rel => exact ⟨i + 1, by omega, by go_num, hO⟩
      case measure => simp [intOf]; omega
    ·obtain rfl : i = x.length := by omega
     rw [HMD.out] at hO
     cases hz : limF D with
     | none =>
      rw [hz] at hcb
      have HZ := Lib.hid hz
      clear hz
      go_wp2_with (go_at_call 24; (with_reducible refine (hcb _ _ (hO.tops ht (by simp)) (own_boxes hO List.mem_cons_self)).mono ?_); rintro e wv hpo; obtain ⟨rfl, hb9⟩ := hpo.no; replace hO := hO.call hb9; clear hb9 hpo)
      go_ret2
      exact ⟨.slice none 0 0, hO.keep.below, .inr ⟨HZ.out, rfl⟩⟩
     | some z =>
      rw [hz] at hcb
      have HZ := Lib.hid hz
      clear hz
      go_wp2_with (go_at_call 24; (with_reducible refine (hcb _ _ (hO.tops ht (by simp)) (own_boxes hO List.mem_cons_self)).mono ?_); rintro e wv hpo; obtain ⟨v3, rfl, hv9, hn9, hb9⟩ := hpo.yes; have hs9 := hO.keep.size; have hof := hv9.form; replace hO := hO.gainB hb9 hv9 hn9; clear hb9 hv9 hpo)
      go_ret2
      exact ⟨v3, hO.keep.below, .inl ⟨z, HZ.out, rfl, hO.isB hof (fun q hq => List.mem_append_left _ hq), fun g hg => Nat.le_trans hs9 (hn9 g hg)⟩⟩
  ·rw [if_neg hr]
   have hcb := fun v w ht hv => comb_any op_either (va := v) (vb := .slice none 0 0) (la := x) (lb := []) w ht hv (.inl ⟨rfl, rfl⟩) x1 (fun b hb => by cases hb) (by omega) (by simp)
   rw [HXX.out] at hcb
   have hcs : (decide ((0 : Int) ≤ f) = false) ∨ (decide ((0 : Int) ≤ f) = true ∧ decide (f < 5) = false) := by
    by_cases h : 0 ≤ f
    ·exact .inr ⟨decide_eq_true h, decide_eq_false (by omega)⟩
    ·exact .inl (decide_eq_false h)
   clear hr hx x1 x3
   rcases hcs with g1 | ⟨g1, g2⟩
   all_goals
    go_enter Tryd.func7, Tryd.ntmps7
    go_wp2_with (first | (go_at_call 21; (with_reducible refine (h0 _ (hO.tops ht (by simp)) (hv.keep0 hO)).mono ?_); rintro e wv hpo; obtain ⟨v8, rfl, hv9, hb9⟩ := hpo.yes; have hf8 := hv9.form; replace hO := hO.gainAny hb9 hv9; clear hb9 hv9 hpo) | (go_at_call 22; (with_reducible refine (hcl _ _ (hO.isB hf8 (fun q hq => List.mem_append_left _ hq))).mono ?_); rintro e wv ⟨v, rfl, hrow, hb9⟩; replace hO := hO.gainRow hb9 hrow; have hvw := row_view hrow; clear hb9 hrow hcl; obtain ⟨a, c, rfl, ha⟩ := hvw))
    go_loopw [22] (fun q wr => ∃ i : Nat, i ≤ x.length ∧ q = .int .i64 i ∧ Own [] w [] [⟨.slice a x.length c, x.length, cellsB x, 45, 10⟩] [] wr) (fun q _ => x.length - (intOf q).toNat)
    case atStart => exact ⟨0, by omega, rfl, hO.sub (.refl _) (.refl _) (fun _ h => by cases h)⟩
    case round =>
     clear hO
     obtain ⟨i, hi, rfl, hO⟩ := hrel
     have s2 : IntKind.i64.wrap ((i : Int) + 1) = (i : Int) + 1 := IntWalk.i64_in _ (by omega)
     by_cases hlt : i < x.length
     ·go_wp2_with fail
      go_roundw
      case rel => exact ⟨i + 1, by omega, by go_num, hO⟩
      case measure => simp [intOf]; omega
     ·obtain rfl : i = x.length := by omega
      go_wp2_with (go_at_call 24; (with_reducible refine (hcb _ _ (hO.tops ht (by simp)) (own_boxes hO List.mem_cons_self)).mono ?_); rintro e wv hpo; obtain ⟨v3, rfl, hv9, hn9, hb9⟩ := hpo.yes; have hs9 := hO.keep.size; have hof := hv9.form; replace hO := hO.gainB hb9 hv9 hn9; clear hb9 hv9 hpo)
      go_ret2
      exact ⟨v3, hO.keep.below, .inl ⟨x, rfl, rfl, hO.isB hof (fun q hq => List.mem_append_left _ hq), fun g hg => Nat.le_trans hs9 (hn9 g hg)⟩⟩
end Go.Proofs.YtbdfblgdmappeaaDoor
