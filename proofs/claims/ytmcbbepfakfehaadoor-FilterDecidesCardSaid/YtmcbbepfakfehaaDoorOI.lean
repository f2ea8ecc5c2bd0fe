/- FilterDecides: the walk. -/
import Derived.Deep.CutRange
import Derived.Deep.DeepCutAuto
import Derived.Test.YtmcbbepfakfehaaDoorOG
import Derived.Test.YtmcbbepfakfehaaDoorOF
import Derived.Test.YtmcbbepfakfehaaDoorMB
namespace Go.Proofs.YtmcbbepfakfehaaDoor
open Go.RowKit
set_option maxRecDepth 100000
set_option maxHeartbeats 8000000 in
theorem fdecides_law (sl : Value) (zs : List Int) (vx : Value) (x : List Rul) (h : Hd) (w : World) (ht : Tops w) (hZ : ZsOk sl zs) (hr : ∀ s ∈ roS sl (ints zs), w.rangeAt s.g s.o s.xs) (hvx : IsTable w vx x) (ho : h.ok) :
    Calls Tryd.prog 5 #[sl, vx, hv h] w fun e w' => e = .returned (.bool true) ∧ Below w.heap.size w w' := by
  have hO := (own_law hr).addTable hvx
  clear hr
  obtain ⟨sa, sc, rfl, -⟩ := hZ.view
  have hfx := hvx.form
  go_enter Tryd.func5, Tryd.ntmps5
  go_wp2_with (first | ((with_reducible refine is_load ?_); (first | (refine own_ldT (h := ?_)))) | ((with_reducible refine is_store ?_); (first | (refine own_stRT (hO := hO) (h := ?_); clear hO; intro wv hO) | (refine own_st1T (hO := hO) (h := ?_); clear hO; intro wv hO))) | ((with_reducible refine is_box ?_); (first | (refine own_bx (o := ⟨some 5, _, _, _, _, _⟩) (hO := hO) (h := ?_); clear hO; intro n5 wv hO))) | (go_at_call 9; (with_reducible refine (new_any _ _ _).mono ?_); rintro e wv ⟨n, rfl, hB, hn, hb⟩; replace hO := hO.gain hb hB hn; have hT := hO.tapeIn List.mem_cons_self (by (intro s hs; repeat (first | exact hs | exact List.mem_append_left _ hs | apply List.mem_append_right | apply List.mem_cons_of_mem))) (Nat.zero_le _); clear hb hB hn))
  go_loopg [8] 6 (fun gk q wr => ∃ i i1 : Nat, i ≤ 5 ∧ 6 - i ≤ gk ∧ q = .int .i64 i ∧ i1 ≤ zs.length ∧ Own [] w [⟨n, tcs (.slice sa zs.length sc) i1, 70⟩, ⟨n5, hcs h, 36⟩] [] (roS vx (cellsR x) ++ roS (.slice sa zs.length sc) (ints zs)) wr)
  case atStart => exact ⟨0, _, by omega, by omega, rfl, hT.le, hO⟩
  case round =>
    clear hO hT
    obtain ⟨i, i1, hi, hgk, rfl, hi1, hO⟩ := hrel
    have hT := hO.tapeIn List.mem_cons_self (by intro s hs; repeat (first | exact hs | exact List.mem_append_left _ hs | apply List.mem_append_right | apply List.mem_cons_of_mem)) hi1
    have s1 : IntKind.i64.wrap ((i : Int) + 1) = (i : Int) + 1 := IntWalk.i64_in _ (by omega)
    by_cases hlt : i < 5
    · have g1 : decide ((i : Int) < 5) = true := decide_eq_true (by omega)
      go_wp2_with (first | ((with_reducible refine is_load ?_); (first | (refine own_ldT (h := ?_)))) | ((with_reducible refine is_store ?_); (first | (refine own_stRT (hO := hO) (h := ?_); clear hO; intro wv hO) | (refine own_st1T (hO := hO) (h := ?_); clear hO; intro wv hO))) | ((with_reducible refine is_box ?_); (first | (refine own_bx (o := ⟨some 5, _, _, _, _, _⟩) (hO := hO) (h := ?_); clear hO; intro n5 wv hO))) | (go_at_call 10; (with_reducible refine (ttable_any 5 true hZ (hO.tapeIn (by (repeat (first | exact List.mem_cons_self | refine List.mem_cons_of_mem _ ?_))) (by (intro s hs; repeat (first | exact hs | exact List.mem_append_left _ hs | apply List.mem_append_right | apply List.mem_cons_of_mem))) hT.le) (by omega) (by omega)).mono ?_); rintro e wv ⟨vy, i1, rfl, ⟨y, hv9, hn9, ky, ny⟩, hk9, hT1⟩; have hoff9 := off_of_new hO hn9; replace hO := hO.after (by (repeat (first | exact Upd.here | apply Upd.there))) hk9 hT1.blk; replace hT := hT1; clear hT1 hk9; have hfy := hv9.form; obtain ⟨ay, cy, rfl, hay, hO⟩ := own_offRS hO ⟨hv9, hoff9⟩; clear hv9 hn9 hoff9) | (go_at_call 17; (with_reducible refine (lboxes_any (t := y) _ (hO.isR hfy (by intro q hq; repeat (first | exact hq | exact List.mem_append_left _ hq | apply List.mem_append_right | apply List.mem_cons_of_mem))) (by omega)).mono ?_); rintro e wv ⟨vb, rfl, ⟨hv9, hn9⟩, hb9⟩; have hfb := hv9.form; have hnb : vb.ownBlock ≠ some n := fun e9 => absurd (hn9 _ e9) (Nat.not_le_of_lt hT.blk.lt); have kb : ∀ b ∈ y.map (·.1), b.ok := okT_boxes ky; have nb : (y.map (·.1)).length ≤ 4611686018427387904 := (by rw [List.length_map]; omega); replace hO := hO.gainB hb9 hv9 hn9; replace hT := (hO.tapeIn (by (repeat (first | exact List.mem_cons_self | refine List.mem_cons_of_mem _ ?_))) (by (intro s hs; repeat (first | exact hs | exact List.mem_append_left _ hs | apply List.mem_append_right | apply List.mem_cons_of_mem))) hT.le); clear hb9 hv9 hn9) | (go_at_call 16; (with_reducible refine (near_any vb (y.map (·.1)) hZ (hO.tapeIn (by (repeat (first | exact List.mem_cons_self | refine List.mem_cons_of_mem _ ?_))) (by (intro s hs; repeat (first | exact hs | exact List.mem_append_left _ hs | apply List.mem_append_right | apply List.mem_cons_of_mem))) hT.le) (hO.isB hfb (by intro q hq; repeat (first | exact hq | exact List.mem_append_left _ hq | apply List.mem_append_right | apply List.mem_cons_of_mem))) hnb kb nb).mono ?_); rintro e wv ⟨v, i1, rfl, hv9, hk9, hT1⟩; replace hO := hO.after (by (repeat (first | exact Upd.here | apply Upd.there))) hk9 hT1.blk; replace hT := hT1; clear hT1 hk9; obtain ⟨h1, rfl, kh1⟩ := hv9) | (go_at_call 21; (with_reducible refine (decides_any h1 _ (hO.tops ht (by simp)) kh1 (hO.isR hfy (by intro q hq; repeat (first | exact hq | exact List.mem_append_left _ hq | apply List.mem_append_right | apply List.mem_cons_of_mem))) (by omega)).mono ?_); rintro e wv ⟨rfl, hb9⟩; replace hO := hO.call hb9; replace hT := (hO.tapeIn (by (repeat (first | exact List.mem_cons_self | refine List.mem_cons_of_mem _ ?_))) (by (intro s hs; repeat (first | exact hs | exact List.mem_append_left _ hs | apply List.mem_append_right | apply List.mem_cons_of_mem))) hT.le); clear hb9))
      go_roundg (5 - i)
      case measure => omega
      case rel => exact ⟨i + 1, _, by omega, by omega, by go_num, hT.le, hO.sub (.refl _) (.refl _) (fun q hq => List.mem_append_right _ (List.mem_append_right _ hq))⟩
    · have g1 : decide ((i : Int) < 5) = false := decide_eq_false (by omega)
      clear hZ
      rcases hfx with ⟨he, hx⟩ | ⟨g, o, c, he, hc⟩
      · subst he
        subst hx
        have hz : min (0 : Int) 100 = 0 := rfl
        have hnil : ∀ wq, IsTable wq (.slice none 0 0) [] := fun _ => .inl ⟨rfl, rfl⟩
        go_wp2_with (first | ((with_reducible refine is_load ?_); (first | (refine own_ldT (h := ?_)))) | ((with_reducible refine is_store ?_); (first | (refine own_stRT (hO := hO) (h := ?_); clear hO; intro wv hO) | (refine own_st1T (hO := hO) (h := ?_); clear hO; intro wv hO))) | ((with_reducible refine is_box ?_); (first | (refine own_bx (o := ⟨some 5, _, _, _, _, _⟩) (hO := hO) (h := ?_); clear hO; intro n5 wv hO))))
        (try simp only [Act.put]); (try simp only [List.setIfInBounds_toArray, List.set_cons_zero, List.set_cons_succ])
        refine wp_region_any (by kernel_rfl) ?_
        replace hO := hO.drew
        have ix9 := Ix.mk [0, 1, 2, 3, 4]
        iterate 5 (refine wpAny_tk ix9 ?_; replace ix9 := ix9.tail; (first | go_big_quiet_skip | (go_big_quiet_want; (go_big_quiet_op; (first | go_big_quiet_on | ((refine ⟨_, fun _ _ => rfl, ?_⟩); go_big_quiet_on))))); (refine wpQuiet_nil ?_); (try simp only [Act.put]); (try simp only [List.setIfInBounds_toArray, List.set_cons_zero, List.set_cons_succ]))
        clear ix9
        refine wpAny_all (rs := [5]) (by kernel_rfl) (by simp) (ord_cons ?_ ord_nil)
        rotate_left 1
        all_goals
          refine wpOp_of_listL rfl ?_
          (first | ((with_reducible refine is_load ?_); (first | (refine own_ldT (h := ?_)))) | ((with_reducible refine is_store ?_); (first | (refine own_stRT (hO := hO) (h := ?_); clear hO; intro wv hO) | (refine own_st1T (hO := hO) (h := ?_); clear hO; intro wv hO))) | ((refine wpList_step (fun K hK => ?_)); go_simp; (first | ((refine hK _ _ ?_); clear hK K) | ((first | (go_at_call 21; (with_reducible refine (decides_any (t := []) h _ (hO.tops ht (by simp)) ho (hnil _) (by simp)).mono ?_); rintro e wv ⟨rfl, hb9⟩; replace hO := hO.call hb9; clear hb9) | (go_at_call 14; (with_reducible refine (sane8_any _ (hO.tops ht (by simp))).mono ?_); rintro e wv ⟨rfl, hb9⟩; replace hO := hO.call hb9; clear hb9)); (try simp only []); (refine hK _ _ ?_); clear hK K)))); (try simp only [Act.put]); (try simp only [List.setIfInBounds_toArray, List.set_cons_zero, List.set_cons_succ])
          refine wpList_done (qk_intro ?_)
        refine wpAny_all (rs := [6]) (by kernel_rfl) (by simp) (ord_cons ?_ ord_nil)
        rotate_left 1
        all_goals
          refine wpOp_of_listL rfl ?_
          (first | ((with_reducible refine is_load ?_); (first | (refine own_ldT (h := ?_)))) | ((with_reducible refine is_store ?_); (first | (refine own_stRT (hO := hO) (h := ?_); clear hO; intro wv hO) | (refine own_st1T (hO := hO) (h := ?_); clear hO; intro wv hO))) | ((refine wpList_step (fun K hK => ?_)); go_simp; (first | ((refine hK _ _ ?_); clear hK K) | ((first | (go_at_call 21; (with_reducible refine (decides_any (t := []) h _ (hO.tops ht (by simp)) ho (hnil _) (by simp)).mono ?_); rintro e wv ⟨rfl, hb9⟩; replace hO := hO.call hb9; clear hb9) | (go_at_call 14; (with_reducible refine (sane8_any _ (hO.tops ht (by simp))).mono ?_); rintro e wv ⟨rfl, hb9⟩; replace hO := hO.call hb9; clear hb9)); (try simp only []); (refine hK _ _ ?_); clear hK K)))); (try simp only [Act.put]); (try simp only [List.setIfInBounds_toArray, List.set_cons_zero, List.set_cons_succ])
          refine wpList_done (qk_intro ?_)
        refine wpAny_tk (Ix.mk [7]) ?_
        (first | go_big_quiet_skip | (go_big_quiet_want; (go_big_quiet_op; (first | go_big_quiet_on | ((refine ⟨_, fun _ _ => rfl, ?_⟩); go_big_quiet_on))))); (refine wpQuiet_nil ?_); (try simp only [Act.put]); (try simp only [List.setIfInBounds_toArray, List.set_cons_zero, List.set_cons_succ])
        refine wpAny_all (rs := [8]) (by kernel_rfl) (by simp) (ord_cons ?_ ord_nil)
        rotate_left 1
        all_goals
          refine wpOp_of_listL rfl ?_
          (first | ((with_reducible refine is_load ?_); (first | (refine own_ldT (h := ?_)))) | ((with_reducible refine is_store ?_); (first | (refine own_stRT (hO := hO) (h := ?_); clear hO; intro wv hO) | (refine own_st1T (hO := hO) (h := ?_); clear hO; intro wv hO))) | ((refine wpList_step (fun K hK => ?_)); go_simp; (first | ((refine hK _ _ ?_); clear hK K) | ((first | (go_at_call 21; (with_reducible refine (decides_any (t := []) h _ (hO.tops ht (by simp)) ho (hnil _) (by simp)).mono ?_); rintro e wv ⟨rfl, hb9⟩; replace hO := hO.call hb9; clear hb9) | (go_at_call 14; (with_reducible refine (sane8_any _ (hO.tops ht (by simp))).mono ?_); rintro e wv ⟨rfl, hb9⟩; replace hO := hO.call hb9; clear hb9)); (try simp only []); (refine hK _ _ ?_); clear hK K)))); (try simp only [Act.put]); (try simp only [List.setIfInBounds_toArray, List.set_cons_zero, List.set_cons_succ])
          refine wpList_done (qk_intro ?_)
        refine wpAny_tk (Ix.mk [9]) ?_
        (first | go_big_quiet_skip | (go_big_quiet_want; (go_big_quiet_op; (first | go_big_quiet_on | ((refine ⟨_, fun _ _ => rfl, ?_⟩); go_big_quiet_on))))); (refine wpQuiet_nil ?_); (try simp only [Act.put]); (try simp only [List.setIfInBounds_toArray, List.set_cons_zero, List.set_cons_succ])
        refine wpAny_all (rs := [10]) (by kernel_rfl) (by simp) (ord_cons ?_ ord_nil)
        rotate_left 1
        all_goals
          refine wpOp_of_listL rfl ?_
          (first | ((with_reducible refine is_load ?_); (first | (refine own_ldT (h := ?_)))) | ((with_reducible refine is_store ?_); (first | (refine own_stRT (hO := hO) (h := ?_); clear hO; intro wv hO) | (refine own_st1T (hO := hO) (h := ?_); clear hO; intro wv hO))) | ((refine wpList_step (fun K hK => ?_)); go_simp; (first | ((refine hK _ _ ?_); clear hK K) | ((first | (go_at_call 21; (with_reducible refine (decides_any (t := []) h _ (hO.tops ht (by simp)) ho (hnil _) (by simp)).mono ?_); rintro e wv ⟨rfl, hb9⟩; replace hO := hO.call hb9; clear hb9) | (go_at_call 14; (with_reducible refine (sane8_any _ (hO.tops ht (by simp))).mono ?_); rintro e wv ⟨rfl, hb9⟩; replace hO := hO.call hb9; clear hb9)); (try simp only []); (refine hK _ _ ?_); clear hK K)))); (try simp only [Act.put]); (try simp only [List.setIfInBounds_toArray, List.set_cons_zero, List.set_cons_succ])
          refine wpList_done (qk_intro ?_)
        refine wpAny_done (by kernel_rfl) ?_ _
        rotate_left
        all_goals
          go_wp2_with fail
          go_ret
          exact ⟨rfl, hO.keep.below⟩
      · subst he
        have hm : ∀ (k : Nat), k ≤ x.length → ∀ (wq : World) (X' : List Chunk) (R' : List Row), Own [] w X' R' (roS (.slice (some ⟨g, o, none⟩) x.length c) (cellsR x) ++ roS (.slice sa zs.length sc) (ints zs)) wq → IsTable wq (.slice (some ⟨g, o, none⟩) k c) (x.take k) := fun k hk wq X' R' h => by
          have h1 := (h.isR (.inr ⟨g, o, c, rfl, hc⟩) (fun q hq => List.mem_append_left _ hq) : IsTable wq (.slice (some ⟨g, o, none⟩) x.length c) x).part 0 k c (by omega) (by omega)
          simpa using h1
        by_cases h100 : x.length ≤ 100
        · have hz : min (x.length : Int) 100 = (x.length : Int) := by omega
          have hc1 : x.length ≤ c := hc
          go_wp2_with (first | ((with_reducible refine is_load ?_); (first | (refine own_ldT (h := ?_)))) | ((with_reducible refine is_store ?_); (first | (refine own_stRT (hO := hO) (h := ?_); clear hO; intro wv hO) | (refine own_st1T (hO := hO) (h := ?_); clear hO; intro wv hO))) | ((with_reducible refine is_box ?_); (first | (refine own_bx (o := ⟨some 5, _, _, _, _, _⟩) (hO := hO) (h := ?_); clear hO; intro n5 wv hO))))
          (try simp only [Act.put]); (try simp only [List.setIfInBounds_toArray, List.set_cons_zero, List.set_cons_succ])
          refine wp_region_any (by kernel_rfl) ?_
          replace hO := hO.drew
          have ix9 := Ix.mk [0, 1, 2, 3, 4]
          iterate 5 (refine wpAny_tk ix9 ?_; replace ix9 := ix9.tail; (first | go_big_quiet_skip | (go_big_quiet_want; (go_big_quiet_op; (first | go_big_quiet_on | ((refine ⟨_, fun _ _ => rfl, ?_⟩); go_big_quiet_on))))); (refine wpQuiet_nil ?_); (try simp only [Act.put]); (try simp only [List.setIfInBounds_toArray, List.set_cons_zero, List.set_cons_succ]))
          clear ix9
          refine wpAny_all (rs := [5]) (by kernel_rfl) (by simp) (ord_cons ?_ ord_nil)
          rotate_left 1
          all_goals
            refine wpOp_of_listL rfl ?_
            (first | ((with_reducible refine is_load ?_); (first | (refine own_ldT (h := ?_)))) | ((with_reducible refine is_store ?_); (first | (refine own_stRT (hO := hO) (h := ?_); clear hO; intro wv hO) | (refine own_st1T (hO := hO) (h := ?_); clear hO; intro wv hO))) | ((refine wpList_step (fun K hK => ?_)); go_simp; (first | ((refine hK _ _ ?_); clear hK K) | ((first | (go_at_call 21; (with_reducible refine (decides_any (t := x.take x.length) h _ (hO.tops ht (by simp)) ho (hm _ (Nat.le_refl _) _ _ _ hO) (by simp; omega)).mono ?_); rintro e wv ⟨rfl, hb9⟩; replace hO := hO.call hb9; clear hb9) | (go_at_call 14; (with_reducible refine (sane8_any _ (hO.tops ht (by simp))).mono ?_); rintro e wv ⟨rfl, hb9⟩; replace hO := hO.call hb9; clear hb9)); (try simp only []); (refine hK _ _ ?_); clear hK K)))); (try simp only [Act.put]); (try simp only [List.setIfInBounds_toArray, List.set_cons_zero, List.set_cons_succ])
            refine wpList_done (qk_intro ?_)
          refine wpAny_all (rs := [6]) (by kernel_rfl) (by simp) (ord_cons ?_ ord_nil)
          rotate_left 1
          all_goals
            refine wpOp_of_listL rfl ?_
            (first | ((with_reducible refine is_load ?_); (first | (refine own_ldT (h := ?_)))) | ((with_reducible refine is_store ?_); (first | (refine own_stRT (hO := hO) (h := ?_); clear hO; intro wv hO) | (refine own_st1T (hO := hO) (h := ?_); clear hO; intro wv hO))) | ((refine wpList_step (fun K hK => ?_)); go_simp; (first | ((refine hK _ _ ?_); clear hK K) | ((first | (go_at_call 21; (with_reducible refine (decides_any (t := x.take x.length) h _ (hO.tops ht (by simp)) ho (hm _ (Nat.le_refl _) _ _ _ hO) (by simp; omega)).mono ?_); rintro e wv ⟨rfl, hb9⟩; replace hO := hO.call hb9; clear hb9) | (go_at_call 14; (with_reducible refine (sane8_any _ (hO.tops ht (by simp))).mono ?_); rintro e wv ⟨rfl, hb9⟩; replace hO := hO.call hb9; clear hb9)); (try simp only []); (refine hK _ _ ?_); clear hK K)))); (try simp only [Act.put]); (try simp only [List.setIfInBounds_toArray, List.set_cons_zero, List.set_cons_succ])
            refine wpList_done (qk_intro ?_)
          refine wpAny_tk (Ix.mk [7]) ?_
          (first | go_big_quiet_skip | (go_big_quiet_want; (go_big_quiet_op; (first | go_big_quiet_on | ((refine ⟨_, fun _ _ => rfl, ?_⟩); go_big_quiet_on))))); (refine wpQuiet_nil ?_); (try simp only [Act.put]); (try simp only [List.setIfInBounds_toArray, List.set_cons_zero, List.set_cons_succ])
          refine wpAny_all (rs := [8]) (by kernel_rfl) (by simp) (ord_cons ?_ ord_nil)
          rotate_left 1
          all_goals
            refine wpOp_of_listL rfl ?_
            (first | ((with_reducible refine is_load ?_); (first | (refine own_ldT (h := ?_)))) | ((with_reducible refine is_store ?_); (first | (refine own_stRT (hO := hO) (h := ?_); clear hO; intro wv hO) | (refine own_st1T (hO := hO) (h := ?_); clear hO; intro wv hO))) | ((refine wpList_step (fun K hK => ?_)); go_simp; (first | ((refine hK _ _ ?_); clear hK K) | ((first | (go_at_call 21; (with_reducible refine (decides_any (t := x.take x.length) h _ (hO.tops ht (by simp)) ho (hm _ (Nat.le_refl _) _ _ _ hO) (by simp; omega)).mono ?_); rintro e wv ⟨rfl, hb9⟩; replace hO := hO.call hb9; clear hb9) | (go_at_call 14; (with_reducible refine (sane8_any _ (hO.tops ht (by simp))).mono ?_); rintro e wv ⟨rfl, hb9⟩; replace hO := hO.call hb9; clear hb9)); (try simp only []); (refine hK _ _ ?_); clear hK K)))); (try simp only [Act.put]); (try simp only [List.setIfInBounds_toArray, List.set_cons_zero, List.set_cons_succ])
            refine wpList_done (qk_intro ?_)
          refine wpAny_tk (Ix.mk [9]) ?_
          (first | go_big_quiet_skip | (go_big_quiet_want; (go_big_quiet_op; (first | go_big_quiet_on | ((refine ⟨_, fun _ _ => rfl, ?_⟩); go_big_quiet_on))))); (refine wpQuiet_nil ?_); (try simp only [Act.put]); (try simp only [List.setIfInBounds_toArray, List.set_cons_zero, List.set_cons_succ])
          refine wpAny_all (rs := [10]) (by kernel_rfl) (by simp) (ord_cons ?_ ord_nil)
          rotate_left 1
          all_goals
            refine wpOp_of_listL rfl ?_
            (first | ((with_reducible refine is_load ?_); (first | (refine own_ldT (h := ?_)))) | ((with_reducible refine is_store ?_); (first | (refine own_stRT (hO := hO) (h := ?_); clear hO; intro wv hO) | (refine own_st1T (hO := hO) (h := ?_); clear hO; intro wv hO))) | ((refine wpList_step (fun K hK => ?_)); go_simp; (first | ((refine hK _ _ ?_); clear hK K) | ((first | (go_at_call 21; (with_reducible refine (decides_any (t := x.take x.length) h _ (hO.tops ht (by simp)) ho (hm _ (Nat.le_refl _) _ _ _ hO) (by simp; omega)).mono ?_); rintro e wv ⟨rfl, hb9⟩; replace hO := hO.call hb9; clear hb9) | (go_at_call 14; (with_reducible refine (sane8_any _ (hO.tops ht (by simp))).mono ?_); rintro e wv ⟨rfl, hb9⟩; replace hO := hO.call hb9; clear hb9)); (try simp only []); (refine hK _ _ ?_); clear hK K)))); (try simp only [Act.put]); (try simp only [List.setIfInBounds_toArray, List.set_cons_zero, List.set_cons_succ])
            refine wpList_done (qk_intro ?_)
          refine wpAny_done (by kernel_rfl) ?_ _
          rotate_left
          all_goals
            go_wp2_with fail
            go_ret
            exact ⟨rfl, hO.keep.below⟩
        · have hz : min (x.length : Int) 100 = 100 := by omega
          have hc1 : 100 ≤ c := by omega
          go_wp2_with (first | ((with_reducible refine is_load ?_); (first | (refine own_ldT (h := ?_)))) | ((with_reducible refine is_store ?_); (first | (refine own_stRT (hO := hO) (h := ?_); clear hO; intro wv hO) | (refine own_st1T (hO := hO) (h := ?_); clear hO; intro wv hO))) | ((with_reducible refine is_box ?_); (first | (refine own_bx (o := ⟨some 5, _, _, _, _, _⟩) (hO := hO) (h := ?_); clear hO; intro n5 wv hO))))
          (try simp only [Act.put]); (try simp only [List.setIfInBounds_toArray, List.set_cons_zero, List.set_cons_succ])
          refine wp_region_any (by kernel_rfl) ?_
          replace hO := hO.drew
          have ix9 := Ix.mk [0, 1, 2, 3, 4]
          iterate 5 (refine wpAny_tk ix9 ?_; replace ix9 := ix9.tail; (first | go_big_quiet_skip | (go_big_quiet_want; (go_big_quiet_op; (first | go_big_quiet_on | ((refine ⟨_, fun _ _ => rfl, ?_⟩); go_big_quiet_on))))); (refine wpQuiet_nil ?_); (try simp only [Act.put]); (try simp only [List.setIfInBounds_toArray, List.set_cons_zero, List.set_cons_succ]))
          clear ix9
          refine wpAny_all (rs := [5]) (by kernel_rfl) (by simp) (ord_cons ?_ ord_nil)
          rotate_left 1
          all_goals
            refine wpOp_of_listL rfl ?_
            (first | ((with_reducible refine is_load ?_); (first | (refine own_ldT (h := ?_)))) | ((with_reducible refine is_store ?_); (first | (refine own_stRT (hO := hO) (h := ?_); clear hO; intro wv hO) | (refine own_st1T (hO := hO) (h := ?_); clear hO; intro wv hO))) | ((refine wpList_step (fun K hK => ?_)); go_simp; (first | ((refine hK _ _ ?_); clear hK K) | ((first | (go_at_call 21; (with_reducible refine (decides_any (t := x.take 100) h _ (hO.tops ht (by simp)) ho (hm 100 (by omega) _ _ _ hO) (by rw [List.length_take]; omega)).mono ?_); rintro e wv ⟨rfl, hb9⟩; replace hO := hO.call hb9; clear hb9) | (go_at_call 14; (with_reducible refine (sane8_any _ (hO.tops ht (by simp))).mono ?_); rintro e wv ⟨rfl, hb9⟩; replace hO := hO.call hb9; clear hb9)); (try simp only []); (refine hK _ _ ?_); clear hK K)))); (try simp only [Act.put]); (try simp only [List.setIfInBounds_toArray, List.set_cons_zero, List.set_cons_succ])
            refine wpList_done (qk_intro ?_)
          refine wpAny_all (rs := [6]) (by kernel_rfl) (by simp) (ord_cons ?_ ord_nil)
          rotate_left 1
          all_goals
            refine wpOp_of_listL rfl ?_
            (first | ((with_reducible refine is_load ?_); (first | (refine own_ldT (h := ?_)))) | ((with_reducible refine is_store ?_); (first | (refine own_stRT (hO := hO) (h := ?_); clear hO; intro wv hO) | (refine own_st1T (hO := hO) (h := ?_); clear hO; intro wv hO))) | ((refine wpList_step (fun K hK => ?_)); go_simp; (first | ((refine hK _ _ ?_); clear hK K) | ((first | (go_at_call 21; (with_reducible refine (decides_any (t := x.take 100) h _ (hO.tops ht (by simp)) ho (hm 100 (by omega) _ _ _ hO) (by rw [List.length_take]; omega)).mono ?_); rintro e wv ⟨rfl, hb9⟩; replace hO := hO.call hb9; clear hb9) | (go_at_call 14; (with_reducible refine (sane8_any _ (hO.tops ht (by simp))).mono ?_); rintro e wv ⟨rfl, hb9⟩; replace hO := hO.call hb9; clear hb9)); (try simp only []); (refine hK _ _ ?_); clear hK K)))); (try simp only [Act.put]); (try simp only [List.setIfInBounds_toArray, List.set_cons_zero, List.set_cons_succ])
            refine wpList_done (qk_intro ?_)
          refine wpAny_tk (Ix.mk [7]) ?_
          (first | go_big_quiet_skip | (go_big_quiet_want; (go_big_quiet_op; (first | go_big_quiet_on | ((refine ⟨_, fun _ _ => rfl, ?_⟩); go_big_quiet_on))))); (refine wpQuiet_nil ?_); (try simp only [Act.put]); (try simp only [List.setIfInBounds_toArray, List.set_cons_zero, List.set_cons_succ])
          refine wpAny_all (rs := [8]) (by kernel_rfl) (by simp) (ord_cons ?_ ord_nil)
          rotate_left 1
          all_goals
            refine wpOp_of_listL rfl ?_
            (first | ((with_reducible refine is_load ?_); (first | (refine own_ldT (h := ?_)))) | ((with_reducible refine is_store ?_); (first | (refine own_stRT (hO := hO) (h := ?_); clear hO; intro wv hO) | (refine own_st1T (hO := hO) (h := ?_); clear hO; intro wv hO))) | ((refine wpList_step (fun K hK => ?_)); go_simp; (first | ((refine hK _ _ ?_); clear hK K) | ((first | (go_at_call 21; (with_reducible refine (decides_any (t := x.take 100) h _ (hO.tops ht (by simp)) ho (hm 100 (by omega) _ _ _ hO) (by rw [List.length_take]; omega)).mono ?_); rintro e wv ⟨rfl, hb9⟩; replace hO := hO.call hb9; clear hb9) | (go_at_call 14; (with_reducible refine (sane8_any _ (hO.tops ht (by simp))).mono ?_); rintro e wv ⟨rfl, hb9⟩; replace hO := hO.call hb9; clear hb9)); (try simp only []); (refine hK _ _ ?_); clear hK K)))); (try simp only [Act.put]); (try simp only [List.setIfInBounds_toArray, List.set_cons_zero, List.set_cons_succ])
            refine wpList_done (qk_intro ?_)
          refine wpAny_tk (Ix.mk [9]) ?_
          (first | go_big_quiet_skip | (go_big_quiet_want; (go_big_quiet_op; (first | go_big_quiet_on | ((refine ⟨_, fun _ _ => rfl, ?_⟩); go_big_quiet_on))))); (refine wpQuiet_nil ?_); (try simp only [Act.put]); (try simp only [List.setIfInBounds_toArray, List.set_cons_zero, List.set_cons_succ])
          refine wpAny_all (rs := [10]) (by kernel_rfl) (by simp) (ord_cons ?_ ord_nil)
          rotate_left 1
          all_goals
            refine wpOp_of_listL rfl ?_
            (first | ((with_reducible refine is_load ?_); (first | (refine own_ldT (h := ?_)))) | ((with_reducible refine is_store ?_); (first | (refine own_stRT (hO := hO) (h := ?_); clear hO; intro wv hO) | (refine own_st1T (hO := hO) (h := ?_); clear hO; intro wv hO))) | ((refine wpList_step (fun K hK => ?_)); go_simp; (first | ((refine hK _ _ ?_); clear hK K) | ((first | (go_at_call 21; (with_reducible refine (decides_any (t := x.take 100) h _ (hO.tops ht (by simp)) ho (hm 100 (by omega) _ _ _ hO) (by rw [List.length_take]; omega)).mono ?_); rintro e wv ⟨rfl, hb9⟩; replace hO := hO.call hb9; clear hb9) | (go_at_call 14; (with_reducible refine (sane8_any _ (hO.tops ht (by simp))).mono ?_); rintro e wv ⟨rfl, hb9⟩; replace hO := hO.call hb9; clear hb9)); (try simp only []); (refine hK _ _ ?_); clear hK K)))); (try simp only [Act.put]); (try simp only [List.setIfInBounds_toArray, List.set_cons_zero, List.set_cons_succ])
            refine wpList_done (qk_intro ?_)
          refine wpAny_done (by kernel_rfl) ?_ _
          rotate_left
          all_goals
            go_wp2_with fail
            go_ret
            exact ⟨rfl, hO.keep.below⟩
end Go.Proofs.YtmcbbepfakfehaaDoor
