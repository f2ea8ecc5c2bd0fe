/- PacketsetFree: the walk. -/
import Derived.Deep.CutRange
import Derived.Deep.DeepCutAuto
import Derived.Test.YtbdfblgdmappeaaDoorTE
import Derived.Test.YtbdfblgdmappeaaDoorRA
import Derived.Test.YtbdfblgdmappeaaDoorMB
import Derived.Test.YtbdfblgdmappeaaDoorMS
import Derived.Test.YtbdfblgdmappeaaDoorPA
namespace Go.Proofs.YtbdfblgdmappeaaDoor
open Go.RowKit
set_option maxRecDepth 100000
theorem any_take1 {α : Type} {g : α → Bool} {l : List α} {k : Nat} (h : k < l.length) : (l.take (k + 1)).any g = ((l.take k).any g || g l[k]) := by
 rw [List.take_succ_eq_append_getElem h, List.any_append, List.any_cons, List.any_nil, Bool.or_false]
theorem free_mod (v : Int) : ∃ K : Nat, K < 5 ∧ ∀ w, Calls Tryd.prog 6 #[.int .i64 v, .int .i64 5] w fun e w' => e = .returned (.int .i64 (K : Int)) ∧ w = w' := by
 obtain ⟨r0, r1⟩ := modI_bd v (show (0 : Int) < 5 by omega)
 exact ⟨(modI v 5).toNat, by omega, fun w => by rw [Int.toNat_of_nonneg r0]; exact mod_is v 5 w (by omega) (by omega)⟩
set_option maxHeartbeats 32000000 in
theorem psfree_law (sl : Value) (zs : List Int) (f v : Int) (w : World) (ht : Tops w) (hZ : ZsOk sl zs) (hr : ∀ s ∈ roS sl (ints zs), w.rangeAt s.g s.o s.xs) (v0 : 0 ≤ v) (_v1 : v ≤ 4294967295) :
  Calls Tryd.prog 3 #[sl, .int .i64 f, .int .u32 v] w fun e w' => e = .returned (.bool true) ∧ Below w.heap.size w w' := by
 have hO := own_law hr
 clear hr
 obtain ⟨sa, sc, rfl, -⟩ := hZ.view
 obtain ⟨k, hk, hmod⟩ := free_mod f
 have hfull := rfull_any
 go_enter Tryd.func3, Tryd.ntmps3
 go_upto_region 4 with (first | (go_at_call 4; (with_reducible refine (new_any _ _ _).mono ?_); rintro e wv ⟨n, rfl, hB, hn, hb⟩; replace hO := hO.gain hb hB hn; have hT := hO.tapeIn List.mem_cons_self (fun _ h => h) (Nat.zero_le _); clear hb hB hn) | (go_at_call 5; (with_reducible refine (tboxes_any 4 true hZ (hO.tapeIn List.mem_cons_self (fun _ h => h) hT.le) (by omega) (by omega)).mono ?_); rintro e wv ⟨vl, i1, rfl, ⟨l, hv9, hn9, kb9, nb, -⟩, hk9, hT1⟩; have kl : okL l := kb9; have hnnl : vl.ownBlock ≠ some n := fun e9 => absurd (hn9 _ e9) (Nat.not_le_of_lt hT.blk.lt); have hoff9 := off_of_new hO hn9; replace hO := hO.after (by (repeat (exact Upd.here))) hk9 hT1.blk; replace hT := hT1; clear hT1 hk9; have hfl := hv9.form; obtain ⟨al, cl, rfl, hal, hO⟩ := own_offS hO ⟨hv9, hoff9⟩; clear hv9 hn9 hoff9) | (go_at_call 6; refine (hmod _).mono ?_; rintro e _ ⟨rfl, rfl⟩))
 cases hF : freeF l k with
 | none =>
  have hfr : ∀ w, Tops w → IsBoxes w (.slice al l.length cl) l → Calls Tryd.prog 7 #[.slice al l.length cl, .int .i64 k] w fun e w' => e = .returned (.tuple #[.slice none 0 0, .int .i64 3]) ∧ Below w.heap.size w w' := fun w ht hv => (psFree_any k w ht hv kl (by omega)).mono fun e w' h => by
   rw [hF] at h; exact h.no
  clear hF
  go_wp2_with (first | (go_at_call 7; (with_reducible refine (hfr _ (hO.tops ht (by simp)) (hO.isB hfl (by intro q hq; repeat (exact List.mem_append_left _ hq)))).mono ?_); rintro e wv ⟨rfl, hb9⟩; replace hO := hO.call hb9; replace hT := (hO.tapeIn List.mem_cons_self (by (intro s hs; repeat (first | exact hs | apply List.mem_append_right))) hT.le); clear hb9 hfr) | (go_at_call 8; refine (sane4_any _ (hO.tops ht (by simp))).mono ?_; rintro e wv ⟨rfl, hb⟩; replace hO := hO.call hb; clear hb))
  go_ret
  exact ⟨rfl, hO.keep.below⟩
 | some s =>
  have hfr : ∀ w, Tops w → IsBoxes w (.slice al l.length cl) l → Calls Tryd.prog 7 #[.slice al l.length cl, .int .i64 k] w fun e w' => ∃ v, e = .returned (.tuple #[v, .int .i64 0]) ∧ IsBoxes w' v s ∧ NewFrom w v ∧ Below w.heap.size w w' := fun w ht hv => (psFree_any k w ht hv kl (by omega)).mono fun e w' h => by
   rw [hF] at h; exact h.yes
  go_upto_region 8 with (first | (refine stN hO ?_; clear hO; intro wv hO) | (refine al9 12 hO ?_; clear hO; intro n12 wv hO) | (go_at_call 7; (with_reducible refine (hfr _ (hO.tops ht (by simp)) (hO.isB hfl (by intro q hq; repeat (exact List.mem_append_left _ hq)))).mono ?_); rintro e wv ⟨vs, rfl, hv9, hn9, hb9⟩; have hfs := hv9.form; replace hO := hO.gainB hb9 hv9 hn9; replace hT := (hO.tapeIn List.mem_cons_self (by (intro s hs; repeat (first | exact hs | apply List.mem_append_right))) hT.le); clear hb9 hv9 hn9 hfr) | (go_at_call 9; (with_reducible refine (near_any _ l hZ (hO.tapeIn List.mem_cons_self (by (intro s hs; repeat (first | exact hs | apply List.mem_append_right))) hT.le) (hO.isB hfl (by intro q hq; repeat (first | exact List.mem_append_left _ hq | apply List.mem_append_right))) hnnl kb9 (by omega)).mono ?_); rintro e wv ⟨v9, i1, rfl, ⟨h, rfl, ho⟩, hk9, hT1⟩; replace hO := hO.after (by (repeat (exact Upd.here))) hk9 hT1.blk; replace hT := hT1; clear hT1 hk9))
  have hwi := fun w => rwith_all h k v w ho v0
  have hWo := withHd_ok ho k v0
  obtain ⟨p1, p2, p3, p4⟩ := free_in (v := v) kl hk hF ho v0
  have ns := (free_spec kl hk hF).2.1
  have hpj := fun w ht hv => psproject_any (vl := .slice al l.length cl) (l := l) k w ht hv kl (by omega)
  have npj := projF_len (l := l) (f := k) kl (by omega)
  have htop := fun w => rtop_any k w hk
  have hcn := fun v9 w hv => rctn_any (vl := v9) (l := projF l k) v w hv npj
  have hc1 := fun w ht hv => psContains_any (vl := .slice al l.length cl) (l := l) (withHd h k v) w ht hWo hv (by omega)
  have hc2 := fun v9 w ht hv => psContains_any (vl := v9) (l := s) h w ht ho hv (by omega)
  have hc3 := fun v9 w ht hv => psContains_any (vl := v9) (l := s) (withHd h k v) w ht hWo hv (by omega)
  rw [p2] at hc3
  have HO := Lib.hid ho
  have P1 := Lib.hid p1
  have P3 := Lib.hid p3
  have P4 := Lib.hid p4
  clear p1 p2 p3 p4 hF npj
  generalize l.any (hasH (withHd h k v)) = bI at *
  generalize hbS : s.any (hasH h) = bS at *
  clear hbS
  generalize withHd h k v = hW at *
  have y1 : (0 : Int) ≤ (k : Int) := by omega
  have y2 : (k : Int) < 5 := by omega
  have e1 : (bS != bS) = false := by simp
  have e2 : (bS == bS) = true := by simp
  have hix := idx_box fullBx hk
  have HL := Lib.hid (fun (i : Nat) (hi : i < l.length) => any_take1 (g := fun b => vld b && hasB (wideB k b) h) hi)
  have hct0 := fun (b : Bx) (w : World) => rcontains_any (b.set k ⟨(fullBx.at k).lo, (fullBx.at k).hi⟩) h w ho
  have HW := Lib.hid (fun b : Bx => show hasB (wideB k b) h = hasB (b.set k ⟨(fullBx.at k).lo, (fullBx.at k).hi⟩) h from rfl)
  generalize fullBx = bF at *
  have hcase : bI = false ∨ bI = true ∧ bS = true := by
   cases bI
   ·exact .inl rfl
   ·exact .inr ⟨rfl, P1.out rfl⟩
  clear ho
  go_upto_region 9 with (first | refine ldN ?_ | (go_at_call 11; (with_reducible refine (hwi _).mono ?_); rintro e wv ⟨rfl, hb9⟩; replace hO := hO.call hb9; clear hb9) | (go_at_call 10; (with_reducible refine (hc1 _ (hO.tops ht (by simp)) (hO.isB hfl (by intro q hq; repeat (first | exact List.mem_append_left _ hq | apply List.mem_append_right)))).mono ?_); rintro e wv ⟨rfl, hb9⟩; replace hO := hO.call hb9; clear hb9))
  rcases hcase with rfl | ⟨rfl, rfl⟩
  ·have _h9 := trivial
   refine wp_region_any (by kernel_rfl) ?_
   replace hO := hO.drew
   have ix9 := Ix.mk [0, 1, 2]
   iterate 3 (refine wpAny_tk ix9 ?_; replace ix9 := ix9.tail; (first | go_big_quiet_skip | (go_big_quiet_want; (go_big_quiet_op; (first | go_big_quiet_on | ((refine ⟨_, fun _ _ => rfl, ?_⟩); go_big_quiet_on))))); (refine wpQuiet_nil ?_); (try simp only [Act.put]); (try simp only [sI9, sZ9, sS9]))
   clear ix9
   refine wpAny_1 3 ?_
   rotate_left 1
   all_goals
    refine wpOp_of_listL rfl ?_
    ((refine wpList_step (fun K hK => ?_)); go_simp; ((refine hK _ _ ?_); clear hK K))
    refine wpList_done (qk_intro ?_)
   refine wpAny_1 4 ?_
   rotate_left 1
   all_goals
    refine wpOp_of_listL rfl ?_
    ((refine wpList_step (fun K hK => ?_)); go_simp; ((refine hK _ _ ?_); clear hK K))
    refine wpList_done (qk_intro ?_)
   have ix9 := Ix.mk [5, 6, 7, 8, 11, 13, 14]
   iterate 7 (refine wpAny_tk ix9 ?_; replace ix9 := ix9.tail; (first | go_big_quiet_skip | (go_big_quiet_want; (go_big_quiet_op; (first | go_big_quiet_on | ((refine ⟨_, fun _ _ => rfl, ?_⟩); go_big_quiet_on))))); (refine wpQuiet_nil ?_); (try simp only [Act.put]); (try simp only [sI9, sZ9, sS9]))
   clear ix9
   refine wpAny_all (rs := [9, 12]) (by kernel_rfl) (by simp) (ord_cons ?_ (ord_cons ?_ ord_nil))
   rotate_left 2
   all_goals
    refine wpOp_of_listL rfl ?_
    (refine ldN ?_); (try simp only [Act.put]); (try simp only [sI9, sZ9, sS9])
    refine wpList_done (qk_intro ?_)
   refine wpAny_all (rs := [10, 12]) (by kernel_rfl) (by simp) (ord_cons ?_ (ord_cons ?_ ord_nil))
   rotate_left 2
   refine wpAny_1 9 ?_
   rotate_left 1
   all_goals
    refine wpOp_of_listL rfl ?_
    (first | refine ldN ?_ | ((refine wpList_step (fun K hK => ?_)); go_simp; ((go_at_call 10; (with_reducible refine (hc2 _ _ (hO.tops ht (by simp)) (hO.isB hfs (by intro q hq; repeat (exact List.mem_append_left _ hq)))).mono ?_); rintro e wv ⟨rfl, hb9⟩; replace hO := hO.call hb9; clear hb9); (try simp only []); (refine hK _ _ ?_); clear hK K))); (try simp only [Act.put]); (try simp only [sI9, sZ9, sS9])
    refine wpList_done (qk_intro ?_)
   refine wpAny_1 12 ?_
   rotate_left 1
   refine wpAny_1 10 ?_
   rotate_left 1
   refine wpAny_1 10 ?_
   rotate_left 1
   all_goals
    refine wpOp_of_listL rfl ?_
    (first | refine ldN ?_ | ((refine wpList_step (fun K hK => ?_)); go_simp; ((go_at_call 10; (with_reducible refine (hc2 _ _ (hO.tops ht (by simp)) (hO.isB hfs (by intro q hq; repeat (exact List.mem_append_left _ hq)))).mono ?_); rintro e wv ⟨rfl, hb9⟩; replace hO := hO.call hb9; clear hb9); (try simp only []); (refine hK _ _ ?_); clear hK K))); (try simp only [Act.put]); (try simp only [sI9, sZ9, sS9])
    refine wpList_done (qk_intro ?_)
   refine wpAny_1 15 ?_
   rotate_left 1
   refine wpAny_1 15 ?_
   rotate_left 1
   refine wpAny_1 15 ?_
   rotate_left 1
   all_goals
    refine wpOp_of_listL rfl ?_
    ((refine wpList_step (fun K hK => ?_)); go_simp; ((go_at_call 11; (with_reducible refine (hwi _).mono ?_); rintro e wv ⟨rfl, hb9⟩; replace hO := hO.call hb9; clear hb9); (try simp only []); (refine hK _ _ ?_); clear hK K))
    refine wpList_done (qk_intro ?_)
   refine wpAny_1 16 ?_
   rotate_left 1
   refine wpAny_1 16 ?_
   rotate_left 1
   refine wpAny_1 16 ?_
   rotate_left 1
   all_goals
    refine wpOp_of_listL rfl ?_
    ((refine wpList_step (fun K hK => ?_)); go_simp; ((go_at_call 10; (with_reducible refine (hc3 _ _ (hO.tops ht (by simp)) (hO.isB hfs (by intro q hq; repeat (exact List.mem_append_left _ hq)))).mono ?_); rintro e wv ⟨rfl, hb9⟩; replace hO := hO.call hb9; clear hb9); (try simp only []); (refine hK _ _ ?_); clear hK K))
    refine wpList_done (qk_intro ?_)
   have ix9 := Ix.mk [17, 18]
   iterate 2 (refine wpAny_tk ix9 ?_; replace ix9 := ix9.tail; (first | go_big_quiet_skip | (go_big_quiet_want; (go_big_quiet_op; (first | go_big_quiet_on | ((refine ⟨_, fun _ _ => rfl, ?_⟩); go_big_quiet_on))))); (refine wpQuiet_nil ?_); (try simp only [Act.put]); (try simp only [sI9, sZ9, sS9]))
   clear ix9
   refine wpAny_done (by kernel_rfl) ?_ _
   rotate_left
   have ix9 := Ix.mk [17, 18]
   iterate 2 (refine wpAny_tk ix9 ?_; replace ix9 := ix9.tail; (first | go_big_quiet_skip | (go_big_quiet_want; (go_big_quiet_op; (first | go_big_quiet_on | ((refine ⟨_, fun _ _ => rfl, ?_⟩); go_big_quiet_on))))); (refine wpQuiet_nil ?_); (try simp only [Act.put]); (try simp only [sI9, sZ9, sS9]))
   clear ix9
   refine wpAny_done (by kernel_rfl) ?_ _
   rotate_left
   have ix9 := Ix.mk [17, 18]
   iterate 2 (refine wpAny_tk ix9 ?_; replace ix9 := ix9.tail; (first | go_big_quiet_skip | (go_big_quiet_want; (go_big_quiet_op; (first | go_big_quiet_on | ((refine ⟨_, fun _ _ => rfl, ?_⟩); go_big_quiet_on))))); (refine wpQuiet_nil ?_); (try simp only [Act.put]); (try simp only [sI9, sZ9, sS9]))
   clear ix9
   refine wpAny_done (by kernel_rfl) ?_ _
   rotate_left
   all_goals
    go_wp2_with (go_at_call 12; (with_reducible refine (hpj _ (hO.tops ht (by simp)) (hO.isB hfl (by intro q hq; repeat (first | exact List.mem_append_left _ hq | apply List.mem_append_right)))).mono ?_); rintro e wv ⟨vr, rfl, ⟨hv9, hn9⟩, hb9⟩; have hfp := isCells_form hv9; replace hO := hO.gainC hb9 hv9 hn9; clear hb9 hv9 hn9 hpj)
    obtain ⟨SS, hSS⟩ : ∃ SS, SS = roS vr (rcs (projF l k)) ++ (roS vs (cellsB s) ++ (roS (.slice al l.length cl) (cellsB l) ++ roS (.slice sa zs.length sc) (ints zs))) := ⟨_, rfl⟩
    rw [← hSS] at hO
    have hS1 : ∀ q ∈ roS (.slice al l.length cl) (cellsB l), q ∈ SS := fun q hq => hSS ▸ List.mem_append_right _ (List.mem_append_right _ (List.mem_append_left _ hq))
    have hS2 : ∀ q ∈ roS vs (cellsB s), q ∈ SS := fun q hq => hSS ▸ List.mem_append_right _ (List.mem_append_left _ hq)
    have hS3 : ∀ q ∈ roS vr (rcs (projF l k)), q ∈ SS := fun q hq => hSS ▸ List.mem_append_left _ hq
    clear hSS
    go_loopw [15, 16] (fun q15 q16 wr => ∃ (i : Nat) (bA : Bool), i ≤ l.length ∧ q15 = .bool bA ∧ q16 = .int .i64 i ∧ Hid (bA = (l.take i).any fun b => vld b && hasB (wideB k b) h) ∧ Own [] w [⟨n12, hcs h, 36⟩] [] SS wr) (fun _ q _ => l.length - (intOf q).toNat)
    case atStart => exact ⟨0, false, by omega, rfl, rfl, Lib.hid rfl, hO.sub (.cons_cons _ (List.nil_sublist _)) (.refl _) (fun _ h => h)⟩
    case round =>
     clear hO
     obtain ⟨i, bA, hi, rfl, rfl, HA, hO⟩ := hrel
     have s4 : IntKind.i64.wrap ((i : Int) + 1) = (i : Int) + 1 := IntWalk.i64_in _ (by omega)
     by_cases hlt : i < l.length
     ·obtain ⟨g, o, rfl⟩ := hal (by omega)
      have hm1 := hS1 ⟨g, o, cellsB l⟩ (by simp [roS])
      replace hO := hO.sub (S' := ⟨g, o, cellsB l⟩ :: SS) (.refl _) (.refl _) (fun s hs => (List.mem_cons.1 hs).elim (fun h => h ▸ hm1) id)
      have t1 := tk_box l hlt
      have hvd := fun w => rvalid_any l[i] w
      have hct := fun w => hct0 l[i] w
      have hT9 := HL.out i hlt
      rw [← HA.out] at hT9
      simp only [HW.out] at hT9
      clear HA hm1 hS1 hS2 hS3
      generalize hasB (l[i].set k ⟨(bF.at k).lo, (bF.at k).hi⟩) h = bY at *
      generalize vld l[i] = bX at *
      have HT := Lib.hid hT9
      clear hT9
      generalize l[i] = b at *
      cases bA
      ·cases bX
       ·(
        go_wp2_with (first | refine ldN ?_ | (refine stN hO ?_; clear hO; intro wv hO) | (refine al9 17 hO ?_; clear hO; intro n17 wv hO) | (go_at_call 13; refine (hfull _).mono ?_; rintro e wv ⟨rfl, hb⟩; replace hO := hO.call hb; clear hb) | (go_at_call 14; (with_reducible refine (hvd _).mono ?_); rintro e wv ⟨rfl, hb9⟩; replace hO := hO.call hb9; clear hb9))
        go_roundw
        case rel =>
         refine ⟨i + 1, _, by omega, rfl, by go_num, Lib.hid ?_, hO.sub (.cons _ (.refl _)) (.refl _) (fun _ h => List.mem_cons_of_mem _ h)⟩
         simp only [HW.out]
         rw [HT.out]; rfl
        case measure => simp [intOf]; omega)
       ·cases bY
        ·(
        go_wp2_with (first | refine ldN ?_ | (refine stN hO ?_; clear hO; intro wv hO) | (refine al9 17 hO ?_; clear hO; intro n17 wv hO) | (go_at_call 13; refine (hfull _).mono ?_; rintro e wv ⟨rfl, hb⟩; replace hO := hO.call hb; clear hb) | (go_at_call 14; (with_reducible refine (hvd _).mono ?_); rintro e wv ⟨rfl, hb9⟩; replace hO := hO.call hb9; clear hb9) | (go_at_call 15; (with_reducible refine (hct _).mono ?_); rintro e wv ⟨rfl, hb9⟩; replace hO := hO.call hb9; clear hb9))
        go_roundw
        case rel =>
         refine ⟨i + 1, _, by omega, rfl, by go_num, Lib.hid ?_, hO.sub (.cons _ (.refl _)) (.refl _) (fun _ h => List.mem_cons_of_mem _ h)⟩
         simp only [HW.out]
         rw [HT.out]; rfl
        case measure => simp [intOf]; omega)
        ·(
        go_wp2_with (first | refine ldN ?_ | (refine stN hO ?_; clear hO; intro wv hO) | (refine al9 17 hO ?_; clear hO; intro n17 wv hO) | (go_at_call 13; refine (hfull _).mono ?_; rintro e wv ⟨rfl, hb⟩; replace hO := hO.call hb; clear hb) | (go_at_call 14; (with_reducible refine (hvd _).mono ?_); rintro e wv ⟨rfl, hb9⟩; replace hO := hO.call hb9; clear hb9) | (go_at_call 15; (with_reducible refine (hct _).mono ?_); rintro e wv ⟨rfl, hb9⟩; replace hO := hO.call hb9; clear hb9))
        go_roundw
        case rel =>
         refine ⟨i + 1, _, by omega, rfl, by go_num, Lib.hid ?_, hO.sub (.cons _ (.refl _)) (.refl _) (fun _ h => List.mem_cons_of_mem _ h)⟩
         simp only [HW.out]
         rw [HT.out]; rfl
        case measure => simp [intOf]; omega)
      ·(
        go_wp2_with (first | refine ldN ?_ | (refine stN hO ?_; clear hO; intro wv hO) | (refine al9 17 hO ?_; clear hO; intro n17 wv hO) | (go_at_call 13; refine (hfull _).mono ?_; rintro e wv ⟨rfl, hb⟩; replace hO := hO.call hb; clear hb))
        go_roundw
        case rel =>
         refine ⟨i + 1, _, by omega, rfl, by go_num, Lib.hid ?_, hO.sub (.cons _ (.refl _)) (.refl _) (fun _ h => List.mem_cons_of_mem _ h)⟩
         simp only [HW.out]
         rw [HT.out]; rfl
        case measure => simp [intOf]; omega)
     ·obtain rfl : i = l.length := by omega
      obtain rfl : bA = bS := by rw [HA.out, List.take_length]; exact P3.out
      go_wp2_with (first | refine ldN ?_ | (go_at_call 10; (with_reducible refine (hc2 _ _ (hO.tops ht (by simp)) (hO.isB hfs hS2)).mono ?_); rintro e wv ⟨rfl, hb9⟩; replace hO := hO.call hb9; clear hb9) | (go_at_call 8; refine (sane4_any _ (hO.tops ht (by simp))).mono ?_; rintro e wv ⟨rfl, hb⟩; replace hO := hO.call hb; clear hb))
      go_ret
      exact ⟨rfl, hO.keep.below⟩
  ·have _h9 := trivial
   refine wp_region_any (by kernel_rfl) ?_
   replace hO := hO.drew
   have ix9 := Ix.mk [0, 1, 2]
   iterate 3 (refine wpAny_tk ix9 ?_; replace ix9 := ix9.tail; (first | go_big_quiet_skip | (go_big_quiet_want; (go_big_quiet_op; (first | go_big_quiet_on | ((refine ⟨_, fun _ _ => rfl, ?_⟩); go_big_quiet_on))))); (refine wpQuiet_nil ?_); (try simp only [Act.put]); (try simp only [sI9, sZ9, sS9]))
   clear ix9
   refine wpAny_1 3 ?_
   rotate_left 1
   all_goals
    refine wpOp_of_listL rfl ?_
    (refine ldN ?_); (try simp only [Act.put]); (try simp only [sI9, sZ9, sS9])
    refine wpList_done (qk_intro ?_)
   refine wpAny_1 4 ?_
   rotate_left 1
   all_goals
    refine wpOp_of_listL rfl ?_
    ((refine wpList_step (fun K hK => ?_)); go_simp; ((go_at_call 10; (with_reducible refine (hc2 _ _ (hO.tops ht (by simp)) (hO.isB hfs (by intro q hq; repeat (exact List.mem_append_left _ hq)))).mono ?_); rintro e wv ⟨rfl, hb9⟩; replace hO := hO.call hb9; clear hb9); (try simp only []); (refine hK _ _ ?_); clear hK K))
    refine wpList_done (qk_intro ?_)
   have ix9 := Ix.mk [5, 6, 7, 8, 11, 13, 14]
   iterate 7 (refine wpAny_tk ix9 ?_; replace ix9 := ix9.tail; (first | go_big_quiet_skip | (go_big_quiet_want; (go_big_quiet_op; (first | go_big_quiet_on | ((refine ⟨_, fun _ _ => rfl, ?_⟩); go_big_quiet_on))))); (refine wpQuiet_nil ?_); (try simp only [Act.put]); (try simp only [sI9, sZ9, sS9]))
   clear ix9
   refine wpAny_all (rs := [9, 12]) (by kernel_rfl) (by simp) (ord_cons ?_ (ord_cons ?_ ord_nil))
   rotate_left 2
   all_goals
    refine wpOp_of_listL rfl ?_
    (refine ldN ?_); (try simp only [Act.put]); (try simp only [sI9, sZ9, sS9])
    refine wpList_done (qk_intro ?_)
   refine wpAny_all (rs := [10, 12]) (by kernel_rfl) (by simp) (ord_cons ?_ (ord_cons ?_ ord_nil))
   rotate_left 2
   refine wpAny_1 9 ?_
   rotate_left 1
   all_goals
    refine wpOp_of_listL rfl ?_
    (first | refine ldN ?_ | ((refine wpList_step (fun K hK => ?_)); go_simp; ((go_at_call 10; (with_reducible refine (hc2 _ _ (hO.tops ht (by simp)) (hO.isB hfs (by intro q hq; repeat (exact List.mem_append_left _ hq)))).mono ?_); rintro e wv ⟨rfl, hb9⟩; replace hO := hO.call hb9; clear hb9); (try simp only []); (refine hK _ _ ?_); clear hK K))); (try simp only [Act.put]); (try simp only [sI9, sZ9, sS9])
    refine wpList_done (qk_intro ?_)
   refine wpAny_1 12 ?_
   rotate_left 1
   refine wpAny_1 10 ?_
   rotate_left 1
   refine wpAny_1 10 ?_
   rotate_left 1
   all_goals
    refine wpOp_of_listL rfl ?_
    (first | refine ldN ?_ | ((refine wpList_step (fun K hK => ?_)); go_simp; ((go_at_call 10; (with_reducible refine (hc2 _ _ (hO.tops ht (by simp)) (hO.isB hfs (by intro q hq; repeat (exact List.mem_append_left _ hq)))).mono ?_); rintro e wv ⟨rfl, hb9⟩; replace hO := hO.call hb9; clear hb9); (try simp only []); (refine hK _ _ ?_); clear hK K))); (try simp only [Act.put]); (try simp only [sI9, sZ9, sS9])
    refine wpList_done (qk_intro ?_)
   refine wpAny_1 15 ?_
   rotate_left 1
   refine wpAny_1 15 ?_
   rotate_left 1
   refine wpAny_1 15 ?_
   rotate_left 1
   all_goals
    refine wpOp_of_listL rfl ?_
    ((refine wpList_step (fun K hK => ?_)); go_simp; ((go_at_call 11; (with_reducible refine (hwi _).mono ?_); rintro e wv ⟨rfl, hb9⟩; replace hO := hO.call hb9; clear hb9); (try simp only []); (refine hK _ _ ?_); clear hK K))
    refine wpList_done (qk_intro ?_)
   refine wpAny_1 16 ?_
   rotate_left 1
   refine wpAny_1 16 ?_
   rotate_left 1
   refine wpAny_1 16 ?_
   rotate_left 1
   all_goals
    refine wpOp_of_listL rfl ?_
    ((refine wpList_step (fun K hK => ?_)); go_simp; ((go_at_call 10; (with_reducible refine (hc3 _ _ (hO.tops ht (by simp)) (hO.isB hfs (by intro q hq; repeat (exact List.mem_append_left _ hq)))).mono ?_); rintro e wv ⟨rfl, hb9⟩; replace hO := hO.call hb9; clear hb9); (try simp only []); (refine hK _ _ ?_); clear hK K))
    refine wpList_done (qk_intro ?_)
   have ix9 := Ix.mk [17, 18]
   iterate 2 (refine wpAny_tk ix9 ?_; replace ix9 := ix9.tail; (first | go_big_quiet_skip | (go_big_quiet_want; (go_big_quiet_op; (first | go_big_quiet_on | ((refine ⟨_, fun _ _ => rfl, ?_⟩); go_big_quiet_on))))); (refine wpQuiet_nil ?_); (try simp only [Act.put]); (try simp only [sI9, sZ9, sS9]))
   clear ix9
   refine wpAny_done (by kernel_rfl) ?_ _
   rotate_left
   have ix9 := Ix.mk [17, 18]
   iterate 2 (refine wpAny_tk ix9 ?_; replace ix9 := ix9.tail; (first | go_big_quiet_skip | (go_big_quiet_want; (go_big_quiet_op; (first | go_big_quiet_on | ((refine ⟨_, fun _ _ => rfl, ?_⟩); go_big_quiet_on))))); (refine wpQuiet_nil ?_); (try simp only [Act.put]); (try simp only [sI9, sZ9, sS9]))
   clear ix9
   refine wpAny_done (by kernel_rfl) ?_ _
   rotate_left
   have ix9 := Ix.mk [17, 18]
   iterate 2 (refine wpAny_tk ix9 ?_; replace ix9 := ix9.tail; (first | go_big_quiet_skip | (go_big_quiet_want; (go_big_quiet_op; (first | go_big_quiet_on | ((refine ⟨_, fun _ _ => rfl, ?_⟩); go_big_quiet_on))))); (refine wpQuiet_nil ?_); (try simp only [Act.put]); (try simp only [sI9, sZ9, sS9]))
   clear ix9
   refine wpAny_done (by kernel_rfl) ?_ _
   rotate_left
   all_goals
    go_wp2_with (go_at_call 12; (with_reducible refine (hpj _ (hO.tops ht (by simp)) (hO.isB hfl (by intro q hq; repeat (first | exact List.mem_append_left _ hq | apply List.mem_append_right)))).mono ?_); rintro e wv ⟨vr, rfl, ⟨hv9, hn9⟩, hb9⟩; have hfp := isCells_form hv9; replace hO := hO.gainC hb9 hv9 hn9; clear hb9 hv9 hn9 hpj)
    obtain ⟨SS, hSS⟩ : ∃ SS, SS = roS vr (rcs (projF l k)) ++ (roS vs (cellsB s) ++ (roS (.slice al l.length cl) (cellsB l) ++ roS (.slice sa zs.length sc) (ints zs))) := ⟨_, rfl⟩
    rw [← hSS] at hO
    have hS1 : ∀ q ∈ roS (.slice al l.length cl) (cellsB l), q ∈ SS := fun q hq => hSS ▸ List.mem_append_right _ (List.mem_append_right _ (List.mem_append_left _ hq))
    have hS2 : ∀ q ∈ roS vs (cellsB s), q ∈ SS := fun q hq => hSS ▸ List.mem_append_right _ (List.mem_append_left _ hq)
    have hS3 : ∀ q ∈ roS vr (rcs (projF l k)), q ∈ SS := fun q hq => hSS ▸ List.mem_append_left _ hq
    clear hSS
    go_loopw [15, 16] (fun q15 q16 wr => ∃ (i : Nat) (bA : Bool), i ≤ l.length ∧ q15 = .bool bA ∧ q16 = .int .i64 i ∧ Hid (bA = (l.take i).any fun b => vld b && hasB (wideB k b) h) ∧ Own [] w [⟨n12, hcs h, 36⟩] [] SS wr) (fun _ q _ => l.length - (intOf q).toNat)
    case atStart => exact ⟨0, false, by omega, rfl, rfl, Lib.hid rfl, hO.sub (.cons_cons _ (List.nil_sublist _)) (.refl _) (fun _ h => h)⟩
    case round =>
     clear hO
     obtain ⟨i, bA, hi, rfl, rfl, HA, hO⟩ := hrel
     have s4 : IntKind.i64.wrap ((i : Int) + 1) = (i : Int) + 1 := IntWalk.i64_in _ (by omega)
     by_cases hlt : i < l.length
     ·obtain ⟨g, o, rfl⟩ := hal (by omega)
      have hm1 := hS1 ⟨g, o, cellsB l⟩ (by simp [roS])
      replace hO := hO.sub (S' := ⟨g, o, cellsB l⟩ :: SS) (.refl _) (.refl _) (fun s hs => (List.mem_cons.1 hs).elim (fun h => h ▸ hm1) id)
      have t1 := tk_box l hlt
      have hvd := fun w => rvalid_any l[i] w
      have hct := fun w => hct0 l[i] w
      have hT9 := HL.out i hlt
      rw [← HA.out] at hT9
      simp only [HW.out] at hT9
      clear HA hm1 hS1 hS2 hS3
      generalize hasB (l[i].set k ⟨(bF.at k).lo, (bF.at k).hi⟩) h = bY at *
      generalize vld l[i] = bX at *
      have HT := Lib.hid hT9
      clear hT9
      generalize l[i] = b at *
      cases bA
      ·cases bX
       ·(
        go_wp2_with (first | refine ldN ?_ | (refine stN hO ?_; clear hO; intro wv hO) | (refine al9 17 hO ?_; clear hO; intro n17 wv hO) | (go_at_call 13; refine (hfull _).mono ?_; rintro e wv ⟨rfl, hb⟩; replace hO := hO.call hb; clear hb) | (go_at_call 14; (with_reducible refine (hvd _).mono ?_); rintro e wv ⟨rfl, hb9⟩; replace hO := hO.call hb9; clear hb9))
        go_roundw
        case rel =>
         refine ⟨i + 1, _, by omega, rfl, by go_num, Lib.hid ?_, hO.sub (.cons _ (.refl _)) (.refl _) (fun _ h => List.mem_cons_of_mem _ h)⟩
         simp only [HW.out]
         rw [HT.out]; rfl
        case measure => simp [intOf]; omega)
       ·cases bY
        ·(
        go_wp2_with (first | refine ldN ?_ | (refine stN hO ?_; clear hO; intro wv hO) | (refine al9 17 hO ?_; clear hO; intro n17 wv hO) | (go_at_call 13; refine (hfull _).mono ?_; rintro e wv ⟨rfl, hb⟩; replace hO := hO.call hb; clear hb) | (go_at_call 14; (with_reducible refine (hvd _).mono ?_); rintro e wv ⟨rfl, hb9⟩; replace hO := hO.call hb9; clear hb9) | (go_at_call 15; (with_reducible refine (hct _).mono ?_); rintro e wv ⟨rfl, hb9⟩; replace hO := hO.call hb9; clear hb9))
        go_roundw
        case rel =>
         refine ⟨i + 1, _, by omega, rfl, by go_num, Lib.hid ?_, hO.sub (.cons _ (.refl _)) (.refl _) (fun _ h => List.mem_cons_of_mem _ h)⟩
         simp only [HW.out]
         rw [HT.out]; rfl
        case measure => simp [intOf]; omega)
        ·(
        go_wp2_with (first | refine ldN ?_ | (refine stN hO ?_; clear hO; intro wv hO) | (refine al9 17 hO ?_; clear hO; intro n17 wv hO) | (go_at_call 13; refine (hfull _).mono ?_; rintro e wv ⟨rfl, hb⟩; replace hO := hO.call hb; clear hb) | (go_at_call 14; (with_reducible refine (hvd _).mono ?_); rintro e wv ⟨rfl, hb9⟩; replace hO := hO.call hb9; clear hb9) | (go_at_call 15; (with_reducible refine (hct _).mono ?_); rintro e wv ⟨rfl, hb9⟩; replace hO := hO.call hb9; clear hb9))
        go_roundw
        case rel =>
         refine ⟨i + 1, _, by omega, rfl, by go_num, Lib.hid ?_, hO.sub (.cons _ (.refl _)) (.refl _) (fun _ h => List.mem_cons_of_mem _ h)⟩
         simp only [HW.out]
         rw [HT.out]; rfl
        case measure => simp [intOf]; omega)
      ·(
        go_wp2_with (first | refine ldN ?_ | (refine stN hO ?_; clear hO; intro wv hO) | (refine al9 17 hO ?_; clear hO; intro n17 wv hO) | (go_at_call 13; refine (hfull _).mono ?_; rintro e wv ⟨rfl, hb⟩; replace hO := hO.call hb; clear hb))
        go_roundw
        case rel =>
         refine ⟨i + 1, _, by omega, rfl, by go_num, Lib.hid ?_, hO.sub (.cons _ (.refl _)) (.refl _) (fun _ h => List.mem_cons_of_mem _ h)⟩
         simp only [HW.out]
         rw [HT.out]; rfl
        case measure => simp [intOf]; omega)
     ·obtain rfl : i = l.length := by omega
      obtain rfl : bA = true := by rw [HA.out, List.take_length]; exact P3.out
      by_cases hvt : v ≤ topOf k
      ·have g9 : decide (topOf k < v) = false := decide_eq_false (by omega)
       have g8 := P4.out (by (exact trivial)) hvt
       rw [g8] at hcn
       go_wp2_with (first | refine ldN ?_ | (go_at_call 10; (with_reducible refine (hc2 _ _ (hO.tops ht (by simp)) (hO.isB hfs hS2)).mono ?_); rintro e wv ⟨rfl, hb9⟩; replace hO := hO.call hb9; clear hb9) | (go_at_call 16; refine (htop _).mono ?_; rintro e _ ⟨rfl, rfl⟩) | (go_at_call 17; (with_reducible refine (hcn _ _ (hO.isC hfp (rcs_nil_of _) hS3)).mono ?_); rintro e wv ⟨rfl, hb9⟩; replace hO := hO.call hb9; clear hb9) | (go_at_call 8; refine (sane4_any _ (hO.tops ht (by simp))).mono ?_; rintro e wv ⟨rfl, hb⟩; replace hO := hO.call hb; clear hb))
       go_ret
       exact ⟨rfl, hO.keep.below⟩
      ·have g9 : decide (topOf k < v) = true := decide_eq_true (by omega)
       go_wp2_with (first | refine ldN ?_ | (go_at_call 10; (with_reducible refine (hc2 _ _ (hO.tops ht (by simp)) (hO.isB hfs hS2)).mono ?_); rintro e wv ⟨rfl, hb9⟩; replace hO := hO.call hb9; clear hb9) | (go_at_call 16; refine (htop _).mono ?_; rintro e _ ⟨rfl, rfl⟩) | (go_at_call 8; refine (sane4_any _ (hO.tops ht (by simp))).mono ?_; rintro e wv ⟨rfl, hb⟩; replace hO := hO.call hb; clear hb))
       go_ret
       exact ⟨rfl, hO.keep.below⟩
end Go.Proofs.YtbdfblgdmappeaaDoor
