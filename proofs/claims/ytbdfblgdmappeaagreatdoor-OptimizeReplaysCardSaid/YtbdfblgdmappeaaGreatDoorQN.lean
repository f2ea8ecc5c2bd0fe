/- OptimizeApplies: the walk. -/
import Derived.Deep.CutRange
import Derived.Deep.DeepCutAuto
import Derived.Test.YtbdfblgdmappeaaGreatDoorQM
import Derived.Test.YtbdfblgdmappeaaGreatDoorQK
import Derived.Test.YtbdfblgdmappeaaGreatDoorQB
import Derived.Test.YtbdfblgdmappeaaGreatDoorMB
namespace Go.Proofs.YtbdfblgdmappeaaGreatDoor
open Go.RowKit
set_option maxRecDepth 100000
theorem same8_self (v u : Value) (l : List Rul) (w : World) (hv : IsTable w v l) (hu : IsTable w u l) (hm : l.length ≤ 20) :
  Calls Tryz.prog 16 #[v, u] w fun e w' => e = .returned (.bool true) ∧ Below w.heap.size w w' := by
 have h := rSame8_any v u l l w hv hu (by omega) (by omega)
 rw [decide_eq_true rfl] at h
 exact h
theorem apF_short {t : List Rul} {s : Stp} (kt : okT t) (hl : t.length ≤ 20) : (apF t s).1.length ≤ 20 := by
 by_cases h : (apF t s).2 = 0
 ·have := (apF_len kt h rfl).2
  omega
 ·unfold apF at h ⊢
  split
  ·split
   ·split
    ·rename_i h1 h2 h3
     rw [if_pos h1, if_pos h2, if_pos h3] at h
     exact absurd rfl h
    ·simp
   ·simp
  ·simp
set_option maxHeartbeats 16000000 in
theorem opapplies_law (sl : Value) (zs : List Int) (vx : Value) (x : List Rul) (s : Stp) (w : World) (ht : Tops w) (hw : Wid w) (hZ : ZsOk sl zs) (hr : ∀ s ∈ roS sl (ints zs), w.rangeAt s.g s.o s.xs) (hvx : IsTable w vx x) (kx : okT x) :
  Calls Tryz.prog 3 #[sl, vx, stv s] w fun e w' => e = .returned (.bool true) ∧ Below w.heap.size w w' := by
 have hO := (own_law hr).addTable hvx
 clear hr
 obtain ⟨kd0, a0, b0⟩ := s
 obtain ⟨sa, sc, rfl, -⟩ := hZ.view
 have hfx := hvx.form
 obtain ⟨ax, cx, rfl, -⟩ := hvx.view
 clear hvx
 go_enter Tryz.func3, Tryz.ntmps3
 go_wp2_with (first | ((with_reducible refine is_bx9 ?_); refine bx9 5 hO ?_; clear hO; intro n5 wv hO) | (go_at_call 11; (with_reducible refine (new_any _ _ _).mono ?_); rintro e wv ⟨n, rfl, hB, hn, hb⟩; replace hO := hO.gain hb hB hn; have hT := hO.tapeIn List.mem_cons_self (by (intro s hs; repeat (first | exact hs | apply List.mem_append_right))) (Nat.zero_le _); clear hb hB hn))
 go_loopg [8] 7 (fun gk q wr => ∃ i i1 : Nat, i ≤ 6 ∧ 7 - i ≤ gk ∧ q = .int .i64 i ∧ i1 ≤ zs.length ∧ Own [] w [⟨n, tcs (.slice sa zs.length sc) i1, 93⟩, ⟨n5, [.int .i64 kd0, .int .i64 a0, .int .i64 b0], 26⟩] [] (roS (.slice ax x.length cx) (cellsR x) ++ roS (.slice sa zs.length sc) (ints zs)) wr)
 case atStart => exact ⟨0, _, by omega, by omega, rfl, hT.le, hO⟩
 case round =>
  clear hO hT
  obtain ⟨i, i1, hi, hgk, rfl, hi1, hO⟩ := hrel
  have hT := hO.tapeIn List.mem_cons_self (by intro s hs; repeat (first | exact hs | apply List.mem_append_right)) hi1
  have s1 : IntKind.i64.wrap ((i : Int) + 1) = (i : Int) + 1 := IntWalk.i64_in _ (by omega)
  by_cases hlt : i < 6
  ·have g1 : decide ((i : Int) < 6) = true := decide_eq_true (by omega)
   by_cases h5 : i = 5 ∧ x.length ≤ 5
   ·obtain ⟨h5, h6⟩ := h5
    have g2 : ((i : Int) == 5) = true := beq_iff_eq.2 (by omega)
    have g3 : decide ((x.length : Int) ≤ 5) = true := decide_eq_true (by omega)
    have nr := apF_short (s := (kd0, a0, b0)) kx (by omega)
    clear h5
    go_wp2_with (first | ((with_reducible refine is_store ?_); (refine own_stRQ (hO := hO) (h := ?_); clear hO; intro wv hO)) | ((with_reducible refine is_alloc ?_); refine own_alQ (o := ⟨some 10, _, _, _, _, _⟩) (hO := hO) (h := ?_); clear hO; intro n10 wv hO) | (go_at_call 12; (with_reducible refine (otable_any 5 true hZ (hO.tapeIn List.mem_cons_self (by (intro s hs; repeat (first | exact hs | apply List.mem_append_right))) hT.le) (by omega) (by omega)).mono ?_); rintro e wv ⟨vy, i1, rfl, ⟨y, hv9, hn9, ky, ny, -⟩, hk9, hT1⟩; have hoff9 := off_of_new hO hn9; replace hO := hO.after (by (repeat (exact Upd.here))) hk9 hT1.blk; replace hT := hT1; clear hT1 hk9; have hfy := hv9.form; obtain ⟨ay, cy, rfl, hay, hO⟩ := own_offRS hO ⟨hv9, hoff9⟩; clear hv9 hn9 hoff9) | (go_at_call 13; (with_reducible refine (ostep_any (m := y.length) hZ (hO.tapeIn List.mem_cons_self (by (intro s hs; repeat (first | exact hs | apply List.mem_append_right))) hT.le) (by omega)).mono ?_); rintro e wv ⟨v, i1, rfl, ⟨kd, a, b, rfl⟩, hk9, hT1⟩; replace hO := hO.after (by (repeat (exact Upd.here))) hk9 hT1.blk; replace hT := hT1; clear hT1 hk9))
    refine wp_region_held (S := (Own [] w [⟨n5, [.int .i64 kd0, .int .i64 a0, .int .i64 b0], 26⟩] [] [])) (by kernel_rfl) ?_
    replace hO := hO.drew
    have hC : (Own [] w [⟨n5, [.int .i64 kd0, .int .i64 a0, .int .i64 b0], 26⟩] [] []) _ := hO.cls
    refine wpAnyH_tk 0 hC ?_
    (go_big_quiet_want; (go_big_quiet_op; (go_big_quiet_on))); (refine wpQuiet_nil ?_)
    refine wpAnyH_tk 1 hC ?_
    (go_big_quiet_want; ((with_reducible refine is_loadQ ?_); (refine q_ldQ (h := ?_)); (try simp only [Act.put]); (try simp only [sI9, sZ9, sS9]); go_big_quiet_on)); (refine wpQuiet_nil ?_)
    refine wpAnyH_1 2 ?_
    rotate_left 1
    all_goals
     refine wpOp_of_listL rfl ?_
     ((refine wpList_step (fun K hK => ?_)); go_simp; ((refine hK _ _ ?_); clear hK K))
     refine wpList_done (qk_intro ?_)
     replace hC : (Own [] w [⟨n5, [.int .i64 kd0, .int .i64 a0, .int .i64 b0], 26⟩] [] []) _ := hO.cls
     refine ⟨hC, ?_⟩
    refine wpAnyH_1 3 ?_
    rotate_left 1
    all_goals
     refine wpOp_of_listL rfl ?_
     ((with_reducible refine is_store ?_); (refine own_stRQ (hO := hO) (h := ?_); clear hO; intro wv hO)); (try simp only [Act.put])
     refine wpList_done (qk_intro ?_)
     replace hC : (Own [] w [⟨n5, [.int .i64 kd0, .int .i64 a0, .int .i64 b0], 26⟩] [] []) _ := hO.cls
     refine ⟨hC, ?_⟩
    refine wpAnyH_done (by kernel_rfl) ?_ _
    rotate_left
    all_goals clear hC
    all_goals
     replace hT := (hO.tapeIn (by (repeat (first | exact List.mem_cons_self | refine List.mem_cons_of_mem _ ?_))) (by (intro s hs; repeat (first | exact hs | apply List.mem_append_right))) hT.le)
     go_wp2_with (first | ((with_reducible refine is_load ?_); (refine own_ldQ (h := ?_))) | (go_at_call 14; (with_reducible refine (oApply_any (t := x) kd0 a0 b0 _ (hO.tops ht (by simp)) (hO.isRm hfx) kx (by omega)).mono ?_); rintro e wv ⟨v3, rfl, hv9, hn9, hb9⟩; have hf3 := hv9.form; replace hO := hO.gainR hb9 hv9 hn9; clear hb9 hv9 hn9; replace hT := (hO.tapeIn (by (repeat (first | exact List.mem_cons_self | refine List.mem_cons_of_mem _ ?_))) (by (intro s hs; repeat (first | exact hs | apply List.mem_append_right))) hT.le); have e2 := bne_self_eq_false (apF x (kd0, a0, b0)).2) | (go_at_call 15; (with_reducible refine (rApply_any (t := x) kd0 a0 b0 _ (hO.isRm hfx) kx (by omega)).mono ?_); rintro e wv ⟨v4, rfl, hv9, hn9, hb9⟩; have hf4 := hv9.form; replace hO := hO.gainR hb9 hv9 hn9; clear hb9 hv9 hn9; replace hT := (hO.tapeIn (by (repeat (first | exact List.mem_cons_self | refine List.mem_cons_of_mem _ ?_))) (by (intro s hs; repeat (first | exact hs | apply List.mem_append_right))) hT.le)) | (go_at_call 16; (with_reducible refine (same8_self _ _ (apF x (kd0, a0, b0)).1 _ (hO.isRm hf3) (hO.isRm hf4) nr).mono ?_); rintro e wv ⟨rfl, hb9⟩; replace hO := hO.call hb9; clear hb9; replace hT := (hO.tapeIn (by (repeat (first | exact List.mem_cons_self | refine List.mem_cons_of_mem _ ?_))) (by (intro s hs; repeat (first | exact hs | apply List.mem_append_right))) hT.le)))
     go_roundg (6 - i)
     case measure => omega
     case rel => exact ⟨i + 1, _, by omega, by omega, by go_num, hT.le, hO.sub (by repeat (first | exact List.Sublist.refl _ | apply List.Sublist.cons)) (.refl _) (fun q hq => by repeat (first | exact hq | apply List.mem_append_right))⟩
   ·by_cases h5a : i = 5
    ·have g2 : ((i : Int) == 5) = true := beq_iff_eq.2 (by omega)
     have g3 : decide ((x.length : Int) ≤ 5) = false := decide_eq_false (by omega)
     clear h5 h5a
     go_wp2_with (first | ((with_reducible refine is_load ?_); (refine own_ldQ (h := ?_))) | ((with_reducible refine is_store ?_); (refine own_stRQ (hO := hO) (h := ?_); clear hO; intro wv hO)) | ((with_reducible refine is_alloc ?_); refine own_alQ (o := ⟨some 10, _, _, _, _, _⟩) (hO := hO) (h := ?_); clear hO; intro n10 wv hO) | (go_at_call 12; (with_reducible refine (otable_any 5 true hZ (hO.tapeIn List.mem_cons_self (by (intro s hs; repeat (first | exact hs | apply List.mem_append_right))) hT.le) (by omega) (by omega)).mono ?_); rintro e wv ⟨vy, i1, rfl, ⟨y, hv9, hn9, ky, ny, -⟩, hk9, hT1⟩; have hoff9 := off_of_new hO hn9; replace hO := hO.after (by (repeat (exact Upd.here))) hk9 hT1.blk; replace hT := hT1; clear hT1 hk9; have hfy := hv9.form; obtain ⟨ay, cy, rfl, hay, hO⟩ := own_offRS hO ⟨hv9, hoff9⟩; clear hv9 hn9 hoff9) | (go_at_call 13; (with_reducible refine (ostep_any (m := y.length) hZ (hO.tapeIn List.mem_cons_self (by (intro s hs; repeat (first | exact hs | apply List.mem_append_right))) hT.le) (by omega)).mono ?_); rintro e wv ⟨v, i1, rfl, ⟨kd, a, b, rfl⟩, hk9, hT1⟩; replace hO := hO.after (by (repeat (exact Upd.here))) hk9 hT1.blk; replace hT := hT1; clear hT1 hk9; have nr := apF_short (s := (kd, a, b)) ky (by omega)) | (go_at_call 14; (with_reducible refine (oApply_any (t := y) kd a b _ (hO.tops ht (by simp)) (hO.isRm hfy) ky (by omega)).mono ?_); rintro e wv ⟨v3, rfl, hv9, hn9, hb9⟩; have hf3 := hv9.form; replace hO := hO.gainR hb9 hv9 hn9; clear hb9 hv9 hn9; replace hT := (hO.tapeIn (by (repeat (first | exact List.mem_cons_self | refine List.mem_cons_of_mem _ ?_))) (by (intro s hs; repeat (first | exact hs | apply List.mem_append_right))) hT.le); have e2 := bne_self_eq_false (apF y (kd, a, b)).2) | (go_at_call 15; (with_reducible refine (rApply_any (t := y) kd a b _ (hO.isRm hfy) ky (by omega)).mono ?_); rintro e wv ⟨v4, rfl, hv9, hn9, hb9⟩; have hf4 := hv9.form; replace hO := hO.gainR hb9 hv9 hn9; clear hb9 hv9 hn9; replace hT := (hO.tapeIn (by (repeat (first | exact List.mem_cons_self | refine List.mem_cons_of_mem _ ?_))) (by (intro s hs; repeat (first | exact hs | apply List.mem_append_right))) hT.le)) | (go_at_call 16; (with_reducible refine (same8_self _ _ (apF y (kd, a, b)).1 _ (hO.isRm hf3) (hO.isRm hf4) nr).mono ?_); rintro e wv ⟨rfl, hb9⟩; replace hO := hO.call hb9; clear hb9; replace hT := (hO.tapeIn (by (repeat (first | exact List.mem_cons_self | refine List.mem_cons_of_mem _ ?_))) (by (intro s hs; repeat (first | exact hs | apply List.mem_append_right))) hT.le)))
     go_roundg (6 - i)
     case measure => omega
     case rel => exact ⟨i + 1, _, by omega, by omega, by go_num, hT.le, hO.sub (by repeat (first | exact List.Sublist.refl _ | apply List.Sublist.cons)) (.refl _) (fun q hq => by repeat (first | exact hq | apply List.mem_append_right))⟩
    ·have g2 : ((i : Int) == 5) = false := beq_eq_false_iff_ne.2 (by omega)
     clear h5 h5a
     go_wp2_with (first | ((with_reducible refine is_load ?_); (refine own_ldQ (h := ?_))) | ((with_reducible refine is_store ?_); (refine own_stRQ (hO := hO) (h := ?_); clear hO; intro wv hO)) | ((with_reducible refine is_alloc ?_); refine own_alQ (o := ⟨some 10, _, _, _, _, _⟩) (hO := hO) (h := ?_); clear hO; intro n10 wv hO) | (go_at_call 12; (with_reducible refine (otable_any 5 true hZ (hO.tapeIn List.mem_cons_self (by (intro s hs; repeat (first | exact hs | apply List.mem_append_right))) hT.le) (by omega) (by omega)).mono ?_); rintro e wv ⟨vy, i1, rfl, ⟨y, hv9, hn9, ky, ny, -⟩, hk9, hT1⟩; have hoff9 := off_of_new hO hn9; replace hO := hO.after (by (repeat (exact Upd.here))) hk9 hT1.blk; replace hT := hT1; clear hT1 hk9; have hfy := hv9.form; obtain ⟨ay, cy, rfl, hay, hO⟩ := own_offRS hO ⟨hv9, hoff9⟩; clear hv9 hn9 hoff9) | (go_at_call 13; (with_reducible refine (ostep_any (m := y.length) hZ (hO.tapeIn List.mem_cons_self (by (intro s hs; repeat (first | exact hs | apply List.mem_append_right))) hT.le) (by omega)).mono ?_); rintro e wv ⟨v, i1, rfl, ⟨kd, a, b, rfl⟩, hk9, hT1⟩; replace hO := hO.after (by (repeat (exact Upd.here))) hk9 hT1.blk; replace hT := hT1; clear hT1 hk9; have nr := apF_short (s := (kd, a, b)) ky (by omega)) | (go_at_call 14; (with_reducible refine (oApply_any (t := y) kd a b _ (hO.tops ht (by simp)) (hO.isRm hfy) ky (by omega)).mono ?_); rintro e wv ⟨v3, rfl, hv9, hn9, hb9⟩; have hf3 := hv9.form; replace hO := hO.gainR hb9 hv9 hn9; clear hb9 hv9 hn9; replace hT := (hO.tapeIn (by (repeat (first | exact List.mem_cons_self | refine List.mem_cons_of_mem _ ?_))) (by (intro s hs; repeat (first | exact hs | apply List.mem_append_right))) hT.le); have e2 := bne_self_eq_false (apF y (kd, a, b)).2) | (go_at_call 15; (with_reducible refine (rApply_any (t := y) kd a b _ (hO.isRm hfy) ky (by omega)).mono ?_); rintro e wv ⟨v4, rfl, hv9, hn9, hb9⟩; have hf4 := hv9.form; replace hO := hO.gainR hb9 hv9 hn9; clear hb9 hv9 hn9; replace hT := (hO.tapeIn (by (repeat (first | exact List.mem_cons_self | refine List.mem_cons_of_mem _ ?_))) (by (intro s hs; repeat (first | exact hs | apply List.mem_append_right))) hT.le)) | (go_at_call 16; (with_reducible refine (same8_self _ _ (apF y (kd, a, b)).1 _ (hO.isRm hf3) (hO.isRm hf4) nr).mono ?_); rintro e wv ⟨rfl, hb9⟩; replace hO := hO.call hb9; clear hb9; replace hT := (hO.tapeIn (by (repeat (first | exact List.mem_cons_self | refine List.mem_cons_of_mem _ ?_))) (by (intro s hs; repeat (first | exact hs | apply List.mem_append_right))) hT.le)))
     go_roundg (6 - i)
     case measure => omega
     case rel => exact ⟨i + 1, _, by omega, by omega, by go_num, hT.le, hO.sub (by repeat (first | exact List.Sublist.refl _ | apply List.Sublist.cons)) (.refl _) (fun q hq => by repeat (first | exact hq | apply List.mem_append_right))⟩
  ·have g1 : decide ((i : Int) < 6) = false := decide_eq_false (by omega)
   go_wp2_with (go_at_call 17; (with_reducible refine (sane36_any _ (hO.tops ht (by simp)) (hO.wid hw (by simp))).mono ?_); rintro e wv ⟨rfl, hb9⟩; replace hO := hO.call hb9; clear hb9)
   go_ret
   exact ⟨rfl, hO.keep.below⟩
end Go.Proofs.YtbdfblgdmappeaaGreatDoor
