/- OptimizeReplays: the walk. -/
import Derived.Deep.CutRange
import Derived.Deep.DeepCutAuto
import Derived.Test.YtbdfblgdmappeaaGreatDoorQN
import Derived.Test.YtbdfblgdmappeaaGreatDoorQM
import Derived.Test.YtbdfblgdmappeaaGreatDoorQK
import Derived.Test.YtbdfblgdmappeaaGreatDoorQB
import Derived.Test.YtbdfblgdmappeaaGreatDoorMB
namespace Go.Proofs.YtbdfblgdmappeaaGreatDoor
open Go.RowKit
set_option maxRecDepth 100000
theorem rpF_short {l : List Stp} : ∀ {t : List Rul}, okT t → t.length ≤ 20 → (rpF t l).1.length ≤ 20 := by
 induction l with
 | nil => intro t _ h; exact h
 | cons s l ih =>
  intro t kt hl
  rw [rpF]
  split
  ·rename_i h
   have := apF_len kt h rfl
   exact ih this.1 (by omega)
  ·simp
theorem rpV_short {l : List Stp} {t : List Rul} (kt : okT t) (hl : t.length ≤ 20) : (rpV t l).1.length ≤ 20 := by
 unfold rpV
 split
 ·exact rpF_short kt hl
 ·simp
set_option maxHeartbeats 16000000 in
theorem opreplays_law (sl : Value) (zs : List Int) (vx : Value) (x : List Rul) (vs : Value) (s : List Stp) (w : World) (ht : Tops w) (hw : Wid w) (hZ : ZsOk sl zs) (hr : ∀ s ∈ roS sl (ints zs), w.rangeAt s.g s.o s.xs) (hvx : IsTable w vx x) (kx : okT x) (hvs : IsSteps w vs s) :
  Calls Tryz.prog 5 #[sl, vx, vs] w fun e w' => e = .returned (.bool true) ∧ Below w.heap.size w w' := by
 have hO := (own_law hr).addTable hvx
 clear hr
 obtain ⟨sa, sc, rfl, -⟩ := hZ.view
 have hfx := hvx.form
 obtain ⟨ax, cx, rfl, -⟩ := hvx.view
 obtain ⟨as9, cs9, rfl, -⟩ := hvs.view
 have hsk : ∀ wq, Keep [] w wq → IsSteps wq (.slice as9 s.length cs9) s := fun wq h => IsCells.keepB hvs h (fun _ _ => List.not_mem_nil)
 clear hvx hvs
 go_enter Tryz.func5, Tryz.ntmps5
 go_wp2_with (go_at_call 11; (with_reducible refine (new_any _ _ _).mono ?_); rintro e wv ⟨n, rfl, hB, hn, hb⟩; replace hO := hO.gain hb hB hn; have hT := hO.tapeIn List.mem_cons_self (by (intro s hs; repeat (first | exact hs | apply List.mem_append_right))) (Nat.zero_le _); clear hb hB hn)
 go_loopg [8] 4 (fun gk q wr => ∃ i i1 : Nat, i ≤ 3 ∧ 4 - i ≤ gk ∧ q = .int .i64 i ∧ i1 ≤ zs.length ∧ Own [] w [⟨n, tcs (.slice sa zs.length sc) i1, 93⟩] [] (roS (.slice ax x.length cx) (cellsR x) ++ roS (.slice sa zs.length sc) (ints zs)) wr)
 case atStart => exact ⟨0, _, by omega, by omega, rfl, hT.le, hO⟩
 case round =>
  clear hO hT
  obtain ⟨i, i1, hi, hgk, rfl, hi1, hO⟩ := hrel
  have hT := hO.tapeIn List.mem_cons_self (by intro s hs; repeat (first | exact hs | apply List.mem_append_right)) hi1
  have s1 : IntKind.i64.wrap ((i : Int) + 1) = (i : Int) + 1 := IntWalk.i64_in _ (by omega)
  by_cases hlt : i < 3
  ·have g1 : decide ((i : Int) < 3) = true := decide_eq_true (by omega)
   go_wp2_with (first | (go_at_call 12; (with_reducible refine (otable_any 5 true hZ (hO.tapeIn List.mem_cons_self (by (intro s hs; repeat (first | exact hs | apply List.mem_append_right))) hT.le) (by omega) (by omega)).mono ?_); rintro e wv ⟨vy, i1, rfl, ⟨y, hv9, hn9, ky, ny, -⟩, hk9, hT1⟩; have hoff9 := off_of_new hO hn9; replace hO := hO.after (by (repeat (exact Upd.here))) hk9 hT1.blk; replace hT := hT1; clear hT1 hk9; have hfy := hv9.form; obtain ⟨ay, cy, rfl, hay, hO⟩ := own_offRS hO ⟨hv9, hoff9⟩; clear hv9 hn9 hoff9) | (go_at_call 21; (with_reducible refine (next_pos 4 hZ (hO.tapeIn List.mem_cons_self (by (intro s hs; repeat (first | exact hs | apply List.mem_append_right))) hT.le) (by omega) (by omega)).mono ?_); rintro e wv ⟨v, i1, rfl, ⟨r4, rfl, hr0, hr1⟩, hk9, hT1⟩; replace hO := hO.after (by (repeat (exact Upd.here))) hk9 hT1.blk; replace hT := hT1; clear hT1 hk9))
   obtain ⟨j0, rfl⟩ : ∃ j : Nat, r4 = (j : Int) := ⟨r4.toNat, by omega⟩
   replace hO := hO.nilRow 26 3
   go_loopw [10, 11] (fun v10 q wr => ∃ (ls : List Stp) (i1 j : Nat), ls.length + j ≤ 3 ∧ q = .int .i64 j ∧ i1 ≤ zs.length ∧ Own [] w [⟨n, tcs (.slice sa zs.length sc) i1, 93⟩] [⟨v10, ls.length, cellsQ ls, 26, 3⟩] (roS (.slice ay y.length cy) (cellsR y) ++ (roS (.slice ax x.length cx) (cellsR x) ++ roS (.slice sa zs.length sc) (ints zs))) wr) (fun _ q _ => (intOf q).toNat)
   case atStart => exact ⟨[], _, j0, by simp; omega, rfl, hT.le, hO⟩
   case round =>
    clear hO hT
    obtain ⟨ls, i1, j, hj, rfl, hi1, hO⟩ := hrel
    have hT := hO.tapeIn List.mem_cons_self (by intro s hs; repeat (first | exact hs | apply List.mem_append_right)) hi1
    have s2 : IntKind.i64.wrap ((j : Int) - 1) = (j : Int) - 1 := IntWalk.i64_in _ (by omega)
    by_cases hj0 : 0 < j
    ·have g4 : decide ((0 : Int) < (j : Int)) = true := decide_eq_true (by omega)
     go_wp2_with (first | ((with_reducible refine is_append ?_); refine own_apQ (o := ⟨some 36, _, _, _, _, _⟩) (hO := hO) (h := ?_); clear hO; intro g36 c36 wv hO) | (go_at_call 13; (with_reducible refine (ostep_any (m := y.length) hZ (hO.tapeIn List.mem_cons_self (by (intro s hs; repeat (first | exact hs | apply List.mem_append_right))) hT.le) (by omega)).mono ?_); rintro e wv ⟨v, i1, rfl, ⟨kd, a, b, rfl⟩, hk9, hT1⟩; replace hO := hO.after (by (repeat (exact Upd.here))) hk9 hT1.blk; replace hT := hT1; clear hT1 hk9) | ((with_reducible refine is_build ?_); (refine' own_buildN (o := ⟨some 35, _, _, _, _, _⟩) [.agg #[.int .i64 kd, .int .i64 a, .int .i64 b]] hO (by rfl) rfl slice_Steps rfl rfl (by rfl) (by decide) (by decide) ?_); clear hO; intro n35 wv hO))
     go_roundw
     case rel =>
      refine ⟨ls ++ [(kd, a, b)], _, j - 1, by simp; omega, by go_num, hT.le, ?_⟩
      rw [List.length_append, cellsQ_append, cellsQ_one]
      exact hO.sub (by repeat (first | exact List.Sublist.refl _ | apply List.Sublist.cons)) (.refl _) (fun q hq => hq)
     case measure => simp [intOf]; omega
    ·obtain rfl : j = 0 := by omega
     have g4 : decide ((0 : Int) < ((0 : Nat) : Int)) = false := rfl
     by_cases h5 : i = 2 ∧ x.length ≤ 5 ∧ s.length ≤ 10
     ·obtain ⟨h5, h6, h7⟩ := h5
      have g2 : ((i : Int) == 2) = true := beq_iff_eq.2 (by omega)
      have g3 : decide ((x.length : Int) ≤ 5) = true := decide_eq_true (by omega)
      have g5 : decide ((s.length : Int) ≤ 10) = true := decide_eq_true (by omega)
      have nr := rpV_short (l := s) kx (by omega)
      clear h5
      go_wp2_with (first | (go_at_call 22; (with_reducible refine (oReplay_any (t := x) (l := s) _ (hO.tops ht (by simp)) (hO.isRm hfx) (hsk _ hO.keep) kx (by omega) (by omega)).mono ?_); rintro e wv ⟨v3, rfl, hv9, hn9, hb9⟩; have hf3 := hv9.form; replace hO := hO.gainR hb9 hv9 hn9; clear hb9 hv9 hn9; replace hT := (hO.tapeIn List.mem_cons_self (by (intro s hs; repeat (first | exact hs | apply List.mem_append_right))) hT.le); have e2 := bne_self_eq_false (rpV x s).2) | (go_at_call 23; (with_reducible refine (rReplay_any (t := x) (l := s) _ (hO.isRm hfx) (hsk _ hO.keep) kx (by omega) (by omega)).mono ?_); rintro e wv ⟨v4, rfl, hv9, hn9, hb9⟩; have hf4 := hv9.form; replace hO := hO.gainR hb9 hv9 hn9; clear hb9 hv9 hn9; replace hT := (hO.tapeIn List.mem_cons_self (by (intro s hs; repeat (first | exact hs | apply List.mem_append_right))) hT.le)) | (go_at_call 16; (with_reducible refine (same8_self _ _ (rpV x s).1 _ (hO.isRm hf3) (hO.isRm hf4) nr).mono ?_); rintro e wv ⟨rfl, hb9⟩; replace hO := hO.call hb9; clear hb9; replace hT := (hO.tapeIn List.mem_cons_self (by (intro s hs; repeat (first | exact hs | apply List.mem_append_right))) hT.le)))
      go_roundg (3 - i)
      case measure => omega
      case rel => exact ⟨i + 1, _, by omega, by omega, by go_num, hT.le, hO.sub (by repeat (exact List.Sublist.refl _)) (by repeat (first | exact List.Sublist.refl _ | apply List.Sublist.cons)) (fun q hq => by repeat (first | exact hq | apply List.mem_append_right))⟩
     ·have nr := rpV_short (l := ls) ky (by omega)
      by_cases h5a : i = 2
      ·have g2 : ((i : Int) == 2) = true := beq_iff_eq.2 (by omega)
       by_cases h5b : x.length ≤ 5
       ·have g3 : decide ((x.length : Int) ≤ 5) = true := decide_eq_true (by omega)
        have g5 : decide ((s.length : Int) ≤ 10) = false := decide_eq_false (by omega)
        clear h5 h5a
        go_wp2_with (first | (go_at_call 22; (with_reducible refine (oReplay_any (t := y) (l := ls) _ (hO.tops ht (by simp)) (hO.isRm hfy) (hO.rowSteps rfl List.mem_cons_self) ky (by omega) (by omega)).mono ?_); rintro e wv ⟨v3, rfl, hv9, hn9, hb9⟩; have hf3 := hv9.form; replace hO := hO.gainR hb9 hv9 hn9; clear hb9 hv9 hn9; replace hT := (hO.tapeIn List.mem_cons_self (by (intro s hs; repeat (first | exact hs | apply List.mem_append_right))) hT.le); have e2 := bne_self_eq_false (rpV y ls).2) | (go_at_call 23; (with_reducible refine (rReplay_any (t := y) (l := ls) _ (hO.isRm hfy) (hO.rowSteps rfl List.mem_cons_self) ky (by omega) (by omega)).mono ?_); rintro e wv ⟨v4, rfl, hv9, hn9, hb9⟩; have hf4 := hv9.form; replace hO := hO.gainR hb9 hv9 hn9; clear hb9 hv9 hn9; replace hT := (hO.tapeIn List.mem_cons_self (by (intro s hs; repeat (first | exact hs | apply List.mem_append_right))) hT.le)) | (go_at_call 16; (with_reducible refine (same8_self _ _ (rpV y ls).1 _ (hO.isRm hf3) (hO.isRm hf4) nr).mono ?_); rintro e wv ⟨rfl, hb9⟩; replace hO := hO.call hb9; clear hb9; replace hT := (hO.tapeIn List.mem_cons_self (by (intro s hs; repeat (first | exact hs | apply List.mem_append_right))) hT.le)))
        go_roundg (3 - i)
        case measure => omega
        case rel => exact ⟨i + 1, _, by omega, by omega, by go_num, hT.le, hO.sub (by repeat (exact List.Sublist.refl _)) (by repeat (first | exact List.Sublist.refl _ | apply List.Sublist.cons)) (fun q hq => by repeat (first | exact hq | apply List.mem_append_right))⟩
       ·have g3 : decide ((x.length : Int) ≤ 5) = false := decide_eq_false (by omega)
        clear h5 h5a
        go_wp2_with (first | (go_at_call 22; (with_reducible refine (oReplay_any (t := y) (l := ls) _ (hO.tops ht (by simp)) (hO.isRm hfy) (hO.rowSteps rfl List.mem_cons_self) ky (by omega) (by omega)).mono ?_); rintro e wv ⟨v3, rfl, hv9, hn9, hb9⟩; have hf3 := hv9.form; replace hO := hO.gainR hb9 hv9 hn9; clear hb9 hv9 hn9; replace hT := (hO.tapeIn List.mem_cons_self (by (intro s hs; repeat (first | exact hs | apply List.mem_append_right))) hT.le); have e2 := bne_self_eq_false (rpV y ls).2) | (go_at_call 23; (with_reducible refine (rReplay_any (t := y) (l := ls) _ (hO.isRm hfy) (hO.rowSteps rfl List.mem_cons_self) ky (by omega) (by omega)).mono ?_); rintro e wv ⟨v4, rfl, hv9, hn9, hb9⟩; have hf4 := hv9.form; replace hO := hO.gainR hb9 hv9 hn9; clear hb9 hv9 hn9; replace hT := (hO.tapeIn List.mem_cons_self (by (intro s hs; repeat (first | exact hs | apply List.mem_append_right))) hT.le)) | (go_at_call 16; (with_reducible refine (same8_self _ _ (rpV y ls).1 _ (hO.isRm hf3) (hO.isRm hf4) nr).mono ?_); rintro e wv ⟨rfl, hb9⟩; replace hO := hO.call hb9; clear hb9; replace hT := (hO.tapeIn List.mem_cons_self (by (intro s hs; repeat (first | exact hs | apply List.mem_append_right))) hT.le)))
        go_roundg (3 - i)
        case measure => omega
        case rel => exact ⟨i + 1, _, by omega, by omega, by go_num, hT.le, hO.sub (by repeat (exact List.Sublist.refl _)) (by repeat (first | exact List.Sublist.refl _ | apply List.Sublist.cons)) (fun q hq => by repeat (first | exact hq | apply List.mem_append_right))⟩
      ·have g2 : ((i : Int) == 2) = false := beq_eq_false_iff_ne.2 (by omega)
       clear h5 h5a
       go_wp2_with (first | (go_at_call 22; (with_reducible refine (oReplay_any (t := y) (l := ls) _ (hO.tops ht (by simp)) (hO.isRm hfy) (hO.rowSteps rfl List.mem_cons_self) ky (by omega) (by omega)).mono ?_); rintro e wv ⟨v3, rfl, hv9, hn9, hb9⟩; have hf3 := hv9.form; replace hO := hO.gainR hb9 hv9 hn9; clear hb9 hv9 hn9; replace hT := (hO.tapeIn List.mem_cons_self (by (intro s hs; repeat (first | exact hs | apply List.mem_append_right))) hT.le); have e2 := bne_self_eq_false (rpV y ls).2) | (go_at_call 23; (with_reducible refine (rReplay_any (t := y) (l := ls) _ (hO.isRm hfy) (hO.rowSteps rfl List.mem_cons_self) ky (by omega) (by omega)).mono ?_); rintro e wv ⟨v4, rfl, hv9, hn9, hb9⟩; have hf4 := hv9.form; replace hO := hO.gainR hb9 hv9 hn9; clear hb9 hv9 hn9; replace hT := (hO.tapeIn List.mem_cons_self (by (intro s hs; repeat (first | exact hs | apply List.mem_append_right))) hT.le)) | (go_at_call 16; (with_reducible refine (same8_self _ _ (rpV y ls).1 _ (hO.isRm hf3) (hO.isRm hf4) nr).mono ?_); rintro e wv ⟨rfl, hb9⟩; replace hO := hO.call hb9; clear hb9; replace hT := (hO.tapeIn List.mem_cons_self (by (intro s hs; repeat (first | exact hs | apply List.mem_append_right))) hT.le)))
       go_roundg (3 - i)
       case measure => omega
       case rel => exact ⟨i + 1, _, by omega, by omega, by go_num, hT.le, hO.sub (by repeat (exact List.Sublist.refl _)) (by repeat (first | exact List.Sublist.refl _ | apply List.Sublist.cons)) (fun q hq => by repeat (first | exact hq | apply List.mem_append_right))⟩
  ·have g1 : decide ((i : Int) < 3) = false := decide_eq_false (by omega)
   go_wp2_with (go_at_call 17; (with_reducible refine (sane36_any _ (hO.tops ht (by simp)) (hO.wid hw (by simp))).mono ?_); rintro e wv ⟨rfl, hb9⟩; replace hO := hO.call hb9; clear hb9)
   go_ret
   exact ⟨rfl, hO.keep.below⟩
end Go.Proofs.YtbdfblgdmappeaaGreatDoor
