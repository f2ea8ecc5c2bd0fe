/- OptimizeKeeps: the walk. -/
import Derived.Deep.CutRange
import Derived.Deep.DeepCutAuto
import Derived.Test.YtbdfblgdmappeaaGreatDoorQP
import Derived.Test.YtbdfblgdmappeaaGreatDoorQM
import Derived.Test.YtbdfblgdmappeaaGreatDoorQJ
import Derived.Test.YtbdfblgdmappeaaGreatDoorQB
import Derived.Test.YtbdfblgdmappeaaGreatDoorMB
namespace Go.Proofs.YtbdfblgdmappeaaGreatDoor
open Go.RowKit
set_option maxRecDepth 100000
theorem difF_keeps {x y : List Rul} (kx : okT x) (ky : okT y) (hd : ∀ h : Hd, h.ok → decP y h = decP x h) (_h0 : (difF x y).2.2 = 0) : (difF x y).2.1 = false := by
 unfold difF
 split
 ·rfl
 ·rename_i a ha
  split
  ·rfl
  ·rename_i b hb
   dsimp only
   rw [differ_same kx ky ha hb fun h ho => (hd h ho).symm]
   rfl
set_option maxHeartbeats 16000000 in
theorem opkeeps_law (sl : Value) (zs : List Int) (h : Hd) (w : World) (ht : Tops w) (hw : Wid w) (hZ : ZsOk sl zs) (hr : ∀ s ∈ roS sl (ints zs), w.rangeAt s.g s.o s.xs) (ho : h.ok) :
  Calls Tryz.prog 6 #[sl, hv h] w fun e w' => e = .returned (.bool true) ∧ Below w.heap.size w w' := by
 have hO := own_law hr
 clear hr
 obtain ⟨sa, sc, rfl, -⟩ := hZ.view
 go_enter Tryz.func6, Tryz.ntmps6
 go_wp2_with (first | (refine bx9 3 hO ?_; clear hO; intro n3 wv hO) | (go_at_call 11; (with_reducible refine (new_any _ _ _).mono ?_); rintro e wv ⟨n, rfl, hB, hn, hb⟩; replace hO := hO.gain hb hB hn; have hT := hO.tapeIn List.mem_cons_self (fun _ h => h) (Nat.zero_le _); clear hb hB hn))
 go_loopg [6] 5 (fun gk q wr => ∃ i i1 : Nat, i ≤ 4 ∧ 5 - i ≤ gk ∧ q = .int .i64 i ∧ i1 ≤ zs.length ∧ Own [] w [⟨n, tcs (.slice sa zs.length sc) i1, 93⟩, ⟨n3, hcs h, 48⟩] [] (roS (.slice sa zs.length sc) (ints zs)) wr)
 case atStart => exact ⟨0, _, by omega, by omega, rfl, hT.le, hO⟩
 case round =>
  clear hO hT
  obtain ⟨i, i1, hi, hgk, rfl, hi1, hO⟩ := hrel
  have hT := hO.tapeIn List.mem_cons_self (by intro s hs; repeat (exact hs)) hi1
  have s1 : IntKind.i64.wrap ((i : Int) + 1) = (i : Int) + 1 := IntWalk.i64_in _ (by omega)
  by_cases hlt : i < 4
  ·have g1 : decide ((i : Int) < 4) = true := decide_eq_true (by omega)
   go_upto_region 7 with (first | (go_at_call 12; (with_reducible refine (otable_any 5 false hZ (hO.tapeIn List.mem_cons_self (fun _ h => h) hT.le) (by omega) (by omega)).mono ?_); rintro e wv ⟨vy, i1, rfl, ⟨y, hv9, hn9, ky, ny, gy⟩, hk9, hT1⟩; have hoff9 := off_of_new hO hn9; replace hO := hO.after (by (repeat (exact Upd.here))) hk9 hT1.blk; replace hT := hT1; clear hT1 hk9; have hfy := hv9.form; obtain ⟨ay, cy, rfl, hay, hO⟩ := own_offRS hO ⟨hv9, hoff9⟩; clear hv9 hn9 hoff9) | (go_at_call 13; (with_reducible refine (ostep_any (m := y.length) hZ (hO.tapeIn List.mem_cons_self (by (intro s hs; repeat (first | exact hs | apply List.mem_append_right))) hT.le) (by omega)).mono ?_); rintro e wv ⟨v, i1, rfl, ⟨kd, a, b, rfl⟩, hk9, hT1⟩; replace hO := hO.after (by (repeat (exact Upd.here))) hk9 hT1.blk; replace hT := hT1; clear hT1 hk9) | (go_at_call 14; (with_reducible refine (oApply_any (t := y) kd a b _ (hO.tops ht (by simp)) (hO.isRm hfy) ky (by omega)).mono ?_); rintro e wv ⟨v3, rfl, hv9, hn9, hb9⟩; have hf3 := hv9.form; replace hO := hO.gainR hb9 hv9 hn9; clear hb9 hv9 hn9; replace hT := (hO.tapeIn List.mem_cons_self (by (intro s hs; repeat (first | exact hs | apply List.mem_append_right))) hT.le)))
   obtain ⟨r, hr⟩ : ∃ r, r = apF y (kd, a, b) := ⟨_, rfl⟩
   rw [← hr] at hO hf3 ⊢
   obtain ⟨u, e⟩ := r
   dsimp only at hO hf3 ⊢
   by_cases he : e = 0
   ·subst he
    obtain ⟨ku, -, nu, hd⟩ := apF_dec ky hr.symm
    have hD := fun w ht hv hu => fDiffer_any (vt := .slice ay y.length cy) (vu := v3) (t := y) (u := u) w ht hv hu ky ku (by omega) (by omega)
    have hK := difF_keeps ky ku hd
    have hdec := hd h ho
    have h5 := fun w hv => rDecide_any (vt := .slice ay y.length cy) (t := y) h w ho hv (by omega)
    have h6 := fun w hv => rDecide_any (vt := v3) (t := u) h w ho hv (by omega)
    rw [hdec] at h6
    clear hr hd hdec
    generalize difF y u = D at *
    obtain ⟨D1, D2, D3⟩ := D
    dsimp only at hD hK
    have e7 := bne_self_eq_false (decP y h)
    generalize decP y h = dp at *
    by_cases hz : D3 = 0
    ·subst hz
     obtain rfl : D2 = false := hK rfl
     go_wp2_with (first | ((with_reducible refine is_load ?_); (refine own_ldQ (h := ?_))) | ((with_reducible refine is_store ?_); (refine own_stRQ (hO := hO) (h := ?_); clear hO; intro wv hO)) | ((with_reducible refine is_alloc ?_); refine own_alQ (o := ⟨some 10, _, _, _, _, _⟩) (hO := hO) (h := ?_); clear hO; intro n10 wv hO) | (go_at_call 24; (with_reducible refine (hD _ (hO.tops ht (by simp)) (hO.isRm hfy) (hO.isRm hf3)).mono ?_); rintro e wv ⟨rfl, hb9⟩; replace hO := hO.call hb9; clear hb9; replace hT := (hO.tapeIn List.mem_cons_self (by (intro s hs; repeat (first | exact hs | apply List.mem_append_right))) hT.le)) | (go_at_call 25; (with_reducible refine (h5 _ (hO.isRm hfy)).mono ?_); rintro e wv ⟨rfl, hb9⟩; replace hO := hO.call hb9; clear hb9; replace hT := (hO.tapeIn (by (repeat (first | exact List.mem_cons_self | refine List.mem_cons_of_mem _ ?_))) (by (intro s hs; repeat (first | exact hs | apply List.mem_append_right))) hT.le)) | (go_at_call 25; (with_reducible refine (h6 _ (hO.isRm hf3)).mono ?_); rintro e wv ⟨rfl, hb9⟩; replace hO := hO.call hb9; clear hb9; replace hT := (hO.tapeIn (by (repeat (first | exact List.mem_cons_self | refine List.mem_cons_of_mem _ ?_))) (by (intro s hs; repeat (first | exact hs | apply List.mem_append_right))) hT.le)))
     go_roundg (4 - i)
     case measure => omega
     case rel => exact ⟨i + 1, _, by omega, by omega, by go_num, hT.le, hO.sub (by repeat (first | exact List.Sublist.refl _ | apply List.Sublist.cons)) (.refl _) (fun q hq => by repeat (first | exact hq | apply List.mem_append_right))⟩
    ·have g3 : (D3 == 0) = false := beq_eq_false_iff_ne.2 hz
     clear hK hz
     go_wp2_with (first | ((with_reducible refine is_load ?_); (refine own_ldQ (h := ?_))) | ((with_reducible refine is_store ?_); (refine own_stRQ (hO := hO) (h := ?_); clear hO; intro wv hO)) | ((with_reducible refine is_alloc ?_); refine own_alQ (o := ⟨some 10, _, _, _, _, _⟩) (hO := hO) (h := ?_); clear hO; intro n10 wv hO) | (go_at_call 24; (with_reducible refine (hD _ (hO.tops ht (by simp)) (hO.isRm hfy) (hO.isRm hf3)).mono ?_); rintro e wv ⟨rfl, hb9⟩; replace hO := hO.call hb9; clear hb9; replace hT := (hO.tapeIn List.mem_cons_self (by (intro s hs; repeat (first | exact hs | apply List.mem_append_right))) hT.le)) | (go_at_call 25; (with_reducible refine (h5 _ (hO.isRm hfy)).mono ?_); rintro e wv ⟨rfl, hb9⟩; replace hO := hO.call hb9; clear hb9; replace hT := (hO.tapeIn (by (repeat (first | exact List.mem_cons_self | refine List.mem_cons_of_mem _ ?_))) (by (intro s hs; repeat (first | exact hs | apply List.mem_append_right))) hT.le)) | (go_at_call 25; (with_reducible refine (h6 _ (hO.isRm hf3)).mono ?_); rintro e wv ⟨rfl, hb9⟩; replace hO := hO.call hb9; clear hb9; replace hT := (hO.tapeIn (by (repeat (first | exact List.mem_cons_self | refine List.mem_cons_of_mem _ ?_))) (by (intro s hs; repeat (first | exact hs | apply List.mem_append_right))) hT.le)))
     go_roundg (4 - i)
     case measure => omega
     case rel => exact ⟨i + 1, _, by omega, by omega, by go_num, hT.le, hO.sub (by repeat (first | exact List.Sublist.refl _ | apply List.Sublist.cons)) (.refl _) (fun q hq => by repeat (first | exact hq | apply List.mem_append_right))⟩
   ·have g2 : (e != 0) = true := by simpa using he
    clear hr he
    go_wp2_with fail
    go_roundg (4 - i)
    case measure => omega
    case rel => exact ⟨i + 1, _, by omega, by omega, by go_num, hT.le, hO.sub (by repeat (exact List.Sublist.refl _)) (.refl _) (fun q hq => by repeat (first | exact hq | apply List.mem_append_right))⟩
  ·have g1 : decide ((i : Int) < 4) = false := decide_eq_false (by omega)
   go_wp2_with (go_at_call 17; (with_reducible refine (sane36_any _ (hO.tops ht (by simp)) (hO.wid hw (by simp))).mono ?_); rintro e wv ⟨rfl, hb9⟩; replace hO := hO.call hb9; clear hb9)
   go_ret
   exact ⟨rfl, hO.keep.below⟩
end Go.Proofs.YtbdfblgdmappeaaGreatDoor
