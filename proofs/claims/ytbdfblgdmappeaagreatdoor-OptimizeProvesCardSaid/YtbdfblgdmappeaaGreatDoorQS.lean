/- OptimizeProves: the walk. -/
import Derived.Deep.CutRange
import Derived.Deep.DeepCutAuto
import Derived.Test.YtbdfblgdmappeaaGreatDoorQR
import Derived.Test.YtbdfblgdmappeaaGreatDoorQP
import Derived.Test.YtbdfblgdmappeaaGreatDoorQA
import Derived.Test.YtbdfblgdmappeaaGreatDoorQM
import Derived.Test.YtbdfblgdmappeaaGreatDoorQJ
import Derived.Test.YtbdfblgdmappeaaGreatDoorQB
import Derived.Test.YtbdfblgdmappeaaGreatDoorMB
namespace Go.Proofs.YtbdfblgdmappeaaGreatDoor
open Go.RowKit
set_option maxRecDepth 100000
theorem cosF_pos (rg : Bool) (b : Bx) : 0 ≤ cosF rg b := by
 unfold cosF
 split
 ·split
  ·omega
  ·rw [cosB_is]; omega
 ·omega
theorem totF_le {rg : Bool} {t : List Rul} (kt : okT t) : 0 ≤ totF (cosF rg) t ∧ totF (cosF rg) t ≤ t.length * 2000000000 := by
 induction t with
 | nil => simp [totF]
 | cons r t ih =>
  have h1 := cosF_bd rg (kt r List.mem_cons_self)
  have h2 := ih fun q hq => kt q (List.mem_cons_of_mem _ hq)
  simp only [totF, List.length_cons]
  omega
theorem totF_snoc {cf : Bx → Int} {t : List Rul} {k : Nat} (hk : k < t.length) : totF cf (t.take (k + 1)) = totF cf (t.take k) + cf t[k].1 := by
 rw [List.take_succ_eq_append_getElem hk, totF_append]
 simp [totF]
set_option maxHeartbeats 4000000 in
theorem rTotal_any (rg : Bool) {vt : Value} {t : List Rul} (w : World) (hv : IsTable w vt t) (kt : okT t) (hl : t.length ≤ 20) :
  Calls Tryz.prog 26 #[vt, .bool rg] w fun e w' => e = .returned (.int .i64 (totF (cosF rg) t)) ∧ Below w.heap.size w w' := by
 have hO := own_argR hv
 obtain ⟨a, c, rfl, ha⟩ := hv.view
 clear hv
 go_enter Tryz.func26, Tryz.ntmps26
 go_wp2_with fail
 go_loopw [5, 6] (fun v q wr => ∃ k : Nat, k ≤ t.length ∧ q = .int .i64 k ∧ v = .int .i64 (totF (cosF rg) (t.take k)) ∧ Own [] w [] [] (roS (.slice a t.length c) (cellsR t)) wr) (fun _ q _ => t.length - (intOf q).toNat)
 case atStart => exact ⟨0, by omega, rfl, rfl, hO⟩
 case round =>
  clear hO
  obtain ⟨k, hk, rfl, rfl, hO⟩ := hrel
  have s1 : IntKind.i64.wrap ((k : Int) + 1) = (k : Int) + 1 := IntWalk.i64_in _ (by omega)
  by_cases hlt : k < t.length
  ·have g1 : decide ((k : Int) < (t.length : Int)) = true := decide_eq_true (by omega)
   obtain ⟨g, o, rfl⟩ := ha (by omega)
   simp only [roS] at hO
   have t1 := tk_match t hlt
   have h1 := fun w => rCost_any rg t[k].1 (kt _ (List.getElem_mem hlt)) w
   have b1 := cosF_bd rg (kt _ (List.getElem_mem hlt))
   have b2 := totF_le (rg := rg) (t := t.take k) fun r hr => kt r (List.mem_of_mem_take hr)
   rw [List.length_take] at b2
   have HS := Lib.hid (totF_snoc (cf := cosF rg) hlt)
   generalize cosF rg t[k].1 = cc at *
   generalize t[k].1 = bb at *
   generalize totF (cosF rg) (t.take k) = tt at *
   have s2 : IntKind.i64.wrap (tt + cc) = tt + cc := IntWalk.i64_in _ (by omega)
   go_wp2_with (first | ((with_reducible refine is_load ?_); (refine own_ldQ (h := ?_))) | (go_at_call 59; (with_reducible refine (h1 _).mono ?_); rintro e wv ⟨rfl, hb9⟩; replace hO := hO.call hb9; clear hb9))
   go_roundw
   case rel => exact ⟨k + 1, by omega, by go_num, by rw [HS.out], hO⟩
   case measure => simp [intOf]; omega
  ·obtain rfl : k = t.length := by omega
   have g1 : decide ((t.length : Int) < (t.length : Int)) = false := decide_eq_false (by omega)
   rw [List.take_length]
   go_wp2_with fail
   go_ret
   exact ⟨rfl, hO.keep.below⟩
set_option maxHeartbeats 16000000 in
theorem opproves_law (sl : Value) (zs : List Int) (rg : Bool) (w : World) (ht : Tops w) (hw : Wid w) (hZ : ZsOk sl zs) (hr : ∀ s ∈ roS sl (ints zs), w.rangeAt s.g s.o s.xs) :
  Calls Tryz.prog 7 #[sl, .bool rg] w fun e w' => e = .returned (.bool true) ∧ Below w.heap.size w w' := by
 have hO := own_law hr
 clear hr
 obtain ⟨sa, sc, rfl, -⟩ := hZ.view
 go_enter Tryz.func7, Tryz.ntmps7
 go_upto_region 4 with (first | (go_at_call 11; (with_reducible refine (new_any _ _ _).mono ?_); rintro e wv ⟨n, rfl, hB, hn, hb⟩; replace hO := hO.gain hb hB hn; have hT := hO.tapeIn List.mem_cons_self (fun _ h => h) (Nat.zero_le _); clear hb hB hn) | (go_at_call 12; (with_reducible refine (otable_any 6 false hZ (hO.tapeIn List.mem_cons_self (fun _ h => h) hT.le) (by omega) (by omega)).mono ?_); rintro e wv ⟨vy, i1, rfl, ⟨y, hv9, hn9, ky, ny, gy⟩, hk9, hT1⟩; have hoff9 := off_of_new hO hn9; replace hO := hO.after (by (repeat (exact Upd.here))) hk9 hT1.blk; replace hT := hT1; clear hT1 hk9; have hfy := hv9.form; obtain ⟨ay, cy, rfl, hay, hO⟩ := own_offRS hO ⟨hv9, hoff9⟩; clear hv9 hn9 hoff9) | (go_at_call 18; (with_reducible refine (oOptimize_any (costC rg) (t := y) _ (hO.tops ht (by simp)) (hO.wid hw (by simp)) (hO.isRm hfy) ky (by omega)).mono ?_); rintro e wv ⟨v3, r3, rfl, hv9, hn9, hr9, hs9, hb9⟩; have hf3 := hv9.form; have hg3 := isCells_form hr9; have hO8 := hO.gainR hb9 hv9 hn9; replace hO := hO8.addC2 hO.lt hr9 hs9; clear hO8 hb9 hv9 hn9 hr9 hs9))
 have hV : validT y = true := validT_of (fun r hr => vld_iff.2 (gy rfl r hr).vld) (by omega)
 have hop := fun u l h => opR_some (cf := cosF rg) (u := u) (l := l) hV h
 have hon := fun h => opR_none (cf := cosF rg) hV h
 cases hs : opF (cosF rg) y [] with
 | none =>
  rw [hon hs] at hO ⊢
  clear hop hon hs
  go_wp2_with (go_at_call 17; (with_reducible refine (sane36_any _ (hO.tops ht (by simp)) (hO.wid hw (by simp))).mono ?_); rintro e wv ⟨rfl, hb9⟩; replace hO := hO.call hb9; clear hb9)
  go_ret
  exact ⟨rfl, hO.keep.below⟩
 | some x =>
  obtain ⟨u, l⟩ := x
  rw [hop _ _ hs] at hO hf3 hg3 ⊢
  dsimp only at hO hf3 hg3 ⊢
  obtain ⟨l', hl', ku, hVu, hd, hlen, hdr, hmi, hrp, htot⟩ := opF_spec (cosF_pos rg) ky hV hs
  rw [List.nil_append] at hl'
  subst hl'
  have hnu : u.length ≤ 6 := by omega
  have hnl : l.length ≤ 6 := by omega
  have hrv : rpV y l = (u, 0) := by unfold rpV; rw [if_pos hV, hrp]
  have h4 := fun w ht hv hvl => oReplay_any (vt := .slice ay y.length cy) (vl := r3) (t := y) (l := l) w ht hv hvl ky (by omega) (by omega)
  rw [hrv] at h4
  have hD := fun w ht hv hu => fDiffer_any (vt := .slice ay y.length cy) (vu := v3) (t := y) (u := u) w ht hv hu ky ku (by omega) (by omega)
  have hK := difF_keeps ky ku hd
  have h5 := fun v w hv hu => same8_self v3 v u w hv hu (by omega)
  have h6 := fun w hv => rTotal_any rg (vt := v3) (t := u) w hv ku (by omega)
  have h7 := fun w hv => rTotal_any rg (vt := .slice ay y.length cy) (t := y) w hv ky (by omega)
  have g5 : decide (totF (cosF rg) y < totF (cosF rg) u) = false := decide_eq_false (by omega)
  have s9 : IntKind.i64.wrap ((u.length : Int) + (l.length : Int)) = (y.length : Int) := (IntWalk.i64_in _ (by omega)).trans (by omega)
  have h9 : ∀ k, k < u.length → ∀ w, Tops w → IsTable w v3 u → Calls Tryz.prog 27 #[v3, .int .i64 k] w fun e w' => e = .returned (.tuple #[.bool false, .int .i64 0]) ∧ Below w.heap.size w w' := fun k hk w ht hv => by
   obtain ⟨e, he⟩ := drF_none hdr k (Nat.zero_le _) hk
   have h := sRemovable_any (i := (k : Int)) w ht hv ku (by omega)
   unfold rmP at h
   rw [if_pos hVu, if_neg (by omega), Int.toNat_natCast, he] at h
   exact h
  have h10 := fun w ht hw hv => oOptimize_any (costC rg) (vt := v3) (t := u) w ht hw hv ku (by omega)
  rw [opR_some hVu (opF_again hdr hmi)] at h10
  generalize totF (cosF rg) y = A at *
  generalize totF (cosF rg) u = B at *
  generalize difF y u = D at *
  obtain ⟨D1, D2, D3⟩ := D
  dsimp only at hD hK
  have HL := Lib.hid hlen
  clear hop hon hs hd hlen hdr hmi hrp hrv hV hVu gy htot
  obtain ⟨a3, c3, rfl, -⟩ := hf3.view
  obtain ⟨a4, c4, rfl, -⟩ := hg3.view
  have e9 := bne_self_eq_false (y.length : Int)
  by_cases hz : D3 = 0
  all_goals
   first
    | (subst hz; obtain rfl : D2 = false := hK rfl)
    | have g3 : (D3 == 0) = false := beq_eq_false_iff_ne.2 hz
   clear hK
   go_wp2_with (first | ((with_reducible refine is_store ?_); (refine own_stRQ (hO := hO) (h := ?_); clear hO; intro wv hO)) | ((with_reducible refine is_alloc ?_); refine own_alQ (o := ⟨some 12, _, _, _, _, _⟩) (hO := hO) (h := ?_); clear hO; intro n12 wv hO) | (go_at_call 22; (with_reducible refine (h4 _ (hO.tops ht (by simp)) (hO.isRm hfy) (hO.isStm hg3)).mono ?_); rintro e wv ⟨v4, rfl, hv9, hn9, hb9⟩; have hf4 := hv9.form; replace hO := hO.gainR hb9 hv9 hn9; clear hb9 hv9 hn9) | (go_at_call 24; (with_reducible refine (hD _ (hO.tops ht (by simp)) (hO.isRm hfy) (hO.isRm hf3)).mono ?_); rintro e wv ⟨rfl, hb9⟩; replace hO := hO.call hb9; clear hb9) | (go_at_call 16; (with_reducible refine (h5 _ _ (hO.isRm hf3) (hO.isRm hf4)).mono ?_); rintro e wv ⟨rfl, hb9⟩; replace hO := hO.call hb9; clear hb9) | (go_at_call 26; (with_reducible refine (h6 _ (hO.isRm hf3)).mono ?_); rintro e wv ⟨rfl, hb9⟩; replace hO := hO.call hb9; clear hb9) | (go_at_call 26; (with_reducible refine (h7 _ (hO.isRm hfy)).mono ?_); rintro e wv ⟨rfl, hb9⟩; replace hO := hO.call hb9; clear hb9))
   go_loopw [15] (fun q wr => ∃ k : Nat, k ≤ u.length ∧ q = .int .i64 k ∧ Own [] w [] [] (roS (.slice a3 u.length c3) (cellsR u)) wr) (fun q _ => u.length - (intOf q).toNat)
   case atStart => exact ⟨0, by omega, rfl, hO.sub (List.nil_sublist _) (.refl _) (by intro q hq; repeat (first | exact List.mem_append_left _ hq | apply List.mem_append_right))⟩
   case round =>
    clear hO
    obtain ⟨k, hk, rfl, hO⟩ := hrel
    have s1 : IntKind.i64.wrap ((k : Int) + 1) = (k : Int) + 1 := IntWalk.i64_in _ (by omega)
    by_cases hlt : k < u.length
    ·have g1 : decide ((k : Int) < (u.length : Int)) = true := decide_eq_true (by omega)
     have h8 := h9 k hlt
     go_wp2_with (go_at_call 27; (with_reducible refine (h8 _ (hO.tops ht (by simp)) (hO.isRm hf3)).mono ?_); rintro e wv ⟨rfl, hb9⟩; replace hO := hO.call hb9; clear hb9)
     go_roundw
     case rel => exact ⟨k + 1, by omega, by go_num, hO⟩
     case measure => simp [intOf]; omega
    ·obtain rfl : k = u.length := by omega
     have g1 : decide ((u.length : Int) < (u.length : Int)) = false := decide_eq_false (by omega)
     go_wp2_with (first | (go_at_call 18; (with_reducible refine (h10 _ (hO.tops ht (by simp)) (hO.wid hw (by simp)) (hO.isRm hf3)).mono ?_); rintro e wv ⟨v5, r5, rfl, hv9, hn9, hr9, -, hb9⟩; have hf5 := hv9.form; (obtain ⟨a5, c5, rfl, -⟩ := FormC.view (show FormC r5 0 from isCells_form hr9)); replace hO := hO.gainR hb9 hv9 hn9; clear hb9 hv9 hn9 hr9) | (go_at_call 16; (with_reducible refine (h5 _ _ (hO.isRm hf3) (hO.isRm hf5)).mono ?_); rintro e wv ⟨rfl, hb9⟩; replace hO := hO.call hb9; clear hb9) | (go_at_call 17; (with_reducible refine (sane36_any _ (hO.tops ht (by simp)) (hO.wid hw (by simp))).mono ?_); rintro e wv ⟨rfl, hb9⟩; replace hO := hO.call hb9; clear hb9))
     go_ret
     exact ⟨rfl, hO.keep.below⟩
end Go.Proofs.YtbdfblgdmappeaaGreatDoor
