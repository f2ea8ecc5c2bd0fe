/- Contracts of the reference of layer 3 (third part): Subtract, Hull. -/
import Derived.Test.YtbdfblgdmappeaaGreatDoorMB
import Derived.Test.YtbdfblgdmappeaaGreatDoorQC
import Derived.Test.YtbdfblgdmappeaaGreatDoorPD
import Derived.Test.YtbdfblgdmappeaaGreatDoorQE
namespace Go.Proofs.YtbdfblgdmappeaaGreatDoor
open Go.RowKit
set_option maxRecDepth 100000
theorem table_of_row {w : World} {base k : Nat} {v : Value} {l : List Rul} (h : w.ownsRow base 100 11 v k (cellsR l)) : IsTable w v l := by
 obtain ⟨h1, h2⟩ := h
 have hk : l.length = k := by rw [cellsR_length] at h1; omega
 rcases h2 with ⟨hv, h0⟩ | ⟨g, cap, cur, hv, _, hg, hc, _, _, ht⟩
 ·left; refine ⟨hv, List.length_eq_zero_iff.1 (by omega)⟩
 ·right
  refine ⟨g, 0, cap, by rw [hv, hk], by rw [hk]; exact hc, fun j u hj => ?_⟩
  rw [cell_of_row w g (0 + j) cur _ _ hg]
  rw [← ht, List.getElem?_take] at hj
  split at hj
  ·simpa using hj
  ·cases hj
theorem MkTable.ret {w w' : World} {l : List Rul} {e : Ending} (h : MkTable w l e w') : RetTable w l e w' := by
 obtain ⟨v, h1, h2, h3⟩ := h
 exact ⟨v, h1, ⟨table_of_row h2, fun g hg => (h2.lt g hg).1⟩, h3⟩
theorem own_argQ {w : World} {v : Value} {l : List Stp} (h : IsSteps w v l) : Own [] w [] [] (roS v (cellsQ l)) w := by
 have := (own_start [] w).addC2 (B := 0) (fun g hg => by simp [excl] at hg) h (fun _ _ => Nat.zero_le _)
 rwa [List.append_nil] at this
theorem IsSteps.view {w : World} {v : Value} {l : List Stp} (h : IsSteps w v l) : ∃ a c, v = .slice a l.length c ∧ (0 < l.length → ∃ g o, a = some ⟨g, o, none⟩) := (isCells_form h).view
def rpV (t : List Rul) (l : List Stp) : List Rul × Int := if validT t = true then rpF t l else ([], 1)
theorem rpF_nil (t : List Rul) : rpF t [] = (t, 0) := rfl
theorem rpF_go {u : List Rul} {l : List Stp} {k : Nat} (h : k < l.length) (he : (apF u l[k]).2 = 0) : rpF u (l.drop k) = rpF (apF u l[k]).1 (l.drop (k + 1)) := by
 rw [List.drop_eq_getElem_cons h, rpF, if_pos he]
theorem rpF_err {u : List Rul} {l : List Stp} {k : Nat} (h : k < l.length) (he : (apF u l[k]).2 ≠ 0) : rpF u (l.drop k) = ([], (apF u l[k]).2) := by
 rw [List.drop_eq_getElem_cons h, rpF, if_neg he]
theorem apF_len {t u : List Rul} {s : Stp} (kt : okT t) (h : (apF t s).2 = 0) (e : (apF t s).1 = u) : okT u ∧ u.length ≤ t.length := by
 have := apF_dec (u := u) (s := s) kt (by rw [← e, ← h])
 exact ⟨this.1, this.2.2.1⟩
set_option maxHeartbeats 8000000 in
theorem oReplay_any {vt vl : Value} {t : List Rul} {l : List Stp} (w : World) (ht : Tops w) (hv : IsTable w vt t) (hvl : IsSteps w vl l) (kt : okT t) (hl : t.length ≤ 1000000000000) (hll : l.length ≤ 1000000000000) :
  Calls Tryz.prog 22 #[vt, vl] w (ApPost w (rpV t l)) := by
 have hO := (own_argQ hvl).addTable hv
 have h1 : ∀ w, Tops w → IsTable w vt t → Calls Tryz.prog 43 #[vt] w fun e w' => e = .returned (.bool (validT t)) ∧ Below w.heap.size w w' := fun w ht hv => fValid_any w ht hv (by omega)
 obtain ⟨a, c, rfl, -⟩ := hv.view
 obtain ⟨b, d, rfl, hb⟩ := hvl.view
 unfold rpV
 have h0 := fun w hv => cloneT_any (vl := .slice a t.length c) (l := t) w hv (by omega)
 cases hV : validT t with
 | false =>
  rw [hV] at h1
  rw [if_neg Bool.false_ne_true]
  clear hV
  go_enter Tryz.func22, Tryz.ntmps22
  go_wp2_with (go_at_call 43; (with_reducible refine (h1 _ (hO.tops ht (by simp)) (hv.keep0 hO)).mono ?_); rintro e wv ⟨rfl, hb9⟩; replace hO := hO.call hb9; clear hb9; clear h1)
  go_ret2
  exact ⟨_, rfl, .inl ⟨rfl, rfl⟩, new_nilS _, hO.keep.below⟩
 | true =>
  rw [hV] at h1
  rw [if_pos rfl]
  clear hV
  go_enter Tryz.func22, Tryz.ntmps22
  go_wp2_with (first | (go_at_call 43; (with_reducible refine (h1 _ (hO.tops ht (by simp)) (hv.keep0 hO)).mono ?_); rintro e wv ⟨rfl, hb9⟩; replace hO := hO.call hb9; clear hb9; clear h1) | (go_at_call 52; (with_reducible refine (h0 _ (hv.keep0 hO)).mono ?_); rintro e wv h9; obtain ⟨v6, rfl, ⟨hv9, hN9⟩, hb9⟩ := h9.ret; have hf6 := hv9.form; (have hN6 : NewFrom w v6 := (fun g hg => Nat.le_trans hO.keep.size (hN9 g hg))); replace hO := hO.gainR hb9 hv9 (fun g hg => hN9 g hg); clear hb9 hv9))
  go_loopw [6, 17] (fun v6 q wr => ∃ (k : Nat) (u : List Rul), k ≤ l.length ∧ q = .int .i64 k ∧ okT u ∧ u.length ≤ t.length ∧ Hid (rpF t l = rpF u (l.drop k)) ∧ FormR v6 u ∧ NewFrom w v6 ∧ Own [] w [] [] (roS v6 (cellsR u) ++ roS (.slice b l.length d) (cellsQ l)) wr) (fun _ q _ => l.length - (intOf q).toNat)
  case atStart => exact ⟨0, t, by omega, rfl, kt, by omega, Lib.hid rfl, hf6, hN6, hO.sub (.refl _) (.refl _) (fun q hq => by simp only [List.mem_append] at hq ⊢; grind)⟩
  case round =>
   clear hO hf6 hN6
   obtain ⟨k, u, hk, rfl, ku, nu, HP, hf6, hN6, hO⟩ := hrel
   by_cases hlt : k < l.length
   ·skip
    obtain ⟨g, o, rfl⟩ := hb (by omega)
    rw [show roS (.slice (some ⟨g, o, none⟩) l.length d) (cellsQ l) = [⟨g, o, cellsQ l⟩] from rfl] at hO
    replace hO := hO.bring
    simp only [List.append_nil] at hO
    have t1 := tk_step l hlt
    have HG := Lib.hid (rpF_go (u := u) hlt)
    have HE := Lib.hid (rpF_err (u := u) hlt)
    obtain ⟨⟨kd, i, j⟩, hs⟩ : ∃ s, s = l[k] := ⟨_, rfl⟩
    rw [← hs] at t1 HG HE
    clear hs
    have HL := Lib.hid (fun h => apF_len (s := (kd, i, j)) (t := u) ku h rfl)
    replace t1 : List.take [Value.int .i64 kd, .int .i64 i, .int .i64 j].length (List.drop (k * 3) (cellsQ l)) = [Value.int .i64 kd, .int .i64 i, .int .i64 j] := t1
    have h2 := fun vu w ht hv => oApply_any (vt := vu) (t := u) kd i j w ht hv ku (by omega)
    generalize apF u (kd, i, j) = r at *
    obtain ⟨u2, e2⟩ := r
    dsimp only at HG HE HL
    by_cases he : e2 = 0
    ·subst he
     obtain ⟨ku2, nu2⟩ := HL.out rfl
     have HP2 := Lib.hid (HP.out.trans (HG.out rfl))
     clear HP HG HE HL
     go_wp2_with (first | ((with_reducible refine is_load ?_); (refine own_ldQ (h := ?_))) | ((with_reducible refine is_store ?_); (refine own_stRQ (hO := hO) (h := ?_); clear hO; intro wv hO)) | ((with_reducible refine is_alloc ?_); refine own_alQ (o := ⟨some 8, _, _, _, _, _⟩) (hO := hO) (h := ?_); clear hO; intro n8 wv hO) | (go_at_call 14; (with_reducible refine (h2 _ _ (hO.tops ht (by simp)) (hO.isR hf6 (by intro q hq; repeat (first | exact hq | apply List.mem_cons_of_mem)))).mono ?_); rintro e wv ⟨v7, rfl, hv9, hn9, hb9⟩; (have hN7 : NewFrom w v7 := (fun g hg => Nat.le_trans hO.keep.size (hn9 g hg))); have hf7 := hv9.form; replace hO := hO.gainR hb9 hv9 hn9; clear hb9 hv9 hn9))
     go_roundw
     case rel => exact ⟨k + 1, u2, by omega, by go_num, ku2, by omega, HP2, hf7, hN7, hO.sub (by repeat (first | exact List.Sublist.refl _ | apply List.Sublist.cons)) (.refl _) (fun q hq => by simp only [roS, List.mem_append, List.mem_cons, List.not_mem_nil, or_false] at hq ⊢; grind)⟩
     case measure => simp [intOf]; omega
    ·have g9 : (e2 != 0) = true := by simpa using he
     have HP2 := Lib.hid (HP.out.trans (HE.out he))
     clear HP HG HE HL he
     go_wp2_with (first | ((with_reducible refine is_load ?_); (refine own_ldQ (h := ?_))) | ((with_reducible refine is_store ?_); (refine own_stRQ (hO := hO) (h := ?_); clear hO; intro wv hO)) | ((with_reducible refine is_alloc ?_); refine own_alQ (o := ⟨some 8, _, _, _, _, _⟩) (hO := hO) (h := ?_); clear hO; intro n8 wv hO) | (go_at_call 14; (with_reducible refine (h2 _ _ (hO.tops ht (by simp)) (hO.isR hf6 (by intro q hq; repeat (first | exact hq | apply List.mem_cons_of_mem)))).mono ?_); rintro e wv ⟨v7, rfl, hv9, hn9, hb9⟩; (have hN7 : NewFrom w v7 := (fun g hg => Nat.le_trans hO.keep.size (hn9 g hg))); have hf7 := hv9.form; replace hO := hO.gainR hb9 hv9 hn9; clear hb9 hv9 hn9))
     go_ret2
     exact ⟨_, by rw [HP2.out]; rfl, by rw [HP2.out]; exact .inl ⟨rfl, rfl⟩, new_nilS _, hO.keep.below⟩
   ·obtain rfl : k = l.length := by omega
    skip
    rw [List.drop_length, rpF_nil] at HP
    go_wp2_with fail
    go_ret2
    exact ⟨_, by rw [HP.out]; rfl, by rw [HP.out]; exact hO.isRm hf6, hN6, hO.keep.below⟩
end Go.Proofs.YtbdfblgdmappeaaGreatDoor
