/- Package optimize: Apply. -/
import Derived.Test.YtbdfblgdmappeaaGreatDoorQC
namespace Go.Proofs.YtbdfblgdmappeaaGreatDoor
open Go.RowKit
set_option maxRecDepth 100000
theorem is_bx9 {P : Program} {Q : Exit → Act → World → Prop} {a : Act} {w : World} {ops : Array Oper} {rest : List Oper} {d ty pos af g t x} (h : wpList P ops Q (⟨d, .box t x, ty, pos, af, g⟩ :: rest) a w) : wpList P ops Q (⟨d, .box t x, ty, pos, af, g⟩ :: rest) a w := h
def ApPost (w : World) (r : List Rul × Int) (e : Ending) (w' : World) : Prop := ∃ v, e = .returned (.tuple #[v, .int .i64 r.2]) ∧ IsTable w' v r.1 ∧ NewFrom w v ∧ Below w.heap.size w w'
theorem apF_inv {t : List Rul} {s : Stp} (h : validT t = false ∨ stepForm s = false) : apF t s = ([], 1) := by
 unfold apF
 rw [if_neg]
 rcases h with h | h <;> simp [h]
theorem apF_out {t : List Rul} {s : Stp} (hv : validT t = true) (hf : stepForm s = true) (hi : stepIn t.length s = false) : apF t s = ([], 2) := by
 unfold apF
 rw [hv, hf, hi]
 rfl
theorem apF_err {t : List Rul} {s : Stp} (hv : validT t = true) (hf : stepForm s = true) (hi : stepIn t.length s = true) (he : soundE t s ≠ 0) : apF t s = ([], soundE t s) := by
 unfold apF
 rw [hv, hf, hi, Bool.true_and, if_pos rfl, if_pos rfl, if_neg he]
theorem apF_ok {t : List Rul} {s : Stp} (hv : validT t = true) (hf : stepForm s = true) (hi : stepIn t.length s = true) (he : soundE t s = 0) : apF t s = (perfF t s, 0) := by
 unfold apF
 rw [hv, hf, hi, Bool.true_and, if_pos rfl, if_pos rfl, if_pos he]
theorem perfF_1 (t : List Rul) (i : Nat) (j : Int) : perfF t (1, (i : Int), j) = woF t i := rfl
theorem perfF_2 (t : List Rul) (i j : Nat) : perfF t (2, (i : Int), (j : Int)) = mergT t i j := rfl
theorem perfF_3 (t : List Rul) (i : Nat) (j : Int) : perfF t (3, (i : Int), j) = swapT t i := rfl
theorem sf_1 (i j : Int) : stepForm (1, i, j) = (j == 0) := rfl
theorem sf_2 (i j : Int) : stepForm (2, i, j) = true := rfl
theorem sf_3 (i j : Int) : stepForm (3, i, j) = (j == 0) := rfl
theorem si_1 (n : Nat) (i j : Int) : stepIn n (1, i, j) = (decide (0 ≤ i) && decide (i < n)) := by
 unfold stepIn; simp
theorem si_2 (n : Nat) (i j : Int) : stepIn n (2, i, j) = (decide (0 ≤ i) && decide (i < n) && (decide (i < j) && decide (j < n))) := by
 unfold stepIn; simp
theorem si_3 (n : Nat) (i j : Int) : stepIn n (3, i, j) = (decide (0 ≤ i) && decide (i < n) && decide (i + 1 < n)) := by
 unfold stepIn; simp
theorem sf_out {kd i j : Int} (h : kd < 1 ∨ 3 < kd) : stepForm (kd, i, j) = false := by
 unfold stepForm
 rcases h with h | h
 ·rw [decide_eq_false (show ¬ (1 : Int) ≤ kd by omega)]; rfl
 ·rw [decide_eq_false (show ¬ kd ≤ 3 by omega)]; simp
set_option maxHeartbeats 8000000 in
theorem oApply1_any {vt : Value} {t : List Rul} (i j : Int) (w : World) (ht : Tops w) (hv : IsTable w vt t) (kt : okT t) (hl : t.length ≤ 1000000000000) :
  Calls Tryz.prog 14 #[vt, .agg #[.int .i64 1, .int .i64 i, .int .i64 j]] w (ApPost w (apF t (1, i, j))) := by
 have hO := own_start [] w
 have h1 : ∀ w, Tops w → IsTable w vt t → Calls Tryz.prog 43 #[vt] w fun e w' => e = .returned (.bool (validT t)) ∧ Below w.heap.size w w' := fun w ht hv => fValid_any w ht hv (by omega)
 obtain ⟨a, c, rfl, -⟩ := hv.view
 cases hV : validT t with
 | false =>
  rw [hV] at h1
  rw [apF_inv (.inl hV)]
  go_enter Tryz.func14, Tryz.ntmps14
  go_wp2_with (first | ((with_reducible refine is_bx9 ?_); refine bx9 3 hO ?_; clear hO; intro n3 wv hO) | (go_at_call 43; (with_reducible refine (h1 _ (hO.tops ht (by simp)) (hv.keep0 hO)).mono ?_); rintro e wv ⟨rfl, hb9⟩; replace hO := hO.call hb9; clear hb9; have c0 : wv.cell? ⟨n3, 0, none⟩ = some (.int .i64 1) := (hO.chunk _ List.mem_cons_self).cell 0; have c1 : wv.cell? ⟨n3, 1, none⟩ = some (.int .i64 i) := (hO.chunk _ List.mem_cons_self).cell 1; have c2 : wv.cell? ⟨n3, 2, none⟩ = some (.int .i64 j) := (hO.chunk _ List.mem_cons_self).cell 2))
  go_ret2
  exact ⟨_, rfl, .inl ⟨rfl, rfl⟩, new_nilS _, hO.keep.below⟩
 | true =>
  rw [hV] at h1
  by_cases hj : j = 0
  ·subst hj
   by_cases hlo : i < 0
   ·have g1 : decide (i < 0) = true := decide_eq_true hlo
    rw [apF_out hV (show stepForm (1, i, 0) = true from rfl) (by rw [si_1]; simp; omega)]
    go_enter Tryz.func14, Tryz.ntmps14
    go_wp2_with (first | ((with_reducible refine is_load ?_); (refine own_ldQ (h := ?_))) | ((with_reducible refine is_bx9 ?_); refine bx9 3 hO ?_; clear hO; intro n3 wv hO) | (go_at_call 43; (with_reducible refine (h1 _ (hO.tops ht (by simp)) (hv.keep0 hO)).mono ?_); rintro e wv ⟨rfl, hb9⟩; replace hO := hO.call hb9; clear hb9; have c0 : wv.cell? ⟨n3, 0, none⟩ = some (.int .i64 1) := (hO.chunk _ List.mem_cons_self).cell 0; have c1 : wv.cell? ⟨n3, 1, none⟩ = some (.int .i64 i) := (hO.chunk _ List.mem_cons_self).cell 1; have c2 : wv.cell? ⟨n3, 2, none⟩ = some (.int .i64 0) := (hO.chunk _ List.mem_cons_self).cell 2))
    go_ret2
    exact ⟨_, rfl, .inl ⟨rfl, rfl⟩, new_nilS _, hO.keep.below⟩
   ·have g1 : decide (i < 0) = false := decide_eq_false hlo
    by_cases hhi : (t.length : Int) ≤ i
    ·have g2 : decide ((t.length : Int) ≤ i) = true := decide_eq_true hhi
     rw [apF_out hV (show stepForm (1, i, 0) = true from rfl) (by rw [si_1]; simp; omega)]
     go_enter Tryz.func14, Tryz.ntmps14
     go_wp2_with (first | ((with_reducible refine is_load ?_); (refine own_ldQ (h := ?_))) | ((with_reducible refine is_bx9 ?_); refine bx9 3 hO ?_; clear hO; intro n3 wv hO) | (go_at_call 43; (with_reducible refine (h1 _ (hO.tops ht (by simp)) (hv.keep0 hO)).mono ?_); rintro e wv ⟨rfl, hb9⟩; replace hO := hO.call hb9; clear hb9; have c0 : wv.cell? ⟨n3, 0, none⟩ = some (.int .i64 1) := (hO.chunk _ List.mem_cons_self).cell 0; have c1 : wv.cell? ⟨n3, 1, none⟩ = some (.int .i64 i) := (hO.chunk _ List.mem_cons_self).cell 1; have c2 : wv.cell? ⟨n3, 2, none⟩ = some (.int .i64 0) := (hO.chunk _ List.mem_cons_self).cell 2))
     go_ret2
     exact ⟨_, rfl, .inl ⟨rfl, rfl⟩, new_nilS _, hO.keep.below⟩
    ·have g2 : decide ((t.length : Int) ≤ i) = false := decide_eq_false hhi
     obtain ⟨k, rfl⟩ : ∃ k : Nat, i = (k : Int) := ⟨i.toNat, by omega⟩
     have hk : k < t.length := by omega
     have hI : stepIn t.length (1, (k : Int), 0) = true := by rw [si_1]; simp; omega
     have hF : stepForm (1, (k : Int), 0) = true := rfl
     have h2 := fun w ht hv => osound1_any (vt := .slice a t.length c) (t := t) (i := k) 0 w ht hv kt hV hl hk
     have h3 := fun w (_ : Tops w) hv => operf1_any (vt := .slice a t.length c) (t := t) (i := k) 0 w hv hl hk
     by_cases hE : soundE t (1, (k : Int), 0) = 0
     ·rw [apF_ok hV hF hI hE, perfF_1]
      rw [hE] at h2
      clear hE hF hI hV
      generalize woF t k = u at *
      go_enter Tryz.func14, Tryz.ntmps14
      go_wp2_with (first | ((with_reducible refine is_load ?_); (refine own_ldQ (h := ?_))) | ((with_reducible refine is_bx9 ?_); refine bx9 3 hO ?_; clear hO; intro n3 wv hO) | (go_at_call 43; (with_reducible refine (h1 _ (hO.tops ht (by simp)) (hv.keep0 hO)).mono ?_); rintro e wv ⟨rfl, hb9⟩; replace hO := hO.call hb9; clear hb9; have c0 : wv.cell? ⟨n3, 0, none⟩ = some (.int .i64 1) := (hO.chunk _ List.mem_cons_self).cell 0; have c1 : wv.cell? ⟨n3, 1, none⟩ = some (.int .i64 k) := (hO.chunk _ List.mem_cons_self).cell 1; have c2 : wv.cell? ⟨n3, 2, none⟩ = some (.int .i64 0) := (hO.chunk _ List.mem_cons_self).cell 2) | (go_at_call 44; (with_reducible refine (h2 _ (hO.tops ht (by simp)) (hv.keep0 hO)).mono ?_); rintro e wv ⟨rfl, hb9⟩; replace hO := hO.call hb9; clear hb9; clear c0 c1 c2) | (go_at_call 45; (with_reducible refine (h3 _ (hO.tops ht (by simp)) (hv.keep0 hO)).mono ?_); rintro e wv ⟨v5, rfl, ⟨hv9, hn9⟩, hb9⟩; (have hN5 : NewFrom w v5 := (fun g hg => Nat.le_trans hO.keep.size (hn9 g hg))); have hf5 := hv9.form; replace hO := hO.gainR hb9 hv9 hn9; clear hb9 hv9 hn9))
      go_ret2
      exact ⟨v5, rfl, hO.isRm hf5, hN5, hO.keep.below⟩
     ·rw [apF_err hV hF hI hE]
      have g9 : (soundE t (1, (k : Int), 0) != 0) = true := by simpa using hE
      clear hE hF hI hV h3
      generalize soundE t (1, (k : Int), 0) = E at *
      go_enter Tryz.func14, Tryz.ntmps14
      go_wp2_with (first | ((with_reducible refine is_load ?_); (refine own_ldQ (h := ?_))) | ((with_reducible refine is_bx9 ?_); refine bx9 3 hO ?_; clear hO; intro n3 wv hO) | (go_at_call 43; (with_reducible refine (h1 _ (hO.tops ht (by simp)) (hv.keep0 hO)).mono ?_); rintro e wv ⟨rfl, hb9⟩; replace hO := hO.call hb9; clear hb9; have c0 : wv.cell? ⟨n3, 0, none⟩ = some (.int .i64 1) := (hO.chunk _ List.mem_cons_self).cell 0; have c1 : wv.cell? ⟨n3, 1, none⟩ = some (.int .i64 k) := (hO.chunk _ List.mem_cons_self).cell 1; have c2 : wv.cell? ⟨n3, 2, none⟩ = some (.int .i64 0) := (hO.chunk _ List.mem_cons_self).cell 2) | (go_at_call 44; (with_reducible refine (h2 _ (hO.tops ht (by simp)) (hv.keep0 hO)).mono ?_); rintro e wv ⟨rfl, hb9⟩; replace hO := hO.call hb9; clear hb9; clear c0 c1 c2))
      go_ret2
      exact ⟨_, rfl, .inl ⟨rfl, rfl⟩, new_nilS _, hO.keep.below⟩
  ·have g0 : (j != 0) = true := by simpa using hj
   rw [apF_inv (.inr (by rw [sf_1]; simpa using hj))]
   go_enter Tryz.func14, Tryz.ntmps14
   go_wp2_with (first | ((with_reducible refine is_load ?_); (refine own_ldQ (h := ?_))) | ((with_reducible refine is_bx9 ?_); refine bx9 3 hO ?_; clear hO; intro n3 wv hO) | (go_at_call 43; (with_reducible refine (h1 _ (hO.tops ht (by simp)) (hv.keep0 hO)).mono ?_); rintro e wv ⟨rfl, hb9⟩; replace hO := hO.call hb9; clear hb9; have c0 : wv.cell? ⟨n3, 0, none⟩ = some (.int .i64 1) := (hO.chunk _ List.mem_cons_self).cell 0; have c1 : wv.cell? ⟨n3, 1, none⟩ = some (.int .i64 i) := (hO.chunk _ List.mem_cons_self).cell 1; have c2 : wv.cell? ⟨n3, 2, none⟩ = some (.int .i64 j) := (hO.chunk _ List.mem_cons_self).cell 2))
   go_ret2
   exact ⟨_, rfl, .inl ⟨rfl, rfl⟩, new_nilS _, hO.keep.below⟩
set_option maxHeartbeats 8000000 in
theorem oApply2_any {vt : Value} {t : List Rul} (i j : Int) (w : World) (ht : Tops w) (hv : IsTable w vt t) (kt : okT t) (hl : t.length ≤ 1000000000000) :
  Calls Tryz.prog 14 #[vt, .agg #[.int .i64 2, .int .i64 i, .int .i64 j]] w (ApPost w (apF t (2, i, j))) := by
 have hO := own_start [] w
 have h1 : ∀ w, Tops w → IsTable w vt t → Calls Tryz.prog 43 #[vt] w fun e w' => e = .returned (.bool (validT t)) ∧ Below w.heap.size w w' := fun w ht hv => fValid_any w ht hv (by omega)
 obtain ⟨a, c, rfl, -⟩ := hv.view
 cases hV : validT t with
 | false =>
  rw [hV] at h1
  rw [apF_inv (.inl hV)]
  go_enter Tryz.func14, Tryz.ntmps14
  go_wp2_with (first | ((with_reducible refine is_bx9 ?_); refine bx9 3 hO ?_; clear hO; intro n3 wv hO) | (go_at_call 43; (with_reducible refine (h1 _ (hO.tops ht (by simp)) (hv.keep0 hO)).mono ?_); rintro e wv ⟨rfl, hb9⟩; replace hO := hO.call hb9; clear hb9; have c0 : wv.cell? ⟨n3, 0, none⟩ = some (.int .i64 2) := (hO.chunk _ List.mem_cons_self).cell 0; have c1 : wv.cell? ⟨n3, 1, none⟩ = some (.int .i64 i) := (hO.chunk _ List.mem_cons_self).cell 1; have c2 : wv.cell? ⟨n3, 2, none⟩ = some (.int .i64 j) := (hO.chunk _ List.mem_cons_self).cell 2))
  go_ret2
  exact ⟨_, rfl, .inl ⟨rfl, rfl⟩, new_nilS _, hO.keep.below⟩
 | true =>
  rw [hV] at h1
  by_cases hlo : i < 0
  ·have g1 : decide (i < 0) = true := decide_eq_true hlo
   rw [apF_out hV (sf_2 i j) (by rw [si_2]; simp; omega)]
   go_enter Tryz.func14, Tryz.ntmps14
   go_wp2_with (first | ((with_reducible refine is_load ?_); (refine own_ldQ (h := ?_))) | ((with_reducible refine is_bx9 ?_); refine bx9 3 hO ?_; clear hO; intro n3 wv hO) | (go_at_call 43; (with_reducible refine (h1 _ (hO.tops ht (by simp)) (hv.keep0 hO)).mono ?_); rintro e wv ⟨rfl, hb9⟩; replace hO := hO.call hb9; clear hb9; have c0 : wv.cell? ⟨n3, 0, none⟩ = some (.int .i64 2) := (hO.chunk _ List.mem_cons_self).cell 0; have c1 : wv.cell? ⟨n3, 1, none⟩ = some (.int .i64 i) := (hO.chunk _ List.mem_cons_self).cell 1; have c2 : wv.cell? ⟨n3, 2, none⟩ = some (.int .i64 j) := (hO.chunk _ List.mem_cons_self).cell 2))
   go_ret2
   exact ⟨_, rfl, .inl ⟨rfl, rfl⟩, new_nilS _, hO.keep.below⟩
  ·have g1 : decide (i < 0) = false := decide_eq_false hlo
   by_cases hhi : (t.length : Int) ≤ i
   ·have g2 : decide ((t.length : Int) ≤ i) = true := decide_eq_true hhi
    rw [apF_out hV (sf_2 i j) (by rw [si_2]; simp; omega)]
    go_enter Tryz.func14, Tryz.ntmps14
    go_wp2_with (first | ((with_reducible refine is_load ?_); (refine own_ldQ (h := ?_))) | ((with_reducible refine is_bx9 ?_); refine bx9 3 hO ?_; clear hO; intro n3 wv hO) | (go_at_call 43; (with_reducible refine (h1 _ (hO.tops ht (by simp)) (hv.keep0 hO)).mono ?_); rintro e wv ⟨rfl, hb9⟩; replace hO := hO.call hb9; clear hb9; have c0 : wv.cell? ⟨n3, 0, none⟩ = some (.int .i64 2) := (hO.chunk _ List.mem_cons_self).cell 0; have c1 : wv.cell? ⟨n3, 1, none⟩ = some (.int .i64 i) := (hO.chunk _ List.mem_cons_self).cell 1; have c2 : wv.cell? ⟨n3, 2, none⟩ = some (.int .i64 j) := (hO.chunk _ List.mem_cons_self).cell 2))
    go_ret2
    exact ⟨_, rfl, .inl ⟨rfl, rfl⟩, new_nilS _, hO.keep.below⟩
   ·have g2 : decide ((t.length : Int) ≤ i) = false := decide_eq_false hhi
    by_cases hji : j ≤ i
    ·have g3 : decide (j ≤ i) = true := decide_eq_true hji
     rw [apF_out hV (sf_2 i j) (by rw [si_2]; simp; omega)]
     go_enter Tryz.func14, Tryz.ntmps14
     go_wp2_with (first | ((with_reducible refine is_load ?_); (refine own_ldQ (h := ?_))) | ((with_reducible refine is_bx9 ?_); refine bx9 3 hO ?_; clear hO; intro n3 wv hO) | (go_at_call 43; (with_reducible refine (h1 _ (hO.tops ht (by simp)) (hv.keep0 hO)).mono ?_); rintro e wv ⟨rfl, hb9⟩; replace hO := hO.call hb9; clear hb9; have c0 : wv.cell? ⟨n3, 0, none⟩ = some (.int .i64 2) := (hO.chunk _ List.mem_cons_self).cell 0; have c1 : wv.cell? ⟨n3, 1, none⟩ = some (.int .i64 i) := (hO.chunk _ List.mem_cons_self).cell 1; have c2 : wv.cell? ⟨n3, 2, none⟩ = some (.int .i64 j) := (hO.chunk _ List.mem_cons_self).cell 2))
     go_ret2
     exact ⟨_, rfl, .inl ⟨rfl, rfl⟩, new_nilS _, hO.keep.below⟩
    ·have g3 : decide (j ≤ i) = false := decide_eq_false hji
     by_cases hjn : (t.length : Int) ≤ j
     ·have g4 : decide ((t.length : Int) ≤ j) = true := decide_eq_true hjn
      rw [apF_out hV (sf_2 i j) (by rw [si_2]; simp; omega)]
      go_enter Tryz.func14, Tryz.ntmps14
      go_wp2_with (first | ((with_reducible refine is_load ?_); (refine own_ldQ (h := ?_))) | ((with_reducible refine is_bx9 ?_); refine bx9 3 hO ?_; clear hO; intro n3 wv hO) | (go_at_call 43; (with_reducible refine (h1 _ (hO.tops ht (by simp)) (hv.keep0 hO)).mono ?_); rintro e wv ⟨rfl, hb9⟩; replace hO := hO.call hb9; clear hb9; have c0 : wv.cell? ⟨n3, 0, none⟩ = some (.int .i64 2) := (hO.chunk _ List.mem_cons_self).cell 0; have c1 : wv.cell? ⟨n3, 1, none⟩ = some (.int .i64 i) := (hO.chunk _ List.mem_cons_self).cell 1; have c2 : wv.cell? ⟨n3, 2, none⟩ = some (.int .i64 j) := (hO.chunk _ List.mem_cons_self).cell 2))
      go_ret2
      exact ⟨_, rfl, .inl ⟨rfl, rfl⟩, new_nilS _, hO.keep.below⟩
     ·have g4 : decide ((t.length : Int) ≤ j) = false := decide_eq_false hjn
      obtain ⟨k, rfl⟩ : ∃ k : Nat, i = (k : Int) := ⟨i.toNat, by omega⟩
      obtain ⟨m, rfl⟩ : ∃ m : Nat, j = (m : Int) := ⟨j.toNat, by omega⟩
      have hkm : k < m := by omega
      have hm : m < t.length := by omega
      have hI : stepIn t.length (2, (k : Int), (m : Int)) = true := by rw [si_2]; simp; omega
      have hF := sf_2 (k : Int) (m : Int)
      have h2 := fun w ht hv => osound2_any (vt := .slice a t.length c) (t := t) (i := k) (j := m) w ht hv kt hV hl hkm hm
      have h3 := fun w ht hv => operf2_any (vt := .slice a t.length c) (t := t) (i := k) (j := m) w ht hv (validT_all hV).1 hl hkm hm
      by_cases hE : soundE t (2, (k : Int), (m : Int)) = 0
      ·rw [apF_ok hV hF hI hE, perfF_2]
       rw [hE] at h2
       clear hE hF hI hV
       generalize mergT t k m = u at *
       go_enter Tryz.func14, Tryz.ntmps14
       go_wp2_with (first | ((with_reducible refine is_load ?_); (refine own_ldQ (h := ?_))) | ((with_reducible refine is_bx9 ?_); refine bx9 3 hO ?_; clear hO; intro n3 wv hO) | (go_at_call 43; (with_reducible refine (h1 _ (hO.tops ht (by simp)) (hv.keep0 hO)).mono ?_); rintro e wv ⟨rfl, hb9⟩; replace hO := hO.call hb9; clear hb9; have c0 : wv.cell? ⟨n3, 0, none⟩ = some (.int .i64 2) := (hO.chunk _ List.mem_cons_self).cell 0; have c1 : wv.cell? ⟨n3, 1, none⟩ = some (.int .i64 k) := (hO.chunk _ List.mem_cons_self).cell 1; have c2 : wv.cell? ⟨n3, 2, none⟩ = some (.int .i64 m) := (hO.chunk _ List.mem_cons_self).cell 2) | (go_at_call 44; (with_reducible refine (h2 _ (hO.tops ht (by simp)) (hv.keep0 hO)).mono ?_); rintro e wv ⟨rfl, hb9⟩; replace hO := hO.call hb9; clear hb9; clear c0 c1 c2) | (go_at_call 45; (with_reducible refine (h3 _ (hO.tops ht (by simp)) (hv.keep0 hO)).mono ?_); rintro e wv ⟨v5, rfl, ⟨hv9, hn9⟩, hb9⟩; (have hN5 : NewFrom w v5 := (fun g hg => Nat.le_trans hO.keep.size (hn9 g hg))); have hf5 := hv9.form; replace hO := hO.gainR hb9 hv9 hn9; clear hb9 hv9 hn9))
       go_ret2
       exact ⟨v5, rfl, hO.isRm hf5, hN5, hO.keep.below⟩
      ·rw [apF_err hV hF hI hE]
       have g9 : (soundE t (2, (k : Int), (m : Int)) != 0) = true := by simpa using hE
       clear hE hF hI hV h3
       generalize soundE t (2, (k : Int), (m : Int)) = E at *
       go_enter Tryz.func14, Tryz.ntmps14
       go_wp2_with (first | ((with_reducible refine is_load ?_); (refine own_ldQ (h := ?_))) | ((with_reducible refine is_bx9 ?_); refine bx9 3 hO ?_; clear hO; intro n3 wv hO) | (go_at_call 43; (with_reducible refine (h1 _ (hO.tops ht (by simp)) (hv.keep0 hO)).mono ?_); rintro e wv ⟨rfl, hb9⟩; replace hO := hO.call hb9; clear hb9; have c0 : wv.cell? ⟨n3, 0, none⟩ = some (.int .i64 2) := (hO.chunk _ List.mem_cons_self).cell 0; have c1 : wv.cell? ⟨n3, 1, none⟩ = some (.int .i64 k) := (hO.chunk _ List.mem_cons_self).cell 1; have c2 : wv.cell? ⟨n3, 2, none⟩ = some (.int .i64 m) := (hO.chunk _ List.mem_cons_self).cell 2) | (go_at_call 44; (with_reducible refine (h2 _ (hO.tops ht (by simp)) (hv.keep0 hO)).mono ?_); rintro e wv ⟨rfl, hb9⟩; replace hO := hO.call hb9; clear hb9; clear c0 c1 c2))
       go_ret2
       exact ⟨_, rfl, .inl ⟨rfl, rfl⟩, new_nilS _, hO.keep.below⟩
set_option maxHeartbeats 8000000 in
theorem oApply3_any {vt : Value} {t : List Rul} (i j : Int) (w : World) (ht : Tops w) (hv : IsTable w vt t) (_kt : okT t) (hl : t.length ≤ 1000000000000) :
  Calls Tryz.prog 14 #[vt, .agg #[.int .i64 3, .int .i64 i, .int .i64 j]] w (ApPost w (apF t (3, i, j))) := by
 have hO := own_start [] w
 have h1 : ∀ w, Tops w → IsTable w vt t → Calls Tryz.prog 43 #[vt] w fun e w' => e = .returned (.bool (validT t)) ∧ Below w.heap.size w w' := fun w ht hv => fValid_any w ht hv (by omega)
 obtain ⟨a, c, rfl, -⟩ := hv.view
 cases hV : validT t with
 | false =>
  rw [hV] at h1
  rw [apF_inv (.inl hV)]
  go_enter Tryz.func14, Tryz.ntmps14
  go_wp2_with (first | ((with_reducible refine is_bx9 ?_); refine bx9 3 hO ?_; clear hO; intro n3 wv hO) | (go_at_call 43; (with_reducible refine (h1 _ (hO.tops ht (by simp)) (hv.keep0 hO)).mono ?_); rintro e wv ⟨rfl, hb9⟩; replace hO := hO.call hb9; clear hb9; have c0 : wv.cell? ⟨n3, 0, none⟩ = some (.int .i64 3) := (hO.chunk _ List.mem_cons_self).cell 0; have c1 : wv.cell? ⟨n3, 1, none⟩ = some (.int .i64 i) := (hO.chunk _ List.mem_cons_self).cell 1; have c2 : wv.cell? ⟨n3, 2, none⟩ = some (.int .i64 j) := (hO.chunk _ List.mem_cons_self).cell 2))
  go_ret2
  exact ⟨_, rfl, .inl ⟨rfl, rfl⟩, new_nilS _, hO.keep.below⟩
 | true =>
  rw [hV] at h1
  by_cases hj : j = 0
  ·subst hj
   by_cases hlo : i < 0
   ·have g1 : decide (i < 0) = true := decide_eq_true hlo
    rw [apF_out hV (show stepForm (3, i, 0) = true from rfl) (by rw [si_3]; simp; omega)]
    go_enter Tryz.func14, Tryz.ntmps14
    go_wp2_with (first | ((with_reducible refine is_load ?_); (refine own_ldQ (h := ?_))) | ((with_reducible refine is_bx9 ?_); refine bx9 3 hO ?_; clear hO; intro n3 wv hO) | (go_at_call 43; (with_reducible refine (h1 _ (hO.tops ht (by simp)) (hv.keep0 hO)).mono ?_); rintro e wv ⟨rfl, hb9⟩; replace hO := hO.call hb9; clear hb9; have c0 : wv.cell? ⟨n3, 0, none⟩ = some (.int .i64 3) := (hO.chunk _ List.mem_cons_self).cell 0; have c1 : wv.cell? ⟨n3, 1, none⟩ = some (.int .i64 i) := (hO.chunk _ List.mem_cons_self).cell 1; have c2 : wv.cell? ⟨n3, 2, none⟩ = some (.int .i64 0) := (hO.chunk _ List.mem_cons_self).cell 2))
    go_ret2
    exact ⟨_, rfl, .inl ⟨rfl, rfl⟩, new_nilS _, hO.keep.below⟩
   ·have g1 : decide (i < 0) = false := decide_eq_false hlo
    by_cases hhi : (t.length : Int) ≤ i
    ·have g2 : decide ((t.length : Int) ≤ i) = true := decide_eq_true hhi
     rw [apF_out hV (show stepForm (3, i, 0) = true from rfl) (by rw [si_3]; simp; omega)]
     go_enter Tryz.func14, Tryz.ntmps14
     go_wp2_with (first | ((with_reducible refine is_load ?_); (refine own_ldQ (h := ?_))) | ((with_reducible refine is_bx9 ?_); refine bx9 3 hO ?_; clear hO; intro n3 wv hO) | (go_at_call 43; (with_reducible refine (h1 _ (hO.tops ht (by simp)) (hv.keep0 hO)).mono ?_); rintro e wv ⟨rfl, hb9⟩; replace hO := hO.call hb9; clear hb9; have c0 : wv.cell? ⟨n3, 0, none⟩ = some (.int .i64 3) := (hO.chunk _ List.mem_cons_self).cell 0; have c1 : wv.cell? ⟨n3, 1, none⟩ = some (.int .i64 i) := (hO.chunk _ List.mem_cons_self).cell 1; have c2 : wv.cell? ⟨n3, 2, none⟩ = some (.int .i64 0) := (hO.chunk _ List.mem_cons_self).cell 2))
     go_ret2
     exact ⟨_, rfl, .inl ⟨rfl, rfl⟩, new_nilS _, hO.keep.below⟩
    ·have g2 : decide ((t.length : Int) ≤ i) = false := decide_eq_false hhi
     have s3 : IntKind.i64.wrap ((t.length : Int) - 1) = (t.length : Int) - 1 := IntWalk.i64_in _ (by omega)
     by_cases hlast : (t.length : Int) - 1 ≤ i
     ·have g3 : decide ((t.length : Int) - 1 ≤ i) = true := decide_eq_true hlast
      rw [apF_out hV (show stepForm (3, i, 0) = true from rfl) (by rw [si_3]; simp; omega)]
      go_enter Tryz.func14, Tryz.ntmps14
      go_wp2_with (first | ((with_reducible refine is_load ?_); (refine own_ldQ (h := ?_))) | ((with_reducible refine is_bx9 ?_); refine bx9 3 hO ?_; clear hO; intro n3 wv hO) | (go_at_call 43; (with_reducible refine (h1 _ (hO.tops ht (by simp)) (hv.keep0 hO)).mono ?_); rintro e wv ⟨rfl, hb9⟩; replace hO := hO.call hb9; clear hb9; have c0 : wv.cell? ⟨n3, 0, none⟩ = some (.int .i64 3) := (hO.chunk _ List.mem_cons_self).cell 0; have c1 : wv.cell? ⟨n3, 1, none⟩ = some (.int .i64 i) := (hO.chunk _ List.mem_cons_self).cell 1; have c2 : wv.cell? ⟨n3, 2, none⟩ = some (.int .i64 0) := (hO.chunk _ List.mem_cons_self).cell 2))
      go_ret2
      exact ⟨_, rfl, .inl ⟨rfl, rfl⟩, new_nilS _, hO.keep.below⟩
     ·have g3 : decide ((t.length : Int) - 1 ≤ i) = false := decide_eq_false hlast
      obtain ⟨k, rfl⟩ : ∃ k : Nat, i = (k : Int) := ⟨i.toNat, by omega⟩
      have hk : k + 1 < t.length := by omega
      have hI : stepIn t.length (3, (k : Int), 0) = true := by rw [si_3]; simp; omega
      have hF : stepForm (3, (k : Int), 0) = true := rfl
      have h2 := fun w ht hv => osound3_any (vt := .slice a t.length c) (t := t) (i := k) 0 w ht hv hl hk
      have h3 := fun w (_ : Tops w) hv => operf3_any (vt := .slice a t.length c) (t := t) (i := k) 0 w hv hl hk
      by_cases hE : soundE t (3, (k : Int), 0) = 0
      ·rw [apF_ok hV hF hI hE, perfF_3]
       rw [hE] at h2
       clear hE hF hI hV
       generalize swapT t k = u at *
       go_enter Tryz.func14, Tryz.ntmps14
       go_wp2_with (first | ((with_reducible refine is_load ?_); (refine own_ldQ (h := ?_))) | ((with_reducible refine is_bx9 ?_); refine bx9 3 hO ?_; clear hO; intro n3 wv hO) | (go_at_call 43; (with_reducible refine (h1 _ (hO.tops ht (by simp)) (hv.keep0 hO)).mono ?_); rintro e wv ⟨rfl, hb9⟩; replace hO := hO.call hb9; clear hb9; have c0 : wv.cell? ⟨n3, 0, none⟩ = some (.int .i64 3) := (hO.chunk _ List.mem_cons_self).cell 0; have c1 : wv.cell? ⟨n3, 1, none⟩ = some (.int .i64 k) := (hO.chunk _ List.mem_cons_self).cell 1; have c2 : wv.cell? ⟨n3, 2, none⟩ = some (.int .i64 0) := (hO.chunk _ List.mem_cons_self).cell 2) | (go_at_call 44; (with_reducible refine (h2 _ (hO.tops ht (by simp)) (hv.keep0 hO)).mono ?_); rintro e wv ⟨rfl, hb9⟩; replace hO := hO.call hb9; clear hb9; clear c0 c1 c2) | (go_at_call 45; (with_reducible refine (h3 _ (hO.tops ht (by simp)) (hv.keep0 hO)).mono ?_); rintro e wv ⟨v5, rfl, ⟨hv9, hn9⟩, hb9⟩; (have hN5 : NewFrom w v5 := (fun g hg => Nat.le_trans hO.keep.size (hn9 g hg))); have hf5 := hv9.form; replace hO := hO.gainR hb9 hv9 hn9; clear hb9 hv9 hn9))
       go_ret2
       exact ⟨v5, rfl, hO.isRm hf5, hN5, hO.keep.below⟩
      ·rw [apF_err hV hF hI hE]
       have g9 : (soundE t (3, (k : Int), 0) != 0) = true := by simpa using hE
       clear hE hF hI hV h3
       generalize soundE t (3, (k : Int), 0) = E at *
       go_enter Tryz.func14, Tryz.ntmps14
       go_wp2_with (first | ((with_reducible refine is_load ?_); (refine own_ldQ (h := ?_))) | ((with_reducible refine is_bx9 ?_); refine bx9 3 hO ?_; clear hO; intro n3 wv hO) | (go_at_call 43; (with_reducible refine (h1 _ (hO.tops ht (by simp)) (hv.keep0 hO)).mono ?_); rintro e wv ⟨rfl, hb9⟩; replace hO := hO.call hb9; clear hb9; have c0 : wv.cell? ⟨n3, 0, none⟩ = some (.int .i64 3) := (hO.chunk _ List.mem_cons_self).cell 0; have c1 : wv.cell? ⟨n3, 1, none⟩ = some (.int .i64 k) := (hO.chunk _ List.mem_cons_self).cell 1; have c2 : wv.cell? ⟨n3, 2, none⟩ = some (.int .i64 0) := (hO.chunk _ List.mem_cons_self).cell 2) | (go_at_call 44; (with_reducible refine (h2 _ (hO.tops ht (by simp)) (hv.keep0 hO)).mono ?_); rintro e wv ⟨rfl, hb9⟩; replace hO := hO.call hb9; clear hb9; clear c0 c1 c2))
       go_ret2
       exact ⟨_, rfl, .inl ⟨rfl, rfl⟩, new_nilS _, hO.keep.below⟩
  ·have g0 : (j != 0) = true := by simpa using hj
   rw [apF_inv (.inr (by rw [sf_3]; simpa using hj))]
   go_enter Tryz.func14, Tryz.ntmps14
   go_wp2_with (first | ((with_reducible refine is_load ?_); (refine own_ldQ (h := ?_))) | ((with_reducible refine is_bx9 ?_); refine bx9 3 hO ?_; clear hO; intro n3 wv hO) | (go_at_call 43; (with_reducible refine (h1 _ (hO.tops ht (by simp)) (hv.keep0 hO)).mono ?_); rintro e wv ⟨rfl, hb9⟩; replace hO := hO.call hb9; clear hb9; have c0 : wv.cell? ⟨n3, 0, none⟩ = some (.int .i64 3) := (hO.chunk _ List.mem_cons_self).cell 0; have c1 : wv.cell? ⟨n3, 1, none⟩ = some (.int .i64 i) := (hO.chunk _ List.mem_cons_self).cell 1; have c2 : wv.cell? ⟨n3, 2, none⟩ = some (.int .i64 j) := (hO.chunk _ List.mem_cons_self).cell 2))
   go_ret2
   exact ⟨_, rfl, .inl ⟨rfl, rfl⟩, new_nilS _, hO.keep.below⟩
set_option maxHeartbeats 8000000 in
theorem oApply_any {vt : Value} {t : List Rul} (kd i j : Int) (w : World) (ht : Tops w) (hv : IsTable w vt t) (kt : okT t) (hl : t.length ≤ 1000000000000) :
  Calls Tryz.prog 14 #[vt, .agg #[.int .i64 kd, .int .i64 i, .int .i64 j]] w (ApPost w (apF t (kd, i, j))) := by
 by_cases hlo : kd < 1
 ·rw [apF_inv (.inr (sf_out (.inl hlo)))]
  have g1 : decide (kd < 1) = true := decide_eq_true hlo
  have hO := own_start [] w
  have h1 : ∀ w, Tops w → IsTable w vt t → Calls Tryz.prog 43 #[vt] w fun e w' => e = .returned (.bool (validT t)) ∧ Below w.heap.size w w' := fun w ht hv => fValid_any w ht hv (by omega)
  obtain ⟨a, c, rfl, -⟩ := hv.view
  cases hV : validT t
  all_goals
   rw [hV] at h1
   go_enter Tryz.func14, Tryz.ntmps14
   go_wp2_with (first | ((with_reducible refine is_load ?_); (refine own_ldQ (h := ?_))) | ((with_reducible refine is_bx9 ?_); refine bx9 3 hO ?_; clear hO; intro n3 wv hO) | (go_at_call 43; (with_reducible refine (h1 _ (hO.tops ht (by simp)) (hv.keep0 hO)).mono ?_); rintro e wv ⟨rfl, hb9⟩; replace hO := hO.call hb9; clear hb9; have c0 : wv.cell? ⟨n3, 0, none⟩ = some (.int .i64 kd) := (hO.chunk _ List.mem_cons_self).cell 0; have c1 : wv.cell? ⟨n3, 1, none⟩ = some (.int .i64 i) := (hO.chunk _ List.mem_cons_self).cell 1; have c2 : wv.cell? ⟨n3, 2, none⟩ = some (.int .i64 j) := (hO.chunk _ List.mem_cons_self).cell 2))
   go_ret2
   exact ⟨_, rfl, .inl ⟨rfl, rfl⟩, new_nilS _, hO.keep.below⟩
 by_cases hhi : 3 < kd
 ·rw [apF_inv (.inr (sf_out (.inr hhi)))]
  have g1 : decide (kd < 1) = false := decide_eq_false hlo
  have g2 : decide (3 < kd) = true := decide_eq_true hhi
  have hO := own_start [] w
  have h1 : ∀ w, Tops w → IsTable w vt t → Calls Tryz.prog 43 #[vt] w fun e w' => e = .returned (.bool (validT t)) ∧ Below w.heap.size w w' := fun w ht hv => fValid_any w ht hv (by omega)
  obtain ⟨a, c, rfl, -⟩ := hv.view
  cases hV : validT t
  all_goals
   rw [hV] at h1
   go_enter Tryz.func14, Tryz.ntmps14
   go_wp2_with (first | ((with_reducible refine is_load ?_); (refine own_ldQ (h := ?_))) | ((with_reducible refine is_bx9 ?_); refine bx9 3 hO ?_; clear hO; intro n3 wv hO) | (go_at_call 43; (with_reducible refine (h1 _ (hO.tops ht (by simp)) (hv.keep0 hO)).mono ?_); rintro e wv ⟨rfl, hb9⟩; replace hO := hO.call hb9; clear hb9; have c0 : wv.cell? ⟨n3, 0, none⟩ = some (.int .i64 kd) := (hO.chunk _ List.mem_cons_self).cell 0; have c1 : wv.cell? ⟨n3, 1, none⟩ = some (.int .i64 i) := (hO.chunk _ List.mem_cons_self).cell 1; have c2 : wv.cell? ⟨n3, 2, none⟩ = some (.int .i64 j) := (hO.chunk _ List.mem_cons_self).cell 2))
   go_ret2
   exact ⟨_, rfl, .inl ⟨rfl, rfl⟩, new_nilS _, hO.keep.below⟩
 rcases (show kd = 1 ∨ kd = 2 ∨ kd = 3 by omega) with rfl | rfl | rfl
 ·exact oApply1_any i j w ht hv kt hl
 ·exact oApply2_any i j w ht hv kt hl
 ·exact oApply3_any i j w ht hv kt hl
end Go.Proofs.YtbdfblgdmappeaaGreatDoor
