/- The reference of optimizations: Apply. -/
import Derived.Test.YtbdfblgdmappeaaGreatDoorQE
import Derived.Test.YtbdfblgdmappeaaGreatDoorQF
namespace Go.Proofs.YtbdfblgdmappeaaGreatDoor
open Go.RowKit
set_option maxRecDepth 100000
set_option maxHeartbeats 16000000 in
theorem rswap_any {w : World} {a : Option Addr} {c : Nat} {t : List Rul} {k : Nat} (hv : IsTable w (.slice a t.length c) t) (hV : validT t = true) (hi : k + 1 < t.length) (hl : t.length ≤ 20) :
    Calls Tryz.prog 15 #[.slice a t.length c, .agg #[.int .i64 3, .int .i64 k, .int .i64 0]] w (ApPost w (apF t (3, (k : Int), 0))) := by
  have hO := own_argR hv
  have h1 : ∀ w, IsTable w (.slice a t.length c) t → Calls Tryz.prog 46 #[.slice a t.length c] w fun e w' => e = .returned (.bool (validT t)) ∧ Below w.heap.size w w' := fun w hv => rValid8_any w hv (by omega)
  rw [hV] at h1
  obtain ⟨a', c', e', ha⟩ := hv.view
  cases e'
  obtain ⟨g, o, rfl⟩ := ha (by omega)
  clear ha
  have h0 : k < t.length := by omega
  have hI : stepIn t.length (3, (k : Int), 0) = true := by rw [si_3]; simp; omega
  have hF : stepForm (3, (k : Int), 0) = true := rfl
  have hS := soundE_3 0 hi
  have hP : perfF t (3, (k : Int), 0) = (t.set k t[k + 1]).set (k + 1) t[k] := by rw [perfF_3, swapT_at hi]
  have g1 : decide ((k : Int) < 0) = false := decide_eq_false (by omega)
  have g2 : decide ((t.length : Int) ≤ (k : Int)) = false := decide_eq_false (by omega)
  have g3 : decide ((t.length : Int) ≤ (k : Int) + 1) = false := decide_eq_false (by omega)
  have t1 := tk_match t h0
  have t2 := tk_match t hi
  have t3 := cr_permit t h0
  have t4 := cr_permit t hi
  have t5 := tk_rule t h0
  have t6 := tk_rule t hi
  have n1 := cellsR_setR h0 t[k + 1]
  have hl1 : k + 1 < (t.set k t[k + 1]).length := by rw [List.length_set]; omega
  have n2 := cellsR_setR hl1 t[k]
  have z1 : k * 11 + 11 ≤ (cellsR t).length := by rw [cellsR_length]; omega
  have z2 : (k + 1) * 11 + 11 ≤ (cellsR (t.set k t[k + 1])).length := by rw [cellsR_length, List.length_set]; omega
  have h2 := rapart_any t[k].1 t[k + 1].1
  have hsrc := fun (wq : World) (h : Keep [] w wq) => src_table (m := t.length) (hv.keep h) (Nat.le_refl _)
  rw [List.take_length] at hsrc
  clear hl1
  unfold swpB at hS
  have s1 : IntKind.i64.wrap ((k : Int) + 1) = ((k + 1 : Nat) : Int) := (IntWalk.i64_in _ (by omega)).trans (by omega)
  have g3 : decide ((t.length : Int) ≤ ((k + 1 : Nat) : Int)) = false := decide_eq_false (by omega)
  generalize t[k] = p at *
  generalize t[k + 1] = q at *
  generalize (t.set k q).set (k + 1) p = y at *
  generalize t.set k q = x1 at *
  generalize hM : k + 1 = m at *
  have HM := Lib.hid hM
  clear hM
  obtain ⟨b0, p0⟩ := p
  obtain ⟨b1, p1⟩ := q
  dsimp only at t1 t2 t3 t4 h2 hS
  generalize meetB b0 b1 = x at *
  have HA := Lib.hid (fun he => apF_err hV hF hI he)
  have HB := Lib.hid (fun he => apF_ok hV hF hI he)
  have HS := Lib.hid hS
  have HP := Lib.hid hP
  clear hV hF hI hS hP
  have H5 := Lib.hid (And.intro t5 t6)
  have H7 := Lib.hid n1
  have H8 := Lib.hid n2
  have H9 := Lib.hid hsrc
  have H10 := Lib.hid z1
  have H11 := Lib.hid z2
  clear t5 t6 n1 n2 hsrc z1 z2
  simp only [roS] at hO
  cases p0
  all_goals
    cases p1
    all_goals
      cases x
      all_goals
        first
          | (have hE : soundE t (3, (k : Int), 0) = 18 := HS.out.trans rfl
             rw [HA.out (by rw [hE]; decide), hE]
             clear hE HA HB HS HP H5 H7 H8 H9 H10 H11
             go_enter Tryz.func15, Tryz.ntmps15
             go_wp2_with (first | ((with_reducible refine is_load ?_); (refine own_ldQ (h := ?_))) | ((with_reducible refine is_bx9 ?_); refine bx9 3 hO ?_; clear hO; intro n3 wv hO) | (go_at_call 46; (with_reducible refine (h1 _ (hv.keep0 hO)).mono ?_); rintro e wv ⟨rfl, hb9⟩; replace hO := hO.call hb9; clear hb9; have c0 : wv.cell? ⟨n3, 0, none⟩ = some (.int .i64 3) := (hO.chunk _ List.mem_cons_self).cell 0; have c1 : wv.cell? ⟨n3, 1, none⟩ = some (.int .i64 k) := (hO.chunk _ List.mem_cons_self).cell 1; have c2 : wv.cell? ⟨n3, 2, none⟩ = some (.int .i64 0) := (hO.chunk _ List.mem_cons_self).cell 2; clear h1))
             (refine own_quiet hO (by kernel_rfl) (by kernel_rfl) ?_; clear hO; (repeat (go_big_quiet_want; (first | ((with_reducible refine is_loadQ ?_); (refine q_ldQ (h := ?_)); (try simp only [Act.put]); (try simp only [sI9, sZ9, sS9]); go_big_quiet_on) | (go_big_quiet_op; (first | go_big_quiet_on | ((refine ⟨_, fun _ _ => rfl, ?_⟩); go_big_quiet_on) | go_big_quiet_call ((intro hq; go_at_call 51; exact q_call (h2 _) hq))))))); (refine wpQuiet_nil ?_); intro wv hO)
             go_wp2_with fail
             go_ret2
             exact ⟨_, rfl, .inl ⟨rfl, rfl⟩, new_nilS _, hO.keep.below⟩)
          | (have hE : soundE t (3, (k : Int), 0) = 0 := HS.out.trans rfl
             rw [HB.out hE, HP.out]
             clear hE HA HB HS HP
             go_enter Tryz.func15, Tryz.ntmps15
             go_wp2_with (first | ((with_reducible refine is_load ?_); (refine own_ldQ (h := ?_))) | ((with_reducible refine is_bx9 ?_); refine bx9 3 hO ?_; clear hO; intro n3 wv hO) | (go_at_call 46; (with_reducible refine (h1 _ (hv.keep0 hO)).mono ?_); rintro e wv ⟨rfl, hb9⟩; replace hO := hO.call hb9; clear hb9; have c0 : wv.cell? ⟨n3, 0, none⟩ = some (.int .i64 3) := (hO.chunk _ List.mem_cons_self).cell 0; have c1 : wv.cell? ⟨n3, 1, none⟩ = some (.int .i64 k) := (hO.chunk _ List.mem_cons_self).cell 1; have c2 : wv.cell? ⟨n3, 2, none⟩ = some (.int .i64 0) := (hO.chunk _ List.mem_cons_self).cell 2; clear h1))
             (refine own_quiet hO (by kernel_rfl) (by kernel_rfl) ?_; clear hO; (repeat (first | go_big_quiet_skip | (go_big_quiet_want; (first | ((with_reducible refine is_loadQ ?_); (refine q_ldQ (h := ?_)); (try simp only [Act.put]); (try simp only [sI9, sZ9, sS9]); go_big_quiet_on) | (go_big_quiet_op; (first | go_big_quiet_on | ((refine ⟨_, fun _ _ => rfl, ?_⟩); go_big_quiet_on) | go_big_quiet_call ((intro hq; go_at_call 51; exact q_call (h2 _) hq)))))))); (refine wpQuiet_nil ?_); intro wv hO)
             have hsrc := H9.out
             go_wp2_with (first | ((with_reducible refine is_build ?_); (refine own_build0 (o := ⟨some 140, _, _, _, _, _⟩) hO (by rfl) rfl slice_Table ?_); clear hO; intro n140 wv hO) | ((with_reducible refine is_append ?_); (refine own_appendA (o := ⟨some 142, _, _, _, _, _⟩) hO rfl rfl slice_Table rfl rfl (hsrc _ hO.keep) (cellsR_one' _) (fun _ => by repeat (exact UpdR.here)) (by (omega)) (by unfold maxLen; (omega)) ?_); clear hO; intro g142 c142 wv hO; (try simp only [Nat.zero_add, List.nil_append] at hO)))
             obtain ⟨a9, c9, e9, hg9⟩ := rowview11 (hO.row _ List.mem_cons_self)
             dsimp only at e9 hg9
             injection e9 with e1 e2 e3
             subst e1
             clear e2 e3
             obtain ⟨g9, hg8⟩ := hg9 (by omega)
             subst hg8
             clear hg9
             have t5 := H5.out.1
             have t6 := H5.out.2
             have n1 := H7.out
             have n2 := H8.out
             have z1 := H10.out
             have z2 := H11.out
             clear t1 t2 hsrc
             refine wp_region_held (S := (Own [] w [⟨n3, [.int .i64 3, .int .i64 k, .int .i64 0], 26⟩] [] [⟨g, o, cellsR t⟩])) (by kernel_rfl) ?_
             replace hO := hO.drew
             have hC : (Own [] w [⟨n3, [.int .i64 3, .int .i64 k, .int .i64 0], 26⟩] [] [⟨g, o, cellsR t⟩]) _ := hO.cls
             refine wpAnyH_tk 0 hC ?_
             (go_big_quiet_want; (go_big_quiet_op; (go_big_quiet_on))); (refine wpQuiet_nil ?_)
             refine wpAnyH_tk 1 hC ?_
             (go_big_quiet_want; (go_big_quiet_op; ((refine ⟨_, fun _ _ => rfl, ?_⟩); go_big_quiet_on))); (refine wpQuiet_nil ?_)
             refine wpAnyH_tk 2 hC ?_
             (go_big_quiet_want; ((with_reducible refine is_loadQ ?_); (refine q_ldQ (h := ?_)); (try simp only [Act.put]); (try simp only [sI9, sZ9, sS9]); go_big_quiet_on)); (refine wpQuiet_nil ?_)
             refine wpAnyH_tk 3 hC ?_
             (go_big_quiet_want; (go_big_quiet_op; (go_big_quiet_on))); (refine wpQuiet_nil ?_)
             refine wpAnyH_tk 4 hC ?_
             (go_big_quiet_want; (go_big_quiet_op; ((refine ⟨_, fun _ _ => rfl, ?_⟩); go_big_quiet_on))); (refine wpQuiet_nil ?_)
             refine wpAnyH_tk 5 hC ?_
             (go_big_quiet_want; ((with_reducible refine is_loadQ ?_); (refine q_ldQ (h := ?_)); (try simp only [Act.put]); (try simp only [sI9, sZ9, sS9]); go_big_quiet_on)); (refine wpQuiet_nil ?_)
             refine wpAnyH_tk 6 hC ?_
             (go_big_quiet_want; (go_big_quiet_op; ((refine ⟨_, fun _ _ => rfl, ?_⟩); go_big_quiet_on))); (refine wpQuiet_nil ?_)
             refine wpAnyH_tk 7 hC ?_
             (go_big_quiet_want; (go_big_quiet_op; (go_big_quiet_on))); (refine wpQuiet_nil ?_)
             refine wpAnyH_tk 8 hC ?_
             (go_big_quiet_want; (go_big_quiet_op; ((refine ⟨_, fun _ _ => rfl, ?_⟩); go_big_quiet_on))); (refine wpQuiet_nil ?_)
             refine wpAnyH_tk 9 hC ?_
             (go_big_quiet_want; ((with_reducible refine is_loadQ ?_); (refine q_ldQ (h := ?_)); (try simp only [Act.put]); (try simp only [sI9, sZ9, sS9]); go_big_quiet_on)); (refine wpQuiet_nil ?_)
             refine wpAnyH_tk 10 hC ?_
             (go_big_quiet_want; (go_big_quiet_op; ((refine ⟨_, fun _ _ => rfl, ?_⟩); go_big_quiet_on))); (refine wpQuiet_nil ?_)
             refine wpAnyH_tk 11 hC ?_
             (go_big_quiet_want; (go_big_quiet_op; ((refine ⟨_, fun _ _ => rfl, ?_⟩); go_big_quiet_on))); (refine wpQuiet_nil ?_)
             refine wpAnyH_tk 12 hC ?_
             (go_big_quiet_want; ((with_reducible refine is_loadQ ?_); (refine q_ldQ (h := ?_)); (try simp only [Act.put]); (try simp only [sI9, sZ9, sS9]); go_big_quiet_on)); (refine wpQuiet_nil ?_)
             refine wpAnyH_tk 13 hC ?_
             (go_big_quiet_want; (go_big_quiet_op; (go_big_quiet_on))); (refine wpQuiet_nil ?_)
             refine wpAnyH_tk 14 hC ?_
             (go_big_quiet_want; (go_big_quiet_op; ((refine ⟨_, fun _ _ => rfl, ?_⟩); go_big_quiet_on))); (refine wpQuiet_nil ?_)
             refine wpAnyH_tk 15 hC ?_
             (go_big_quiet_want; ((with_reducible refine is_loadQ ?_); (refine q_ldQ (h := ?_)); (try simp only [Act.put]); (try simp only [sI9, sZ9, sS9]); go_big_quiet_on)); (refine wpQuiet_nil ?_)
             refine wpAnyH_tk 16 hC ?_
             (go_big_quiet_want; (go_big_quiet_op; ((refine ⟨_, fun _ _ => rfl, ?_⟩); go_big_quiet_on))); (refine wpQuiet_nil ?_)
             refine wpAnyH_tk 17 hC ?_
             (go_big_quiet_want; ((with_reducible refine is_loadQ ?_); (refine q_ldQ (h := ?_)); (try simp only [Act.put]); (try simp only [sI9, sZ9, sS9]); go_big_quiet_on)); (refine wpQuiet_nil ?_)
             refine wpAnyH_tk 18 hC ?_
             (go_big_quiet_want; (go_big_quiet_op; ((refine ⟨_, fun _ _ => rfl, ?_⟩); go_big_quiet_on))); (refine wpQuiet_nil ?_)
             refine wpAnyH_1 19 ?_
             rotate_left 1
             all_goals
               refine wpOp_of_listL rfl ?_
               ((with_reducible refine is_store ?_); (refine own_stRw hO (ht := row_Rule) (h := ?_); clear hO; intro wv hO)); (try simp only [Act.put])
               refine wpList_done (qk_intro ?_)
               replace hC : (Own [] w [⟨n3, [.int .i64 3, .int .i64 k, .int .i64 0], 26⟩] [] [⟨g, o, cellsR t⟩]) _ := hO.cls
               refine ⟨hC, ?_⟩
             refine wpAnyH_tk 20 hC ?_
             (go_big_quiet_want; (go_big_quiet_op; ((refine ⟨_, fun _ _ => rfl, ?_⟩); go_big_quiet_on))); (refine wpQuiet_nil ?_)
             refine wpAnyH_1 21 ?_
             rotate_left 1
             all_goals
               refine wpOp_of_listL rfl ?_
               ((with_reducible refine is_store ?_); (refine own_stRw hO (ht := row_Rule) (h := ?_); clear hO; intro wv hO)); (try simp only [Act.put])
               refine wpList_done (qk_intro ?_)
               replace hC : (Own [] w [⟨n3, [.int .i64 3, .int .i64 k, .int .i64 0], 26⟩] [] [⟨g, o, cellsR t⟩]) _ := hO.cls
               refine ⟨hC, ?_⟩
             refine wpAnyH_done (by kernel_rfl) ?_ _
             rotate_left
             all_goals clear hC
             all_goals
               go_wp2_with fail
               go_ret2
               exact ⟨_, rfl, own_table hO List.mem_cons_self, own_new hO List.mem_cons_self, hO.keep.below⟩)
set_option maxHeartbeats 8000000 in
theorem rApply1_any {vt : Value} {t : List Rul} (i j : Int) (w : World) (hv : IsTable w vt t) (kt : okT t) (hl : t.length ≤ 20) :
  Calls Tryz.prog 15 #[vt, .agg #[.int .i64 1, .int .i64 i, .int .i64 j]] w (ApPost w (apF t (1, i, j))) := by
 have hO := own_start [] w
 have h1 : ∀ w, IsTable w vt t → Calls Tryz.prog 46 #[vt] w fun e w' => e = .returned (.bool (validT t)) ∧ Below w.heap.size w w' := fun w hv => rValid8_any w hv (by omega)
 obtain ⟨a, c, rfl, -⟩ := hv.view
 cases hV : validT t with
 | false =>
  rw [hV] at h1
  rw [apF_inv (.inl hV)]
  go_enter Tryz.func15, Tryz.ntmps15
  go_wp2_with (first | ((with_reducible refine is_bx9 ?_); refine bx9 3 hO ?_; clear hO; intro n3 wv hO) | (go_at_call 46; (with_reducible refine (h1 _ (hv.keep0 hO)).mono ?_); rintro e wv ⟨rfl, hb9⟩; replace hO := hO.call hb9; clear hb9; have c0 : wv.cell? ⟨n3, 0, none⟩ = some (.int .i64 1) := (hO.chunk _ List.mem_cons_self).cell 0; have c1 : wv.cell? ⟨n3, 1, none⟩ = some (.int .i64 i) := (hO.chunk _ List.mem_cons_self).cell 1; have c2 : wv.cell? ⟨n3, 2, none⟩ = some (.int .i64 j) := (hO.chunk _ List.mem_cons_self).cell 2))
  go_ret2
  exact ⟨_, rfl, .inl ⟨rfl, rfl⟩, new_nilS _, hO.keep.below⟩
 | true =>
  rw [hV] at h1
  by_cases hj : j = 0
  ·subst hj
   by_cases hlo : i < 0
   ·have g1 : decide (i < 0) = true := decide_eq_true hlo
    rw [apF_out hV (show stepForm (1, i, 0) = true from rfl) (by rw [si_1]; simp; omega)]
    go_enter Tryz.func15, Tryz.ntmps15
    go_wp2_with (first | ((with_reducible refine is_load ?_); (refine own_ldQ (h := ?_))) | ((with_reducible refine is_bx9 ?_); refine bx9 3 hO ?_; clear hO; intro n3 wv hO) | (go_at_call 46; (with_reducible refine (h1 _ (hv.keep0 hO)).mono ?_); rintro e wv ⟨rfl, hb9⟩; replace hO := hO.call hb9; clear hb9; have c0 : wv.cell? ⟨n3, 0, none⟩ = some (.int .i64 1) := (hO.chunk _ List.mem_cons_self).cell 0; have c1 : wv.cell? ⟨n3, 1, none⟩ = some (.int .i64 i) := (hO.chunk _ List.mem_cons_self).cell 1; have c2 : wv.cell? ⟨n3, 2, none⟩ = some (.int .i64 0) := (hO.chunk _ List.mem_cons_self).cell 2))
    go_ret2
    exact ⟨_, rfl, .inl ⟨rfl, rfl⟩, new_nilS _, hO.keep.below⟩
   ·have g1 : decide (i < 0) = false := decide_eq_false hlo
    by_cases hhi : (t.length : Int) ≤ i
    ·have g2 : decide ((t.length : Int) ≤ i) = true := decide_eq_true hhi
     rw [apF_out hV (show stepForm (1, i, 0) = true from rfl) (by rw [si_1]; simp; omega)]
     go_enter Tryz.func15, Tryz.ntmps15
     go_wp2_with (first | ((with_reducible refine is_load ?_); (refine own_ldQ (h := ?_))) | ((with_reducible refine is_bx9 ?_); refine bx9 3 hO ?_; clear hO; intro n3 wv hO) | (go_at_call 46; (with_reducible refine (h1 _ (hv.keep0 hO)).mono ?_); rintro e wv ⟨rfl, hb9⟩; replace hO := hO.call hb9; clear hb9; have c0 : wv.cell? ⟨n3, 0, none⟩ = some (.int .i64 1) := (hO.chunk _ List.mem_cons_self).cell 0; have c1 : wv.cell? ⟨n3, 1, none⟩ = some (.int .i64 i) := (hO.chunk _ List.mem_cons_self).cell 1; have c2 : wv.cell? ⟨n3, 2, none⟩ = some (.int .i64 0) := (hO.chunk _ List.mem_cons_self).cell 2))
     go_ret2
     exact ⟨_, rfl, .inl ⟨rfl, rfl⟩, new_nilS _, hO.keep.below⟩
    ·have g2 : decide ((t.length : Int) ≤ i) = false := decide_eq_false hhi
     obtain ⟨k, rfl⟩ : ∃ k : Nat, i = (k : Int) := ⟨i.toNat, by omega⟩
     have hk : k < t.length := by omega
     have hI : stepIn t.length (1, (k : Int), 0) = true := by rw [si_1]; simp; omega
     have hF : stepForm (1, (k : Int), 0) = true := rfl
     have h2 : ∀ w, IsTable w (.slice a t.length c) t → Calls Tryz.prog 47 #[.slice a t.length c, .int .i64 k] w fun e w' => e = .returned (.tuple #[.bool (stB (stF t k)), .int .i64 (stE (stF t k))]) ∧ Below w.heap.size w w' := fun w hv => by
      have h := rRemovable_any (i := (k : Int)) w hv kt hl
      unfold rmP at h
      rw [if_pos hV, if_neg (by omega), Int.toNat_natCast] at h
      exact h
     have h3 := fun w hv => rWithout_any (vt := .slice a t.length c) (t := t) (i := k) w hv hk (by omega)
     have hS := soundE_1 t k 0
     generalize stE (stF t k) = E at *
     generalize stB (stF t k) = b at *
     by_cases hE : E = 0
     ·subst hE
      cases b
      ·rw [apF_err hV hF hI (by rw [hS]; decide), hS]
       go_enter Tryz.func15, Tryz.ntmps15
       go_wp2_with (first | ((with_reducible refine is_load ?_); (refine own_ldQ (h := ?_))) | ((with_reducible refine is_bx9 ?_); refine bx9 3 hO ?_; clear hO; intro n3 wv hO) | (go_at_call 46; (with_reducible refine (h1 _ (hv.keep0 hO)).mono ?_); rintro e wv ⟨rfl, hb9⟩; replace hO := hO.call hb9; clear hb9; have c0 : wv.cell? ⟨n3, 0, none⟩ = some (.int .i64 1) := (hO.chunk _ List.mem_cons_self).cell 0; have c1 : wv.cell? ⟨n3, 1, none⟩ = some (.int .i64 k) := (hO.chunk _ List.mem_cons_self).cell 1; have c2 : wv.cell? ⟨n3, 2, none⟩ = some (.int .i64 0) := (hO.chunk _ List.mem_cons_self).cell 2) | (go_at_call 47; (with_reducible refine (h2 _ (hv.keep0 hO)).mono ?_); rintro e wv ⟨rfl, hb9⟩; replace hO := hO.call hb9; clear hb9; clear c0 c1 c2))
       go_ret2
       exact ⟨_, rfl, .inl ⟨rfl, rfl⟩, new_nilS _, hO.keep.below⟩
      ·rw [apF_ok hV hF hI (by rw [hS]; decide), perfF_1]
       generalize woF t k = u at *
       go_enter Tryz.func15, Tryz.ntmps15
       go_wp2_with (first | ((with_reducible refine is_load ?_); (refine own_ldQ (h := ?_))) | ((with_reducible refine is_bx9 ?_); refine bx9 3 hO ?_; clear hO; intro n3 wv hO) | (go_at_call 46; (with_reducible refine (h1 _ (hv.keep0 hO)).mono ?_); rintro e wv ⟨rfl, hb9⟩; replace hO := hO.call hb9; clear hb9; have c0 : wv.cell? ⟨n3, 0, none⟩ = some (.int .i64 1) := (hO.chunk _ List.mem_cons_self).cell 0; have c1 : wv.cell? ⟨n3, 1, none⟩ = some (.int .i64 k) := (hO.chunk _ List.mem_cons_self).cell 1; have c2 : wv.cell? ⟨n3, 2, none⟩ = some (.int .i64 0) := (hO.chunk _ List.mem_cons_self).cell 2) | (go_at_call 47; (with_reducible refine (h2 _ (hv.keep0 hO)).mono ?_); rintro e wv ⟨rfl, hb9⟩; replace hO := hO.call hb9; clear hb9; clear c0 c1 c2) | (go_at_call 48; (with_reducible refine (h3 _ (hv.keep0 hO)).mono ?_); rintro e wv ⟨v5, rfl, ⟨hv9, hn9⟩, hb9⟩; (have hN5 : NewFrom w v5 := (fun g hg => Nat.le_trans hO.keep.size (hn9 g hg))); have hf5 := hv9.form; replace hO := hO.gainR hb9 hv9 hn9; clear hb9 hv9 hn9))
       go_ret2
       exact ⟨v5, rfl, hO.isRm hf5, hN5, hO.keep.below⟩
     ·rw [if_neg hE] at hS
      rw [apF_err hV hF hI (by rw [hS]; exact hE), hS]
      have g9 : (E != 0) = true := by simpa using hE
      clear hS hE
      go_enter Tryz.func15, Tryz.ntmps15
      go_wp2_with (first | ((with_reducible refine is_load ?_); (refine own_ldQ (h := ?_))) | ((with_reducible refine is_bx9 ?_); refine bx9 3 hO ?_; clear hO; intro n3 wv hO) | (go_at_call 46; (with_reducible refine (h1 _ (hv.keep0 hO)).mono ?_); rintro e wv ⟨rfl, hb9⟩; replace hO := hO.call hb9; clear hb9; have c0 : wv.cell? ⟨n3, 0, none⟩ = some (.int .i64 1) := (hO.chunk _ List.mem_cons_self).cell 0; have c1 : wv.cell? ⟨n3, 1, none⟩ = some (.int .i64 k) := (hO.chunk _ List.mem_cons_self).cell 1; have c2 : wv.cell? ⟨n3, 2, none⟩ = some (.int .i64 0) := (hO.chunk _ List.mem_cons_self).cell 2) | (go_at_call 47; (with_reducible refine (h2 _ (hv.keep0 hO)).mono ?_); rintro e wv ⟨rfl, hb9⟩; replace hO := hO.call hb9; clear hb9; clear c0 c1 c2))
      go_ret2
      exact ⟨_, rfl, .inl ⟨rfl, rfl⟩, new_nilS _, hO.keep.below⟩
  ·have g0 : (j != 0) = true := by simpa using hj
   rw [apF_inv (.inr (by rw [sf_1]; simpa using hj))]
   go_enter Tryz.func15, Tryz.ntmps15
   go_wp2_with (first | ((with_reducible refine is_load ?_); (refine own_ldQ (h := ?_))) | ((with_reducible refine is_bx9 ?_); refine bx9 3 hO ?_; clear hO; intro n3 wv hO) | (go_at_call 46; (with_reducible refine (h1 _ (hv.keep0 hO)).mono ?_); rintro e wv ⟨rfl, hb9⟩; replace hO := hO.call hb9; clear hb9; have c0 : wv.cell? ⟨n3, 0, none⟩ = some (.int .i64 1) := (hO.chunk _ List.mem_cons_self).cell 0; have c1 : wv.cell? ⟨n3, 1, none⟩ = some (.int .i64 i) := (hO.chunk _ List.mem_cons_self).cell 1; have c2 : wv.cell? ⟨n3, 2, none⟩ = some (.int .i64 j) := (hO.chunk _ List.mem_cons_self).cell 2))
   go_ret2
   exact ⟨_, rfl, .inl ⟨rfl, rfl⟩, new_nilS _, hO.keep.below⟩
set_option maxHeartbeats 8000000 in
theorem rApply2_any {vt : Value} {t : List Rul} (i j : Int) (w : World) (hv : IsTable w vt t) (kt : okT t) (hl : t.length ≤ 20) :
  Calls Tryz.prog 15 #[vt, .agg #[.int .i64 2, .int .i64 i, .int .i64 j]] w (ApPost w (apF t (2, i, j))) := by
 have hO := own_start [] w
 have h1 : ∀ w, IsTable w vt t → Calls Tryz.prog 46 #[vt] w fun e w' => e = .returned (.bool (validT t)) ∧ Below w.heap.size w w' := fun w hv => rValid8_any w hv (by omega)
 obtain ⟨a, c, rfl, -⟩ := hv.view
 cases hV : validT t with
 | false =>
  rw [hV] at h1
  rw [apF_inv (.inl hV)]
  go_enter Tryz.func15, Tryz.ntmps15
  go_wp2_with (first | ((with_reducible refine is_bx9 ?_); refine bx9 3 hO ?_; clear hO; intro n3 wv hO) | (go_at_call 46; (with_reducible refine (h1 _ (hv.keep0 hO)).mono ?_); rintro e wv ⟨rfl, hb9⟩; replace hO := hO.call hb9; clear hb9; have c0 : wv.cell? ⟨n3, 0, none⟩ = some (.int .i64 2) := (hO.chunk _ List.mem_cons_self).cell 0; have c1 : wv.cell? ⟨n3, 1, none⟩ = some (.int .i64 i) := (hO.chunk _ List.mem_cons_self).cell 1; have c2 : wv.cell? ⟨n3, 2, none⟩ = some (.int .i64 j) := (hO.chunk _ List.mem_cons_self).cell 2))
  go_ret2
  exact ⟨_, rfl, .inl ⟨rfl, rfl⟩, new_nilS _, hO.keep.below⟩
 | true =>
  rw [hV] at h1
  by_cases hlo : i < 0
  ·have g1 : decide (i < 0) = true := decide_eq_true hlo
   rw [apF_out hV (sf_2 i j) (by rw [si_2]; simp; omega)]
   go_enter Tryz.func15, Tryz.ntmps15
   go_wp2_with (first | ((with_reducible refine is_load ?_); (refine own_ldQ (h := ?_))) | ((with_reducible refine is_bx9 ?_); refine bx9 3 hO ?_; clear hO; intro n3 wv hO) | (go_at_call 46; (with_reducible refine (h1 _ (hv.keep0 hO)).mono ?_); rintro e wv ⟨rfl, hb9⟩; replace hO := hO.call hb9; clear hb9; have c0 : wv.cell? ⟨n3, 0, none⟩ = some (.int .i64 2) := (hO.chunk _ List.mem_cons_self).cell 0; have c1 : wv.cell? ⟨n3, 1, none⟩ = some (.int .i64 i) := (hO.chunk _ List.mem_cons_self).cell 1; have c2 : wv.cell? ⟨n3, 2, none⟩ = some (.int .i64 j) := (hO.chunk _ List.mem_cons_self).cell 2))
   go_ret2
   exact ⟨_, rfl, .inl ⟨rfl, rfl⟩, new_nilS _, hO.keep.below⟩
  ·have g1 : decide (i < 0) = false := decide_eq_false hlo
   by_cases hhi : (t.length : Int) ≤ i
   ·have g2 : decide ((t.length : Int) ≤ i) = true := decide_eq_true hhi
    rw [apF_out hV (sf_2 i j) (by rw [si_2]; simp; omega)]
    go_enter Tryz.func15, Tryz.ntmps15
    go_wp2_with (first | ((with_reducible refine is_load ?_); (refine own_ldQ (h := ?_))) | ((with_reducible refine is_bx9 ?_); refine bx9 3 hO ?_; clear hO; intro n3 wv hO) | (go_at_call 46; (with_reducible refine (h1 _ (hv.keep0 hO)).mono ?_); rintro e wv ⟨rfl, hb9⟩; replace hO := hO.call hb9; clear hb9; have c0 : wv.cell? ⟨n3, 0, none⟩ = some (.int .i64 2) := (hO.chunk _ List.mem_cons_self).cell 0; have c1 : wv.cell? ⟨n3, 1, none⟩ = some (.int .i64 i) := (hO.chunk _ List.mem_cons_self).cell 1; have c2 : wv.cell? ⟨n3, 2, none⟩ = some (.int .i64 j) := (hO.chunk _ List.mem_cons_self).cell 2))
    go_ret2
    exact ⟨_, rfl, .inl ⟨rfl, rfl⟩, new_nilS _, hO.keep.below⟩
   ·have g2 : decide ((t.length : Int) ≤ i) = false := decide_eq_false hhi
    by_cases hji : j ≤ i
    ·have g3 : decide (j ≤ i) = true := decide_eq_true hji
     rw [apF_out hV (sf_2 i j) (by rw [si_2]; simp; omega)]
     go_enter Tryz.func15, Tryz.ntmps15
     go_wp2_with (first | ((with_reducible refine is_load ?_); (refine own_ldQ (h := ?_))) | ((with_reducible refine is_bx9 ?_); refine bx9 3 hO ?_; clear hO; intro n3 wv hO) | (go_at_call 46; (with_reducible refine (h1 _ (hv.keep0 hO)).mono ?_); rintro e wv ⟨rfl, hb9⟩; replace hO := hO.call hb9; clear hb9; have c0 : wv.cell? ⟨n3, 0, none⟩ = some (.int .i64 2) := (hO.chunk _ List.mem_cons_self).cell 0; have c1 : wv.cell? ⟨n3, 1, none⟩ = some (.int .i64 i) := (hO.chunk _ List.mem_cons_self).cell 1; have c2 : wv.cell? ⟨n3, 2, none⟩ = some (.int .i64 j) := (hO.chunk _ List.mem_cons_self).cell 2))
     go_ret2
     exact ⟨_, rfl, .inl ⟨rfl, rfl⟩, new_nilS _, hO.keep.below⟩
    ·have g3 : decide (j ≤ i) = false := decide_eq_false hji
     by_cases hjn : (t.length : Int) ≤ j
     ·have g4 : decide ((t.length : Int) ≤ j) = true := decide_eq_true hjn
      rw [apF_out hV (sf_2 i j) (by rw [si_2]; simp; omega)]
      go_enter Tryz.func15, Tryz.ntmps15
      go_wp2_with (first | ((with_reducible refine is_load ?_); (refine own_ldQ (h := ?_))) | ((with_reducible refine is_bx9 ?_); refine bx9 3 hO ?_; clear hO; intro n3 wv hO) | (go_at_call 46; (with_reducible refine (h1 _ (hv.keep0 hO)).mono ?_); rintro e wv ⟨rfl, hb9⟩; replace hO := hO.call hb9; clear hb9; have c0 : wv.cell? ⟨n3, 0, none⟩ = some (.int .i64 2) := (hO.chunk _ List.mem_cons_self).cell 0; have c1 : wv.cell? ⟨n3, 1, none⟩ = some (.int .i64 i) := (hO.chunk _ List.mem_cons_self).cell 1; have c2 : wv.cell? ⟨n3, 2, none⟩ = some (.int .i64 j) := (hO.chunk _ List.mem_cons_self).cell 2))
      go_ret2
      exact ⟨_, rfl, .inl ⟨rfl, rfl⟩, new_nilS _, hO.keep.below⟩
     ·have g4 : decide ((t.length : Int) ≤ j) = false := decide_eq_false hjn
      obtain ⟨k, rfl⟩ : ∃ k : Nat, i = (k : Int) := ⟨i.toNat, by omega⟩
      obtain ⟨m, rfl⟩ : ∃ m : Nat, j = (m : Int) := ⟨j.toNat, by omega⟩
      have hkm : k < m := by omega
      have hm : m < t.length := by omega
      have hI : stepIn t.length (2, (k : Int), (m : Int)) = true := by rw [si_2]; simp; omega
      have hF := sf_2 (k : Int) (m : Int)
      have h2 := fun w hv => rmergeable_any (vt := .slice a t.length c) (t := t) (i := k) (j := m) w hv kt (validT_all hV).1 (by omega) hkm hm
      have h3 := fun w hv => rmerge_any (vt := .slice a t.length c) (t := t) (i := k) (j := m) w hv (validT_all hV).1 (by omega) hkm hm
      have hS := soundE_2 t k m
      generalize mergB t k m = b at *
      cases b
      ·rw [apF_err hV hF hI (by rw [hS]; decide), hS]
       go_enter Tryz.func15, Tryz.ntmps15
       go_wp2_with (first | ((with_reducible refine is_load ?_); (refine own_ldQ (h := ?_))) | ((with_reducible refine is_bx9 ?_); refine bx9 3 hO ?_; clear hO; intro n3 wv hO) | (go_at_call 46; (with_reducible refine (h1 _ (hv.keep0 hO)).mono ?_); rintro e wv ⟨rfl, hb9⟩; replace hO := hO.call hb9; clear hb9; have c0 : wv.cell? ⟨n3, 0, none⟩ = some (.int .i64 2) := (hO.chunk _ List.mem_cons_self).cell 0; have c1 : wv.cell? ⟨n3, 1, none⟩ = some (.int .i64 k) := (hO.chunk _ List.mem_cons_self).cell 1; have c2 : wv.cell? ⟨n3, 2, none⟩ = some (.int .i64 m) := (hO.chunk _ List.mem_cons_self).cell 2) | (go_at_call 49; (with_reducible refine (h2 _ (hv.keep0 hO)).mono ?_); rintro e wv ⟨rfl, hb9⟩; replace hO := hO.call hb9; clear hb9; clear c0 c1 c2))
       go_ret2
       exact ⟨_, rfl, .inl ⟨rfl, rfl⟩, new_nilS _, hO.keep.below⟩
      ·rw [apF_ok hV hF hI (by rw [hS]; decide), perfF_2]
       generalize mergT t k m = u at *
       go_enter Tryz.func15, Tryz.ntmps15
       go_wp2_with (first | ((with_reducible refine is_load ?_); (refine own_ldQ (h := ?_))) | ((with_reducible refine is_bx9 ?_); refine bx9 3 hO ?_; clear hO; intro n3 wv hO) | (go_at_call 46; (with_reducible refine (h1 _ (hv.keep0 hO)).mono ?_); rintro e wv ⟨rfl, hb9⟩; replace hO := hO.call hb9; clear hb9; have c0 : wv.cell? ⟨n3, 0, none⟩ = some (.int .i64 2) := (hO.chunk _ List.mem_cons_self).cell 0; have c1 : wv.cell? ⟨n3, 1, none⟩ = some (.int .i64 k) := (hO.chunk _ List.mem_cons_self).cell 1; have c2 : wv.cell? ⟨n3, 2, none⟩ = some (.int .i64 m) := (hO.chunk _ List.mem_cons_self).cell 2) | (go_at_call 49; (with_reducible refine (h2 _ (hv.keep0 hO)).mono ?_); rintro e wv ⟨rfl, hb9⟩; replace hO := hO.call hb9; clear hb9; clear c0 c1 c2) | (go_at_call 50; (with_reducible refine (h3 _ (hv.keep0 hO)).mono ?_); rintro e wv ⟨v5, rfl, ⟨hv9, hn9⟩, hb9⟩; (have hN5 : NewFrom w v5 := (fun g hg => Nat.le_trans hO.keep.size (hn9 g hg))); have hf5 := hv9.form; replace hO := hO.gainR hb9 hv9 hn9; clear hb9 hv9 hn9))
       go_ret2
       exact ⟨v5, rfl, hO.isRm hf5, hN5, hO.keep.below⟩
set_option maxHeartbeats 8000000 in
theorem rApply3_any {vt : Value} {t : List Rul} (i j : Int) (w : World) (hv : IsTable w vt t) (_kt : okT t) (hl : t.length ≤ 20) :
  Calls Tryz.prog 15 #[vt, .agg #[.int .i64 3, .int .i64 i, .int .i64 j]] w (ApPost w (apF t (3, i, j))) := by
 have hO := own_start [] w
 have h1 : ∀ w, IsTable w vt t → Calls Tryz.prog 46 #[vt] w fun e w' => e = .returned (.bool (validT t)) ∧ Below w.heap.size w w' := fun w hv => rValid8_any w hv (by omega)
 obtain ⟨a, c, rfl, -⟩ := hv.view
 cases hV : validT t with
 | false =>
  rw [hV] at h1
  rw [apF_inv (.inl hV)]
  go_enter Tryz.func15, Tryz.ntmps15
  go_wp2_with (first | ((with_reducible refine is_bx9 ?_); refine bx9 3 hO ?_; clear hO; intro n3 wv hO) | (go_at_call 46; (with_reducible refine (h1 _ (hv.keep0 hO)).mono ?_); rintro e wv ⟨rfl, hb9⟩; replace hO := hO.call hb9; clear hb9; have c0 : wv.cell? ⟨n3, 0, none⟩ = some (.int .i64 3) := (hO.chunk _ List.mem_cons_self).cell 0; have c1 : wv.cell? ⟨n3, 1, none⟩ = some (.int .i64 i) := (hO.chunk _ List.mem_cons_self).cell 1; have c2 : wv.cell? ⟨n3, 2, none⟩ = some (.int .i64 j) := (hO.chunk _ List.mem_cons_self).cell 2))
  go_ret2
  exact ⟨_, rfl, .inl ⟨rfl, rfl⟩, new_nilS _, hO.keep.below⟩
 | true =>
  rw [hV] at h1
  by_cases hj : j = 0
  ·subst hj
   by_cases hlo : i < 0
   ·have g1 : decide (i < 0) = true := decide_eq_true hlo
    rw [apF_out hV (show stepForm (3, i, 0) = true from rfl) (by rw [si_3]; simp; omega)]
    go_enter Tryz.func15, Tryz.ntmps15
    go_wp2_with (first | ((with_reducible refine is_load ?_); (refine own_ldQ (h := ?_))) | ((with_reducible refine is_bx9 ?_); refine bx9 3 hO ?_; clear hO; intro n3 wv hO) | (go_at_call 46; (with_reducible refine (h1 _ (hv.keep0 hO)).mono ?_); rintro e wv ⟨rfl, hb9⟩; replace hO := hO.call hb9; clear hb9; have c0 : wv.cell? ⟨n3, 0, none⟩ = some (.int .i64 3) := (hO.chunk _ List.mem_cons_self).cell 0; have c1 : wv.cell? ⟨n3, 1, none⟩ = some (.int .i64 i) := (hO.chunk _ List.mem_cons_self).cell 1; have c2 : wv.cell? ⟨n3, 2, none⟩ = some (.int .i64 0) := (hO.chunk _ List.mem_cons_self).cell 2))
    go_ret2
    exact ⟨_, rfl, .inl ⟨rfl, rfl⟩, new_nilS _, hO.keep.below⟩
   ·have g1 : decide (i < 0) = false := decide_eq_false hlo
    by_cases hhi : (t.length : Int) ≤ i
    ·have g2 : decide ((t.length : Int) ≤ i) = true := decide_eq_true hhi
     rw [apF_out hV (show stepForm (3, i, 0) = true from rfl) (by rw [si_3]; simp; omega)]
     go_enter Tryz.func15, Tryz.ntmps15
     go_wp2_with (first | ((with_reducible refine is_load ?_); (refine own_ldQ (h := ?_))) | ((with_reducible refine is_bx9 ?_); refine bx9 3 hO ?_; clear hO; intro n3 wv hO) | (go_at_call 46; (with_reducible refine (h1 _ (hv.keep0 hO)).mono ?_); rintro e wv ⟨rfl, hb9⟩; replace hO := hO.call hb9; clear hb9; have c0 : wv.cell? ⟨n3, 0, none⟩ = some (.int .i64 3) := (hO.chunk _ List.mem_cons_self).cell 0; have c1 : wv.cell? ⟨n3, 1, none⟩ = some (.int .i64 i) := (hO.chunk _ List.mem_cons_self).cell 1; have c2 : wv.cell? ⟨n3, 2, none⟩ = some (.int .i64 0) := (hO.chunk _ List.mem_cons_self).cell 2))
     go_ret2
     exact ⟨_, rfl, .inl ⟨rfl, rfl⟩, new_nilS _, hO.keep.below⟩
    ·have g2 : decide ((t.length : Int) ≤ i) = false := decide_eq_false hhi
     have s3 : IntKind.i64.wrap (i + 1) = i + 1 := IntWalk.i64_in _ (by omega)
     by_cases hlast : (t.length : Int) ≤ i + 1
     ·have g3 : decide ((t.length : Int) ≤ i + 1) = true := decide_eq_true hlast
      rw [apF_out hV (show stepForm (3, i, 0) = true from rfl) (by rw [si_3]; simp; omega)]
      go_enter Tryz.func15, Tryz.ntmps15
      go_wp2_with (first | ((with_reducible refine is_load ?_); (refine own_ldQ (h := ?_))) | ((with_reducible refine is_bx9 ?_); refine bx9 3 hO ?_; clear hO; intro n3 wv hO) | (go_at_call 46; (with_reducible refine (h1 _ (hv.keep0 hO)).mono ?_); rintro e wv ⟨rfl, hb9⟩; replace hO := hO.call hb9; clear hb9; have c0 : wv.cell? ⟨n3, 0, none⟩ = some (.int .i64 3) := (hO.chunk _ List.mem_cons_self).cell 0; have c1 : wv.cell? ⟨n3, 1, none⟩ = some (.int .i64 i) := (hO.chunk _ List.mem_cons_self).cell 1; have c2 : wv.cell? ⟨n3, 2, none⟩ = some (.int .i64 0) := (hO.chunk _ List.mem_cons_self).cell 2))
      go_ret2
      exact ⟨_, rfl, .inl ⟨rfl, rfl⟩, new_nilS _, hO.keep.below⟩
     ·have g3 : decide ((t.length : Int) ≤ i + 1) = false := decide_eq_false hlast
      obtain ⟨k, rfl⟩ : ∃ k : Nat, i = (k : Int) := ⟨i.toNat, by omega⟩
      have hk : k + 1 < t.length := by omega
      have hI : stepIn t.length (3, (k : Int), 0) = true := by rw [si_3]; simp; omega
      have hF : stepForm (3, (k : Int), 0) = true := rfl
      exact rswap_any hv hV hk hl
  ·have g0 : (j != 0) = true := by simpa using hj
   rw [apF_inv (.inr (by rw [sf_3]; simpa using hj))]
   go_enter Tryz.func15, Tryz.ntmps15
   go_wp2_with (first | ((with_reducible refine is_load ?_); (refine own_ldQ (h := ?_))) | ((with_reducible refine is_bx9 ?_); refine bx9 3 hO ?_; clear hO; intro n3 wv hO) | (go_at_call 46; (with_reducible refine (h1 _ (hv.keep0 hO)).mono ?_); rintro e wv ⟨rfl, hb9⟩; replace hO := hO.call hb9; clear hb9; have c0 : wv.cell? ⟨n3, 0, none⟩ = some (.int .i64 3) := (hO.chunk _ List.mem_cons_self).cell 0; have c1 : wv.cell? ⟨n3, 1, none⟩ = some (.int .i64 i) := (hO.chunk _ List.mem_cons_self).cell 1; have c2 : wv.cell? ⟨n3, 2, none⟩ = some (.int .i64 j) := (hO.chunk _ List.mem_cons_self).cell 2))
   go_ret2
   exact ⟨_, rfl, .inl ⟨rfl, rfl⟩, new_nilS _, hO.keep.below⟩
set_option maxHeartbeats 8000000 in
theorem rApply_any {vt : Value} {t : List Rul} (kd i j : Int) (w : World) (hv : IsTable w vt t) (kt : okT t) (hl : t.length ≤ 20) :
  Calls Tryz.prog 15 #[vt, .agg #[.int .i64 kd, .int .i64 i, .int .i64 j]] w (ApPost w (apF t (kd, i, j))) := by
 by_cases hlo : kd < 1
 ·rw [apF_inv (.inr (sf_out (.inl hlo)))]
  have g1 : decide (kd < 1) = true := decide_eq_true hlo
  have hO := own_start [] w
  have h1 : ∀ w, IsTable w vt t → Calls Tryz.prog 46 #[vt] w fun e w' => e = .returned (.bool (validT t)) ∧ Below w.heap.size w w' := fun w hv => rValid8_any w hv (by omega)
  obtain ⟨a, c, rfl, -⟩ := hv.view
  cases hV : validT t
  all_goals
   rw [hV] at h1
   go_enter Tryz.func15, Tryz.ntmps15
   go_wp2_with (first | ((with_reducible refine is_load ?_); (refine own_ldQ (h := ?_))) | ((with_reducible refine is_bx9 ?_); refine bx9 3 hO ?_; clear hO; intro n3 wv hO) | (go_at_call 46; (with_reducible refine (h1 _ (hv.keep0 hO)).mono ?_); rintro e wv ⟨rfl, hb9⟩; replace hO := hO.call hb9; clear hb9; have c0 : wv.cell? ⟨n3, 0, none⟩ = some (.int .i64 kd) := (hO.chunk _ List.mem_cons_self).cell 0; have c1 : wv.cell? ⟨n3, 1, none⟩ = some (.int .i64 i) := (hO.chunk _ List.mem_cons_self).cell 1; have c2 : wv.cell? ⟨n3, 2, none⟩ = some (.int .i64 j) := (hO.chunk _ List.mem_cons_self).cell 2))
   go_ret2
   exact ⟨_, rfl, .inl ⟨rfl, rfl⟩, new_nilS _, hO.keep.below⟩
 by_cases hhi : 3 < kd
 ·rw [apF_inv (.inr (sf_out (.inr hhi)))]
  have g1 : decide (kd < 1) = false := decide_eq_false hlo
  have g2 : decide (3 < kd) = true := decide_eq_true hhi
  have hO := own_start [] w
  have h1 : ∀ w, IsTable w vt t → Calls Tryz.prog 46 #[vt] w fun e w' => e = .returned (.bool (validT t)) ∧ Below w.heap.size w w' := fun w hv => rValid8_any w hv (by omega)
  obtain ⟨a, c, rfl, -⟩ := hv.view
  cases hV : validT t
  all_goals
   rw [hV] at h1
   go_enter Tryz.func15, Tryz.ntmps15
   go_wp2_with (first | ((with_reducible refine is_load ?_); (refine own_ldQ (h := ?_))) | ((with_reducible refine is_bx9 ?_); refine bx9 3 hO ?_; clear hO; intro n3 wv hO) | (go_at_call 46; (with_reducible refine (h1 _ (hv.keep0 hO)).mono ?_); rintro e wv ⟨rfl, hb9⟩; replace hO := hO.call hb9; clear hb9; have c0 : wv.cell? ⟨n3, 0, none⟩ = some (.int .i64 kd) := (hO.chunk _ List.mem_cons_self).cell 0; have c1 : wv.cell? ⟨n3, 1, none⟩ = some (.int .i64 i) := (hO.chunk _ List.mem_cons_self).cell 1; have c2 : wv.cell? ⟨n3, 2, none⟩ = some (.int .i64 j) := (hO.chunk _ List.mem_cons_self).cell 2))
   go_ret2
   exact ⟨_, rfl, .inl ⟨rfl, rfl⟩, new_nilS _, hO.keep.below⟩
 rcases (show kd = 1 ∨ kd = 2 ∨ kd = 3 by omega) with rfl | rfl | rfl
 ·exact rApply1_any i j w hv kt hl
 ·exact rApply2_any i j w hv kt hl
 ·exact rApply3_any i j w hv kt hl
end Go.Proofs.YtbdfblgdmappeaaGreatDoor
