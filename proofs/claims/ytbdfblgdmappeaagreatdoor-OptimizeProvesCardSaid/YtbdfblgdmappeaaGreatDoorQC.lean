/- Package optimize: joins, meet, hull, merges. -/
import Derived.Test.YtbdfblgdmappeaaGreatDoorQB
import Derived.Test.YtbdfblgdmappeaaGreatDoorQA
import Derived.Test.YtbdfblgdmappeaaGreatDoorMA
import Derived.Test.YtbdfblgdmappeaaGreatDoorMB
namespace Go.Proofs.YtbdfblgdmappeaaGreatDoor
open Go.RowKit
set_option maxRecDepth 100000
theorem jnP_same {a b : Bx} {k n : Nat} (h : jnP a b k = some n) (he : a.at k = b.at k) : jnP a b (k + 1) = some n := by rw [jnP, h]; dsimp only; rw [if_pos he]
theorem jnP_no {a b : Bx} {k n : Nat} (h : jnP a b k = some n) (he : a.at k ≠ b.at k) (h1 : min (a.at k).hi (b.at k).hi < max (a.at k).lo (b.at k).lo) (h2 : 1 < max (a.at k).lo (b.at k).lo - min (a.at k).hi (b.at k).hi) : jnP a b (k + 1) = none := by
 rw [jnP, h]; dsimp only; rw [if_neg he, decide_eq_true h1, decide_eq_true h2]; rfl
theorem jnP_up {a b : Bx} {k n : Nat} (h : jnP a b k = some n) (he : a.at k ≠ b.at k) (h1 : ¬ (min (a.at k).hi (b.at k).hi < max (a.at k).lo (b.at k).lo ∧ 1 < max (a.at k).lo (b.at k).lo - min (a.at k).hi (b.at k).hi)) : jnP a b (k + 1) = some (n + 1) := by
 rw [jnP, h]; dsimp only
 rw [if_neg he, if_neg]
 rw [Bool.and_eq_true, decide_eq_true_iff, decide_eq_true_iff]
 exact h1
theorem jnP_never {a b : Bx} {k : Nat} (h : jnP a b k = none) : ∀ m, jnP a b (k + m) = none
 | 0 => h
 | m + 1 => by rw [← Nat.add_assoc, jnP, jnP_never h m]
def jnB (a b : Bx) : Bool := match jnP a b 5 with | none => false | some n => decide (n ≤ 1)
theorem jnB_no {a b : Bx} {k : Nat} (hk : k < 5) (h : jnP a b (k + 1) = none) : jnB a b = false := by
 have := jnP_never h (4 - k)
 rw [show k + 1 + (4 - k) = 5 by omega] at this
 unfold jnB; rw [this]
theorem jnB_yes {a b : Bx} {n : Nat} (h : jnP a b 5 = some n) : jnB a b = decide ((n : Int) ≤ 1) := by
 unfold jnB; rw [h]; dsimp only; rw [decide_eq_decide]; omega
set_option maxHeartbeats 8000000 in
theorem ojoins_any (a b : Bx) (w : World) (ka : a.ok) (kb : b.ok) : Calls Tryz.prog 162 #[bv a, bv b] w fun e w' => e = .returned (.bool (jnB a b)) ∧ Below w.heap.size w w' := by
 have hO := own_start [] w
 go_enter Tryz.func162, Tryz.ntmps162
 go_wp2_with (first | (refine bx9 2 hO ?_; clear hO; intro n2 wv hO) | (refine bx9 3 hO ?_; clear hO; intro n3 wv hO))
 go_loopw [5, 9] (fun v q wr => ∃ k n : Nat, k ≤ 5 ∧ n ≤ k ∧ q = .int .i64 k ∧ v = .int .i64 n ∧ Hid (jnP a b k = some n) ∧ Own [] w [⟨n3, bcs b, 98⟩, ⟨n2, bcs a, 98⟩] [] [] wr) (fun _ q _ => 5 - (intOf q).toNat)
 case atStart => exact ⟨0, 0, by omega, by omega, rfl, rfl, Lib.hid rfl, hO⟩
 case round =>
  clear hO
  obtain ⟨k, n, hk, hn, rfl, rfl, HP, hO⟩ := hrel
  by_cases hlt : k < 5
  ·by_cases he : a.at k = b.at k
   ·have g1 : decide (a.at k = b.at k) = true := decide_eq_true he
    have HN := Lib.hid (jnP_same HP.out he)
    clear HP he
    go_wp2_with fail
    (refine own_quiet hO (by kernel_rfl) (by kernel_rfl) ?_; clear hO; (repeat (go_big_quiet_want; (first | ((with_reducible refine is_loadQ ?_); (refine q_ldQ (h := ?_)); (try simp only [Act.put]); (try simp only [sI9, sZ9, sS9]); go_big_quiet_on) | (go_big_quiet_op; (first | go_big_quiet_on | ((refine ⟨_, fun _ _ => rfl, ?_⟩); go_big_quiet_on)))))); (refine wpQuiet_nil ?_); intro wv hO)
    go_wp2_with fail
    go_roundw
    case rel => exact ⟨k + 1, n, by omega, by omega, by go_num, rfl, HN, hO⟩
    case measure => simp [intOf]; omega
   ·have g1 : decide (a.at k = b.at k) = false := decide_eq_false he
    have s1 : IntKind.i64.wrap ((n : Int) + 1) = (n : Int) + 1 := IntWalk.i64_in _ (by omega)
    have ka1 := ka k hlt
    have kb1 := kb k hlt
    have HNo := Lib.hid (fun h1 h2 => jnB_no hlt (jnP_no HP.out he h1 h2))
    have HUp := Lib.hid (jnP_up HP.out he)
    have hX : 0 ≤ max (a.at k).lo (b.at k).lo ∧ max (a.at k).lo (b.at k).lo ≤ 4294967295 := by omega
    have hY : 0 ≤ min (a.at k).hi (b.at k).hi ∧ min (a.at k).hi (b.at k).hi ≤ 4294967295 := by omega
    have HX := Lib.hid (show max (a.at k).lo (b.at k).lo = max (a.at k).lo (b.at k).lo from rfl)
    clear HP he ka1 kb1
    by_cases h1 : min (a.at k).hi (b.at k).hi < max (a.at k).lo (b.at k).lo
    ·have g2 : decide (min (a.at k).hi (b.at k).hi < max (a.at k).lo (b.at k).lo) = true := decide_eq_true h1
     have s2 : (max (a.at k).lo (b.at k).lo - min (a.at k).hi (b.at k).hi) % 4294967296 = max (a.at k).lo (b.at k).lo - min (a.at k).hi (b.at k).hi := by omega
     by_cases h2 : 1 < max (a.at k).lo (b.at k).lo - min (a.at k).hi (b.at k).hi
     ·have g3 : decide (1 < max (a.at k).lo (b.at k).lo - min (a.at k).hi (b.at k).hi) = true := decide_eq_true h2
      have HF := Lib.hid (HNo.out h1 h2)
      clear h1 h2 hX hY
      go_wp2_with fail
      (refine own_quiet hO (by kernel_rfl) (by kernel_rfl) ?_; clear hO; (repeat (go_big_quiet_want; (first | ((with_reducible refine is_loadQ ?_); (refine q_ldQ (h := ?_)); (try simp only [Act.put]); (try simp only [sI9, sZ9, sS9]); go_big_quiet_on) | (go_big_quiet_op; (first | go_big_quiet_on | ((refine ⟨_, fun _ _ => rfl, ?_⟩); go_big_quiet_on)))))); (refine wpQuiet_nil ?_); intro wv hO)
      go_wp2_with fail
      (refine own_quiet hO (by kernel_rfl) (by kernel_rfl) ?_; clear hO; (repeat (go_big_quiet_want; (first | ((with_reducible refine is_loadQ ?_); (refine q_ldQ (h := ?_)); (try simp only [Act.put]); (try simp only [sI9, sZ9, sS9]); go_big_quiet_on) | (go_big_quiet_op; (first | go_big_quiet_on | ((refine ⟨_, fun _ _ => rfl, ?_⟩); go_big_quiet_on)))))); (refine wpQuiet_nil ?_); intro wv hO)
      go_wp2_with fail
      go_ret
      exact ⟨by rw [HF.out]; rfl, hO.keep.below⟩
     ·have g3 : decide (1 < max (a.at k).lo (b.at k).lo - min (a.at k).hi (b.at k).hi) = false := decide_eq_false h2
      have HN := Lib.hid (HUp.out fun h => h2 h.2)
      clear h1 h2 hX hY
      go_wp2_with fail
      (refine own_quiet hO (by kernel_rfl) (by kernel_rfl) ?_; clear hO; (repeat (go_big_quiet_want; (first | ((with_reducible refine is_loadQ ?_); (refine q_ldQ (h := ?_)); (try simp only [Act.put]); (try simp only [sI9, sZ9, sS9]); go_big_quiet_on) | (go_big_quiet_op; (first | go_big_quiet_on | ((refine ⟨_, fun _ _ => rfl, ?_⟩); go_big_quiet_on)))))); (refine wpQuiet_nil ?_); intro wv hO)
      go_wp2_with fail
      (refine own_quiet hO (by kernel_rfl) (by kernel_rfl) ?_; clear hO; (repeat (go_big_quiet_want; (first | ((with_reducible refine is_loadQ ?_); (refine q_ldQ (h := ?_)); (try simp only [Act.put]); (try simp only [sI9, sZ9, sS9]); go_big_quiet_on) | (go_big_quiet_op; (first | go_big_quiet_on | ((refine ⟨_, fun _ _ => rfl, ?_⟩); go_big_quiet_on)))))); (refine wpQuiet_nil ?_); intro wv hO)
      go_wp2_with fail
      go_roundw
      case rel => exact ⟨k + 1, n + 1, by omega, by omega, by go_num, by go_num, HN, hO⟩
      case measure => simp [intOf]; omega
    ·have g2 : decide (min (a.at k).hi (b.at k).hi < max (a.at k).lo (b.at k).lo) = false := decide_eq_false h1
     have HN := Lib.hid (HUp.out fun h => h1 h.1)
     clear h1 hX hY
     go_wp2_with fail
     (refine own_quiet hO (by kernel_rfl) (by kernel_rfl) ?_; clear hO; (repeat (go_big_quiet_want; (first | ((with_reducible refine is_loadQ ?_); (refine q_ldQ (h := ?_)); (try simp only [Act.put]); (try simp only [sI9, sZ9, sS9]); go_big_quiet_on) | (go_big_quiet_op; (first | go_big_quiet_on | ((refine ⟨_, fun _ _ => rfl, ?_⟩); go_big_quiet_on)))))); (refine wpQuiet_nil ?_); intro wv hO)
     go_wp2_with fail
     (refine own_quiet hO (by kernel_rfl) (by kernel_rfl) ?_; clear hO; (repeat (go_big_quiet_want; (first | ((with_reducible refine is_loadQ ?_); (refine q_ldQ (h := ?_)); (try simp only [Act.put]); (try simp only [sI9, sZ9, sS9]); go_big_quiet_on) | (go_big_quiet_op; (first | go_big_quiet_on | ((refine ⟨_, fun _ _ => rfl, ?_⟩); go_big_quiet_on)))))); (refine wpQuiet_nil ?_); intro wv hO)
     go_wp2_with fail
     go_roundw
     case rel => exact ⟨k + 1, n + 1, by omega, by omega, by go_num, by go_num, HN, hO⟩
     case measure => simp [intOf]; omega
  ·obtain rfl : k = 5 := by omega
   have HF := Lib.hid (jnB_yes HP.out)
   clear HP
   go_wp2_with fail
   go_ret
   exact ⟨by rw [HF.out]; rfl, hO.keep.below⟩
set_option maxHeartbeats 1000000 in
theorem omeet_any (a b : Bx) (w : World) (ht : Tops w) : Calls Tryz.prog 102 #[bv a, bv b] w fun e w' => e = .returned (.bool (meetB a b)) ∧ Below w.heap.size w w' := by
 have hO := own_start [] w
 have h1 := intersect_any a b
 unfold meetB
 generalize interB a b = p at *
 go_enter Tryz.func102, Tryz.ntmps102
 go_wp2_with (first | ((with_reducible refine is_load ?_); (refine own_ldQ (h := ?_))) | ((with_reducible refine is_store ?_); (refine own_stRQ (hO := hO) (h := ?_); clear hO; intro wv hO)) | (refine bx9 2 hO ?_; clear hO; intro n2 wv hO) | (refine bx9 3 hO ?_; clear hO; intro n3 wv hO) | ((with_reducible refine is_alloc ?_); refine own_alQ (o := ⟨some 5, _, _, _, _, _⟩) (hO := hO) (h := ?_); clear hO; intro n5 wv hO) | (go_at_call 163; (with_reducible refine (h1 _ (hO.tops ht (by simp))).mono ?_); rintro e wv ⟨rfl, hb9⟩; replace hO := hO.call hb9; clear hb9))
 go_ret
 exact ⟨rfl, hO.keep.below⟩
theorem hullTo_self (a : Bx) : hullTo a a = a := Bx.ext_at fun k hk => by
 rw [hull_at a a hk, Int.min_self, Int.max_self]
theorem hullL_two {a b : Bx} (ha : vld a = true) (hb : vld b = true) : hullL [a, b] = (hullTo a b, true) := by
 unfold hullL
 simp [hullStep, ha, hb, hullTo_self]
set_option maxHeartbeats 1000000 in
theorem ohull_any (a b : Bx) (w : World) (ht : Tops w) (va : vld a = true) (vb : vld b = true) : Calls Tryz.prog 104 #[bv a, bv b] w fun e w' => e = .returned (bv (hullTo a b)) ∧ Below w.heap.size w w' := by
 have hO := own_start [] w
 have h1 := fun v w ht hv => hull_any v [a, b] w ht hv (by simp)
 rw [hullL_two va vb] at h1
 generalize hullTo a b = c at *
 go_enter Tryz.func104, Tryz.ntmps104
 go_wp2_with (first | ((with_reducible refine is_load ?_); (refine own_ldQ (h := ?_))) | ((with_reducible refine is_store ?_); (refine own_stRQ (hO := hO) (h := ?_); clear hO; intro wv hO)) | (refine bx9 2 hO ?_; clear hO; intro n2 wv hO) | (refine bx9 3 hO ?_; clear hO; intro n3 wv hO) | ((with_reducible refine is_alloc ?_); (first | (refine own_alQ (o := ⟨some 4, _, _, _, _, _⟩) (hO := hO) (h := ?_); clear hO; intro n4 wv hO) | (refine own_alQ (o := ⟨some 5, _, _, _, _, _⟩) (hO := hO) (h := ?_); clear hO; intro n5 wv hO))) | ((with_reducible refine is_build ?_); (refine' own_buildN (o := ⟨some 10, _, _, _, _, _⟩) [bv a, bv b] hO (by rfl) rfl slice_Boxes rfl rfl (by rfl) (by decide) (by decide) ?_); clear hO; intro n10 wv hO) | (go_at_call 164; (with_reducible refine (h1 _ _ (hO.tops ht (by simp)) (two_boxesC hO List.mem_cons_self)).mono ?_); rintro e wv ⟨rfl, hb9⟩; replace hO := hO.call hb9; clear hb9))
 exact bodyPost_ret (own_res_cell hO Tryz.results104 rfl (by (repeat (first | exact List.mem_cons_self | refine List.mem_cons_of_mem _ ?_))) (by (exact row_len (by (with_reducible (exact row_Box))) (by rfl))) rfl) rfl ⟨rfl, hO.keep.below⟩
theorem mergB_at {t : List Rul} {i j : Nat} (hi : i < t.length) (hj : j < t.length) (kv : ∀ r ∈ t, vld r.1 = true) : mergB t i j = (t[i].2 == t[j].2 && jnB t[i].1 t[j].1 && ((t.drop (i + 1)).take (j - (i + 1))).all fun r => r.2 == t[j].2 || !meetB r.1 t[j].1) := by
 unfold mergB
 rw [List.getElem?_eq_getElem hi, List.getElem?_eq_getElem hj]
 dsimp only
 rw [show jnB t[i].1 t[j].1 = joinB t[i].1 t[j].1 from jnP_join (kv _ (List.getElem_mem hi)) (kv _ (List.getElem_mem hj)), List.drop_take]
set_option maxHeartbeats 16000000 in
theorem omerges_any {vt : Value} {t : List Rul} {i j : Nat} (w : World) (ht : Tops w) (hv : IsTable w vt t) (kt : okT t) (kv : ∀ r ∈ t, vld r.1 = true) (hl : t.length ≤ 1000000000000) (hij : i < j) (hj : j < t.length) :
  Calls Tryz.prog 101 #[vt, .int .i64 i, .int .i64 j] w fun e w' => e = .returned (.bool (mergB t i j)) ∧ Below w.heap.size w w' := by
 have hO := own_argR hv
 obtain ⟨a, c, rfl, ha⟩ := hv.view
 obtain ⟨g, o, rfl⟩ := ha (by omega)
 clear ha
 have hcap := hv.cap
 have hi : i < t.length := by omega
 have s1 : IntKind.i64.wrap ((i : Int) + 1) = (i : Int) + 1 := IntWalk.i64_in _ (by omega)
 rw [mergB_at hi hj kv]
 replace hO := hO.addTable (hv.part (i + 1) (j - (i + 1)) (c - (i + 1)) (by omega) (by omega))
 have hL : ((t.drop (i + 1)).take (j - (i + 1))).length = j - (i + 1) := by simp; omega
 have t1 := tk_match t hi
 have t2 := tk_match t hj
 have t3 := cr_permit t hi
 have t4 := cr_permit t hj
 have h1 := ojoins_any t[i].1 t[j].1
 have k1 := kt _ (List.getElem_mem hi)
 have k2 := kt _ (List.getElem_mem hj)
 generalize hLL : (t.drop (i + 1)).take (j - (i + 1)) = L at *
 generalize t[i] = p at *
 generalize t[j] = q at *
 clear hv hLL kv
 simp only [roS, List.cons_append, List.nil_append] at hO
 obtain ⟨b0, p0⟩ := p
 obtain ⟨b1, p1⟩ := q
 dsimp only at t1 t2 t3 t4 h1 k1 k2 ⊢
 by_cases hp : p0 = p1
 ·subst hp
  rw [show (p0 == p0) = true by cases p0 <;> rfl, Bool.true_and]
  obtain ⟨F, hF⟩ : ∃ F : Rul → Bool, F = fun r => r.2 == p0 || !meetB r.1 b1 := ⟨_, rfl⟩
  rw [← hF]
  have HF := Lib.hid (fun r : Rul => congrFun hF r)
  clear hF
  replace h1 := fun w => h1 w k1 k2
  generalize jnB b0 b1 = m at *
  cases p0
  all_goals
   cases m
   ·rw [Bool.false_and]
    go_enter Tryz.func101, Tryz.ntmps101
    go_wp2_with fail
    (refine own_quiet hO (by kernel_rfl) (by kernel_rfl) ?_; clear hO; (repeat (go_big_quiet_want; (first | ((with_reducible refine is_loadQ ?_); (refine q_ldQ (h := ?_)); (try simp only [Act.put]); (try simp only [sI9, sZ9, sS9]); go_big_quiet_on) | (go_big_quiet_op; (first | go_big_quiet_on | ((refine ⟨_, fun _ _ => rfl, ?_⟩); go_big_quiet_on) | go_big_quiet_call ((intro hq; go_at_call 162; exact q_call (h1 _) hq))))))); (refine wpQuiet_nil ?_); intro wv hO)
    go_wp2_with fail
    go_ret
    exact ⟨rfl, hO.keep.below⟩
   ·rw [Bool.true_and]
    go_enter Tryz.func101, Tryz.ntmps101
    go_wp2_with fail
    (refine own_quiet hO (by kernel_rfl) (by kernel_rfl) ?_; clear hO; (repeat (go_big_quiet_want; (first | ((with_reducible refine is_loadQ ?_); (refine q_ldQ (h := ?_)); (try simp only [Act.put]); (try simp only [sI9, sZ9, sS9]); go_big_quiet_on) | (go_big_quiet_op; (first | go_big_quiet_on | ((refine ⟨_, fun _ _ => rfl, ?_⟩); go_big_quiet_on) | go_big_quiet_call ((intro hq; go_at_call 162; exact q_call (h1 _) hq))))))); (refine wpQuiet_nil ?_); intro wv hO)
    go_wp2_with fail
    rw [← hL]
    go_loopw [40] (fun q wr => ∃ k : Nat, k ≤ L.length ∧ q = .int .i64 k ∧ Hid ((L.take k).all F = true) ∧ Own [] w [] [] [⟨g, o + (i + 1) * 11, cellsR L⟩, ⟨g, o, cellsR t⟩] wr) (fun q _ => L.length - (intOf q).toNat)
    case atStart => exact ⟨0, by omega, rfl, Lib.hid rfl, hO⟩
    case round =>
     clear hO
     obtain ⟨k, hk, rfl, HA, hO⟩ := hrel
     by_cases hlt : k < L.length
     ·have t5 := tk_rule L hlt
      have HT := Lib.hid (all_take (p := F) hlt HA.out)
      have HN := Lib.hid (all_not (p := F) hlt)
      have HR := Lib.hid (HF.out L[k])
      have h2 := omeet_any L[k].1 b1
      generalize L[k] = r at *
      obtain ⟨b2, p2⟩ := r
      dsimp only at h2 HR
      have t6 : (rlcs (b2, p2))[10]? = some (.bool p2) := rfl
      generalize meetB b2 b1 = x at *
      cases x
      all_goals
       cases p2
       all_goals
        go_wp2_with (first | ((with_reducible refine is_load ?_); (refine own_ldQ (h := ?_))) | ((with_reducible refine is_store ?_); (refine own_stRQ (hO := hO) (h := ?_); clear hO; intro wv hO)) | ((with_reducible refine is_alloc ?_); refine own_alQ (o := ⟨some 8, _, _, _, _, _⟩) (hO := hO) (h := ?_); clear hO; intro n8 wv hO))
        (try simp only [Act.put]); (try simp only [sI9, sZ9, sS9])
        (refine own_quiet hO (by kernel_rfl) (by kernel_rfl) ?_; clear hO; (repeat (first | go_big_quiet_skip | (go_big_quiet_want; (first | ((with_reducible refine is_loadQ ?_); (refine q_ldQ (h := ?_)); (try simp only [Act.put]); (try simp only [sI9, sZ9, sS9]); go_big_quiet_on) | (go_big_quiet_op; (first | go_big_quiet_on | ((refine ⟨_, fun _ _ => rfl, ?_⟩); go_big_quiet_on) | go_big_quiet_call ((intro hq; go_at_call 102; exact q_call (h2 _ (hq.tops ht (by simp))) hq)))))))); (refine wpQuiet_nil ?_); intro wv hO)
        go_wp2_with fail
        first
         | (go_ret; exact ⟨by rw [HN.out (HR.out.trans rfl)]; rfl, hO.keep.below⟩)
         | (go_roundw; (case rel => exact ⟨k + 1, by omega, by go_num, Lib.hid (HT.out (HR.out.trans rfl)), hO.sub (.cons _ (.refl _)) (.refl _) (fun _ h => h)⟩); (case measure => simp [intOf]; omega))
     ·obtain rfl : k = L.length := by omega
      rw [List.take_length] at HA
      go_wp2_with fail
      go_ret
      exact ⟨by rw [HA.out]; rfl, hO.keep.below⟩
 ·have g4 : (p0 != p1) = true := by simpa using hp
  have g5 : (p0 == p1) = false := beq_eq_false_iff_ne.2 hp
  rw [g5, Bool.false_and, Bool.false_and]
  clear hp
  go_enter Tryz.func101, Tryz.ntmps101
  go_wp2_with fail
  (refine own_quiet hO (by kernel_rfl) (by kernel_rfl) ?_; clear hO; (repeat (first | go_big_quiet_skip | (go_big_quiet_want; (first | ((with_reducible refine is_loadQ ?_); (refine q_ldQ (h := ?_)); (try simp only [Act.put]); (try simp only [sI9, sZ9, sS9]); go_big_quiet_on) | (go_big_quiet_op; (first | go_big_quiet_on | ((refine ⟨_, fun _ _ => rfl, ?_⟩); go_big_quiet_on))))))); (refine wpQuiet_nil ?_); intro wv hO)
  go_wp2_with fail
  go_ret
  exact ⟨rfl, hO.keep.below⟩
def swpB (p q : Rul) : Bool := p.2 == q.2 || !meetB p.1 q.1
theorem soundE_1 (t : List Rul) (i : Nat) (j : Int) : soundE t (1, (i : Int), j) = if stE (stF t i) = 0 then (if stB (stF t i) = true then 0 else 18) else stE (stF t i) := by
 unfold soundE
 dsimp only
 rw [if_pos rfl, Int.toNat_natCast]
 cases stF t i with
 | none => rfl
 | some x => rfl
theorem soundE_2 (t : List Rul) (i j : Nat) : soundE t (2, (i : Int), (j : Int)) = if mergB t i j = true then 0 else 18 := rfl
theorem soundE_3 {t : List Rul} {i : Nat} (j : Int) (hi : i + 1 < t.length) : soundE t (3, (i : Int), j) = if swpB t[i] t[i + 1] = true then 0 else 18 := by
 unfold soundE
 dsimp only
 rw [if_neg (by decide), if_neg (by decide), Int.toNat_natCast, List.getElem?_eq_getElem (show i < t.length by omega), List.getElem?_eq_getElem hi]
 rfl
set_option maxHeartbeats 4000000 in
theorem osound1_any {vt : Value} {t : List Rul} {i : Nat} (j : Int) (w : World) (ht : Tops w) (hv : IsTable w vt t) (kt : okT t) (hV : validT t = true) (hl : t.length ≤ 1000000000000) (hi : i < t.length) :
  Calls Tryz.prog 44 #[vt, .agg #[.int .i64 1, .int .i64 i, .int .i64 j]] w fun e w' => e = .returned (.int .i64 (soundE t (1, (i : Int), j))) ∧ Below w.heap.size w w' := by
 have hO := own_start [] w
 have h1 : ∀ w, Tops w → IsTable w vt t → Calls Tryz.prog 27 #[vt, .int .i64 i] w fun e w' => e = .returned (.tuple #[.bool (stB (stF t i)), .int .i64 (stE (stF t i))]) ∧ Below w.heap.size w w' := fun w ht hv => by
  have h := sRemovable_any (i := (i : Int)) w ht hv kt hl
  unfold rmP at h
  rw [if_pos hV, if_neg (by omega), Int.toNat_natCast] at h
  exact h
 obtain ⟨a, c, rfl, -⟩ := hv.view
 rw [soundE_1]
 generalize stE (stF t i) = E at *
 generalize stB (stF t i) = b at *
 by_cases h0 : E = 0
 ·subst h0
  rw [if_pos rfl]
  cases b
  all_goals
   go_enter Tryz.func44, Tryz.ntmps44
   go_wp2_with (first | ((with_reducible refine is_load ?_); (refine own_ldQ (h := ?_))) | (refine bx9 3 hO ?_; clear hO; intro n3 wv hO) | (go_at_call 27; (with_reducible refine (h1 _ (hO.tops ht (by simp)) (hv.keep0 hO)).mono ?_); rintro e wv ⟨rfl, hb9⟩; replace hO := hO.call hb9; clear hb9))
   go_ret
   exact ⟨rfl, hO.keep.below⟩
 ·rw [if_neg h0]
  have g0 : (E != 0) = true := by simpa using h0
  go_enter Tryz.func44, Tryz.ntmps44
  go_wp2_with (first | ((with_reducible refine is_load ?_); (refine own_ldQ (h := ?_))) | (refine bx9 3 hO ?_; clear hO; intro n3 wv hO) | (go_at_call 27; (with_reducible refine (h1 _ (hO.tops ht (by simp)) (hv.keep0 hO)).mono ?_); rintro e wv ⟨rfl, hb9⟩; replace hO := hO.call hb9; clear hb9))
  go_ret
  exact ⟨rfl, hO.keep.below⟩
set_option maxHeartbeats 4000000 in
theorem osound2_any {vt : Value} {t : List Rul} {i j : Nat} (w : World) (ht : Tops w) (hv : IsTable w vt t) (kt : okT t) (hV : validT t = true) (hl : t.length ≤ 1000000000000) (hij : i < j) (hj : j < t.length) :
  Calls Tryz.prog 44 #[vt, .agg #[.int .i64 2, .int .i64 i, .int .i64 j]] w fun e w' => e = .returned (.int .i64 (soundE t (2, (i : Int), (j : Int)))) ∧ Below w.heap.size w w' := by
 have hO := own_start [] w
 have h1 := fun w ht hv => omerges_any (vt := vt) (t := t) (i := i) (j := j) w ht hv kt (validT_all hV).1 hl hij hj
 obtain ⟨a, c, rfl, -⟩ := hv.view
 rw [soundE_2]
 generalize mergB t i j = b at *
 cases b
 all_goals
  go_enter Tryz.func44, Tryz.ntmps44
  go_wp2_with (first | ((with_reducible refine is_load ?_); (refine own_ldQ (h := ?_))) | (refine bx9 3 hO ?_; clear hO; intro n3 wv hO) | (go_at_call 101; (with_reducible refine (h1 _ (hO.tops ht (by simp)) (hv.keep0 hO)).mono ?_); rintro e wv ⟨rfl, hb9⟩; replace hO := hO.call hb9; clear hb9))
  go_ret
  exact ⟨rfl, hO.keep.below⟩
set_option maxHeartbeats 8000000 in
theorem osound3_any {vt : Value} {t : List Rul} {i : Nat} (j : Int) (w : World) (ht : Tops w) (hv : IsTable w vt t) (hl : t.length ≤ 1000000000000) (hi : i + 1 < t.length) :
  Calls Tryz.prog 44 #[vt, .agg #[.int .i64 3, .int .i64 i, .int .i64 j]] w fun e w' => e = .returned (.int .i64 (soundE t (3, (i : Int), j))) ∧ Below w.heap.size w w' := by
 have hO := own_argR hv
 obtain ⟨a, c, rfl, ha⟩ := hv.view
 obtain ⟨g, o, rfl⟩ := ha (by omega)
 clear ha hv
 have h0 : i < t.length := by omega
 obtain ⟨m, hm⟩ : ∃ m, m = i + 1 := ⟨_, rfl⟩
 have s1 : IntKind.i64.wrap ((i : Int) + 1) = (m : Int) := (IntWalk.i64_in _ (by omega)).trans (by omega)
 rw [soundE_3 j hi]
 subst hm
 simp only [roS] at hO
 have t1 := tk_match t h0
 have t2 := tk_match t hi
 have t3 := cr_permit t h0
 have t4 := cr_permit t hi
 unfold swpB
 have h2 := omeet_any t[i].1 t[i + 1].1
 generalize t[i] = p at *
 generalize t[i + 1] = q at *
 generalize hM : i + 1 = m at *
 obtain ⟨b0, p0⟩ := p
 obtain ⟨b1, p1⟩ := q
 dsimp only at t1 t2 t3 t4 h2 ⊢
 generalize meetB b0 b1 = x at *
 clear hM
 cases p0
 all_goals
  cases p1
  all_goals
   cases x
   all_goals
    go_enter Tryz.func44, Tryz.ntmps44
    go_wp2_with (first | ((with_reducible refine is_load ?_); (refine own_ldQ (h := ?_))) | (refine bx9 3 hO ?_; clear hO; intro n3 wv hO))
    (refine own_quiet hO (by kernel_rfl) (by kernel_rfl) ?_; clear hO; (repeat (first | go_big_quiet_skip | (go_big_quiet_want; (first | ((with_reducible refine is_loadQ ?_); (refine q_ldQ (h := ?_)); (try simp only [Act.put]); (try simp only [sI9, sZ9, sS9]); go_big_quiet_on) | (go_big_quiet_op; (first | go_big_quiet_on | ((refine ⟨_, fun _ _ => rfl, ?_⟩); go_big_quiet_on) | go_big_quiet_call ((intro hq; go_at_call 102; exact q_call (h2 _ (hq.tops ht (by simp))) hq)))))))); (refine wpQuiet_nil ?_); intro wv hO)
    go_wp2_with fail
    go_ret
    exact ⟨rfl, hO.keep.below⟩
set_option maxHeartbeats 4000000 in
theorem operf1_any {vt : Value} {t : List Rul} {i : Nat} (j : Int) (w : World) (hv : IsTable w vt t) (hl : t.length ≤ 1000000000000) (hi : i < t.length) :
  Calls Tryz.prog 45 #[vt, .agg #[.int .i64 1, .int .i64 i, .int .i64 j]] w (RetTable w (woF t i)) := by
 have hO := own_start [] w
 have h1 := fun w hv => cloneT_any (vl := vt) (l := t) w hv hl
 have h2 := fun g c w hr => tdelete_any (g := g) (c := c) (i := i) (l := t) w hr hi hl
 have s1 : IntKind.i64.wrap ((i : Int) + 1) = (i : Int) + 1 := IntWalk.i64_in _ (by omega)
 obtain ⟨a, c, rfl, -⟩ := hv.view
 go_enter Tryz.func45, Tryz.ntmps45
 go_wp2_with (first | ((with_reducible refine is_load ?_); (refine own_ldQ (h := ?_))) | (refine bx9 3 hO ?_; clear hO; intro n3 wv hO) | (go_at_call 52; (with_reducible refine (h1 _ (hv.keep0 hO)).mono ?_); rintro e wv ⟨v, rfl, hrow, hb9⟩; replace hO := hO.gainRow hb9 hrow; have hvw := rowview11 hrow; clear hb9 hrow h1; obtain ⟨a9, c9, rfl, hg9⟩ := hvw; (have hg8 := hg9 (by omega)); obtain ⟨g9, rfl⟩ := hg8; clear hg9) | (go_at_call 103; (with_reducible refine (h2 _ _ _ (hO.row _ List.mem_cons_self)).mono ?_); rintro e wv ⟨rfl, hk9, hr9⟩; replace hO := hO.afterRow2 .here hk9 hr9 rfl; clear hk9 hr9 h2))
 go_ret
 exact ⟨_, rfl, ⟨own_table hO List.mem_cons_self, own_new hO List.mem_cons_self⟩, hO.keep.below⟩
theorem mergT_at {t : List Rul} {i j : Nat} (hi : i < t.length) (hj : j < t.length) : mergT t i j = woF (t.set i (hullTo t[i].1 t[j].1, t[i].2)) j := by
 unfold mergT
 rw [List.getElem?_eq_getElem hi, List.getElem?_eq_getElem hj]
theorem swapT_at {t : List Rul} {i : Nat} (hi : i + 1 < t.length) : swapT t i = (t.set i t[i + 1]).set (i + 1) (t[i]'(by omega)) := by
 unfold swapT
 rw [List.getElem?_eq_getElem (show i < t.length by omega), List.getElem?_eq_getElem hi]
set_option maxHeartbeats 8000000 in
theorem operf2_any {vt : Value} {t : List Rul} {i j : Nat} (w : World) (ht : Tops w) (hv : IsTable w vt t) (kv : ∀ r ∈ t, vld r.1 = true) (hl : t.length ≤ 1000000000000) (hij : i < j) (hj : j < t.length) :
  Calls Tryz.prog 45 #[vt, .agg #[.int .i64 2, .int .i64 i, .int .i64 j]] w (RetTable w (mergT t i j)) := by
 have hO := own_argR hv
 have h1 := fun w hv => cloneT_any (vl := vt) (l := t) w hv hl
 have s1 : IntKind.i64.wrap ((j : Int) + 1) = (j : Int) + 1 := IntWalk.i64_in _ (by omega)
 have hi : i < t.length := by omega
 obtain ⟨a, c, rfl, ha⟩ := hv.view
 obtain ⟨g, o, rfl⟩ := ha (by omega)
 clear ha
 rw [mergT_at hi hj]
 have h3 := fun w ht => ohull_any t[i].1 t[j].1 w ht (kv _ (List.getElem_mem hi)) (kv _ (List.getElem_mem hj))
 have hn := cellsR_setM hi (hullTo t[i].1 t[j].1)
 have t1 := tk_match t hi
 have t2 := tk_match t hj
 have z1 : i * 11 + 10 ≤ (cellsR t).length := by rw [cellsR_length]; omega
 have hlen : (t.set i (hullTo t[i].1 t[j].1, t[i].2)).length = t.length := by simp
 generalize t.set i (hullTo t[i].1 t[j].1, t[i].2) = u at *
 have h2 := fun g c w hr => tdelete_any (g := g) (c := c) (i := j) (l := u) w hr (by omega) (by omega)
 rw [hlen] at h2
 generalize hullTo t[i].1 t[j].1 = b at *
 generalize t[i] = p at *
 generalize t[j] = q at *
 simp only [roS] at hO
 have HL := Lib.hid hlen
 clear kv hlen
 obtain ⟨b0, p0⟩ := p
 obtain ⟨b1, p1⟩ := q
 dsimp only at t1 t2 h3
 go_enter Tryz.func45, Tryz.ntmps45
 go_wp2_with (first | ((with_reducible refine is_load ?_); (refine own_ldQ (h := ?_))) | (refine bx9 3 hO ?_; clear hO; intro n3 wv hO) | (go_at_call 52; (with_reducible refine (h1 _ (hv.keep0 hO)).mono ?_); rintro e wv ⟨v, rfl, hrow, hb9⟩; replace hO := hO.gainRow hb9 hrow; have hvw := rowview11 hrow; clear hb9 hrow h1; obtain ⟨a9, c9, rfl, hg9⟩ := hvw; (have hg8 := hg9 (by omega)); obtain ⟨g9, rfl⟩ := hg8; clear hg9))
 refine wp_region_held (S := (Own [] w [⟨n3, [.int .i64 2, .int .i64 i, .int .i64 j], 26⟩] [] [⟨g, o, cellsR t⟩])) (by kernel_rfl) ?_
 replace hO := hO.drew
 have hC : (Own [] w [⟨n3, [.int .i64 2, .int .i64 i, .int .i64 j], 26⟩] [] [⟨g, o, cellsR t⟩]) _ := hO.cls
 refine wpAnyH_tk 0 hC ?_
 (go_big_quiet_want; (go_big_quiet_op; (go_big_quiet_on))); (refine wpQuiet_nil ?_)
 refine wpAnyH_tk 1 hC ?_
 (go_big_quiet_want; (go_big_quiet_op; ((refine ⟨_, fun _ _ => rfl, ?_⟩); go_big_quiet_on))); (refine wpQuiet_nil ?_)
 refine wpAnyH_tk 2 hC ?_
 (go_big_quiet_want; ((with_reducible refine is_loadQ ?_); (refine q_ldQ (h := ?_)); (try simp only [Act.put]); (try simp only [sI9, sZ9, sS9]); go_big_quiet_on)); (refine wpQuiet_nil ?_)
 refine wpAnyH_tk 3 hC ?_
 (go_big_quiet_want; (go_big_quiet_op; (go_big_quiet_on))); (refine wpQuiet_nil ?_)
 refine wpAnyH_tk 4 hC ?_
 (go_big_quiet_want; (go_big_quiet_op; ((refine ⟨_, fun _ _ => rfl, ?_⟩); go_big_quiet_on))); (refine wpQuiet_nil ?_)
 refine wpAnyH_tk 5 hC ?_
 (go_big_quiet_want; ((with_reducible refine is_loadQ ?_); (refine q_ldQ (h := ?_)); (try simp only [Act.put]); (try simp only [sI9, sZ9, sS9]); go_big_quiet_on)); (refine wpQuiet_nil ?_)
 refine wpAnyH_tk 6 hC ?_
 (go_big_quiet_want; (go_big_quiet_op; ((refine ⟨_, fun _ _ => rfl, ?_⟩); go_big_quiet_on))); (refine wpQuiet_nil ?_)
 refine wpAnyH_tk 7 hC ?_
 (go_big_quiet_want; (go_big_quiet_op; ((refine ⟨_, fun _ _ => rfl, ?_⟩); go_big_quiet_on))); (refine wpQuiet_nil ?_)
 refine wpAnyH_tk 8 hC ?_
 (go_big_quiet_want; ((with_reducible refine is_loadQ ?_); (refine q_ldQ (h := ?_)); (try simp only [Act.put]); (try simp only [sI9, sZ9, sS9]); go_big_quiet_on)); (refine wpQuiet_nil ?_)
 refine wpAnyH_tk 9 hC ?_
 (go_big_quiet_want; (go_big_quiet_op; (go_big_quiet_on))); (refine wpQuiet_nil ?_)
 refine wpAnyH_tk 10 hC ?_
 (go_big_quiet_want; (go_big_quiet_op; ((refine ⟨_, fun _ _ => rfl, ?_⟩); go_big_quiet_on))); (refine wpQuiet_nil ?_)
 refine wpAnyH_tk 11 hC ?_
 (go_big_quiet_want; ((with_reducible refine is_loadQ ?_); (refine q_ldQ (h := ?_)); (try simp only [Act.put]); (try simp only [sI9, sZ9, sS9]); go_big_quiet_on)); (refine wpQuiet_nil ?_)
 refine wpAnyH_tk 12 hC ?_
 (go_big_quiet_want; (go_big_quiet_op; ((refine ⟨_, fun _ _ => rfl, ?_⟩); go_big_quiet_on))); (refine wpQuiet_nil ?_)
 refine wpAnyH_tk 13 hC ?_
 (go_big_quiet_want; (go_big_quiet_op; ((refine ⟨_, fun _ _ => rfl, ?_⟩); go_big_quiet_on))); (refine wpQuiet_nil ?_)
 refine wpAnyH_tk 14 hC ?_
 (go_big_quiet_want; ((with_reducible refine is_loadQ ?_); (refine q_ldQ (h := ?_)); (try simp only [Act.put]); (try simp only [sI9, sZ9, sS9]); go_big_quiet_on)); (refine wpQuiet_nil ?_)
 refine wpAnyH_1 15 ?_
 rotate_left 1
 all_goals
  refine wpOp_of_listL rfl ?_
  ((refine wpList_step (fun K hK => ?_)); go_simp; ((go_at_call 104; (with_reducible refine (h3 _ (hO.tops ht (by simp))).mono ?_); rintro e wv ⟨rfl, hb9⟩; replace hO := hO.call hb9; clear hb9); (try simp only []); (refine hK _ _ ?_); clear hK K))
  refine wpList_done (qk_intro ?_)
  replace hC : (Own [] w [⟨n3, [.int .i64 2, .int .i64 i, .int .i64 j], 26⟩] [] [⟨g, o, cellsR t⟩]) _ := hO.cls
  refine ⟨hC, ?_⟩
 refine wpAnyH_tk 16 hC ?_
 (go_big_quiet_want; (go_big_quiet_op; ((refine ⟨_, fun _ _ => rfl, ?_⟩); go_big_quiet_on))); (refine wpQuiet_nil ?_)
 refine wpAnyH_tk 17 hC ?_
 (go_big_quiet_want; (go_big_quiet_op; ((refine ⟨_, fun _ _ => rfl, ?_⟩); go_big_quiet_on))); (refine wpQuiet_nil ?_)
 refine wpAnyH_1 18 ?_
 rotate_left 1
 all_goals
  refine wpOp_of_listL rfl ?_
  ((with_reducible refine is_store ?_); (refine own_stRw hO (h := ?_); clear hO; intro wv hO)); (try simp only [Act.put])
  refine wpList_done (qk_intro ?_)
  replace hC : (Own [] w [⟨n3, [.int .i64 2, .int .i64 i, .int .i64 j], 26⟩] [] [⟨g, o, cellsR t⟩]) _ := hO.cls
  refine ⟨hC, ?_⟩
 refine wpAnyH_done (by kernel_rfl) ?_ _
 rotate_left
 all_goals clear hC
 all_goals
  go_wp2_with (first | ((with_reducible refine is_load ?_); (refine own_ldQ (h := ?_))) | (go_at_call 103; (with_reducible refine (h2 _ _ _ (hO.row _ List.mem_cons_self)).mono ?_); rintro e wv ⟨rfl, hk9, hr9⟩; replace hO := hO.afterRow2 .here hk9 hr9 rfl; clear hk9 hr9 h2))
  go_ret
  exact ⟨_, rfl, ⟨own_table hO List.mem_cons_self, own_new hO List.mem_cons_self⟩, hO.keep.below⟩
set_option maxHeartbeats 8000000 in
theorem operf3_any {vt : Value} {t : List Rul} {i : Nat} (j : Int) (w : World) (hv : IsTable w vt t) (hl : t.length ≤ 1000000000000) (hi : i + 1 < t.length) :
  Calls Tryz.prog 45 #[vt, .agg #[.int .i64 3, .int .i64 i, .int .i64 j]] w (RetTable w (swapT t i)) := by
 have hO := own_start [] w
 have h1 := fun w hv => cloneT_any (vl := vt) (l := t) w hv hl
 have h0 : i < t.length := by omega
 obtain ⟨a, c, rfl, -⟩ := hv.view
 rw [swapT_at hi]
 have t1 := tk_rule t h0
 have t2 := tk_rule t hi
 have n1 := cellsR_setR h0 t[i + 1]
 have hl1 : i + 1 < (t.set i t[i + 1]).length := by rw [List.length_set]; omega
 have n2 := cellsR_setR hl1 t[i]
 have z1 : i * 11 + 11 ≤ (cellsR t).length := by rw [cellsR_length]; omega
 have z2 : (i + 1) * 11 + 11 ≤ (cellsR (t.set i t[i + 1])).length := by rw [cellsR_length, List.length_set]; omega
 obtain ⟨m, hm⟩ : ∃ m, m = i + 1 := ⟨_, rfl⟩
 have s1 : IntKind.i64.wrap ((i : Int) + 1) = (m : Int) := (IntWalk.i64_in _ (by omega)).trans (by omega)
 subst hm
 clear hl1
 generalize t[i] = rk at *
 generalize t[i + 1] = rm at *
 generalize (t.set i rm).set (i + 1) rk = y at *
 generalize t.set i rm = x1 at *
 generalize hM : i + 1 = m at *
 have HM := Lib.hid hM
 clear hM
 go_enter Tryz.func45, Tryz.ntmps45
 go_wp2_with (first | ((with_reducible refine is_load ?_); (refine own_ldQ (h := ?_))) | (refine bx9 3 hO ?_; clear hO; intro n3 wv hO) | (go_at_call 52; (with_reducible refine (h1 _ (hv.keep0 hO)).mono ?_); rintro e wv ⟨v, rfl, hrow, hb9⟩; replace hO := hO.gainRow hb9 hrow; have hvw := rowview11 hrow; clear hb9 hrow h1; obtain ⟨a9, c9, rfl, hg9⟩ := hvw; (have hg8 := hg9 (by omega)); obtain ⟨g9, rfl⟩ := hg8; clear hg9))
 refine wp_region_held (S := (Own [] w [⟨n3, [.int .i64 3, .int .i64 i, .int .i64 j], 26⟩] [] [])) (by kernel_rfl) ?_
 replace hO := hO.drew
 have hC : (Own [] w [⟨n3, [.int .i64 3, .int .i64 i, .int .i64 j], 26⟩] [] []) _ := hO.cls
 refine wpAnyH_tk 0 hC ?_
 (go_big_quiet_want; (go_big_quiet_op; (go_big_quiet_on))); (refine wpQuiet_nil ?_)
 refine wpAnyH_tk 1 hC ?_
 (go_big_quiet_want; (go_big_quiet_op; ((refine ⟨_, fun _ _ => rfl, ?_⟩); go_big_quiet_on))); (refine wpQuiet_nil ?_)
 refine wpAnyH_tk 2 hC ?_
 (go_big_quiet_want; ((with_reducible refine is_loadQ ?_); (refine q_ldQ (h := ?_)); (try simp only [Act.put]); (try simp only [sI9, sZ9, sS9]); go_big_quiet_on)); (refine wpQuiet_nil ?_)
 refine wpAnyH_tk 3 hC ?_
 (go_big_quiet_want; (go_big_quiet_op; (go_big_quiet_on))); (refine wpQuiet_nil ?_)
 refine wpAnyH_tk 4 hC ?_
 (go_big_quiet_want; (go_big_quiet_op; ((refine ⟨_, fun _ _ => rfl, ?_⟩); go_big_quiet_on))); (refine wpQuiet_nil ?_)
 refine wpAnyH_tk 5 hC ?_
 (go_big_quiet_want; ((with_reducible refine is_loadQ ?_); (refine q_ldQ (h := ?_)); (try simp only [Act.put]); (try simp only [sI9, sZ9, sS9]); go_big_quiet_on)); (refine wpQuiet_nil ?_)
 refine wpAnyH_tk 6 hC ?_
 (go_big_quiet_want; (go_big_quiet_op; ((refine ⟨_, fun _ _ => rfl, ?_⟩); go_big_quiet_on))); (refine wpQuiet_nil ?_)
 refine wpAnyH_tk 7 hC ?_
 (go_big_quiet_want; (go_big_quiet_op; (go_big_quiet_on))); (refine wpQuiet_nil ?_)
 refine wpAnyH_tk 8 hC ?_
 (go_big_quiet_want; (go_big_quiet_op; ((refine ⟨_, fun _ _ => rfl, ?_⟩); go_big_quiet_on))); (refine wpQuiet_nil ?_)
 refine wpAnyH_tk 9 hC ?_
 (go_big_quiet_want; ((with_reducible refine is_loadQ ?_); (refine q_ldQ (h := ?_)); (try simp only [Act.put]); (try simp only [sI9, sZ9, sS9]); go_big_quiet_on)); (refine wpQuiet_nil ?_)
 refine wpAnyH_tk 10 hC ?_
 (go_big_quiet_want; (go_big_quiet_op; ((refine ⟨_, fun _ _ => rfl, ?_⟩); go_big_quiet_on))); (refine wpQuiet_nil ?_)
 refine wpAnyH_tk 11 hC ?_
 (go_big_quiet_want; (go_big_quiet_op; ((refine ⟨_, fun _ _ => rfl, ?_⟩); go_big_quiet_on))); (refine wpQuiet_nil ?_)
 refine wpAnyH_tk 13 hC ?_
 (go_big_quiet_want; (go_big_quiet_op; (go_big_quiet_on))); (refine wpQuiet_nil ?_)
 refine wpAnyH_tk 14 hC ?_
 (go_big_quiet_want; (go_big_quiet_op; ((refine ⟨_, fun _ _ => rfl, ?_⟩); go_big_quiet_on))); (refine wpQuiet_nil ?_)
 refine wpAnyH_tk 15 hC ?_
 (go_big_quiet_want; ((with_reducible refine is_loadQ ?_); (refine q_ldQ (h := ?_)); (try simp only [Act.put]); (try simp only [sI9, sZ9, sS9]); go_big_quiet_on)); (refine wpQuiet_nil ?_)
 refine wpAnyH_tk 16 hC ?_
 (go_big_quiet_want; (go_big_quiet_op; ((refine ⟨_, fun _ _ => rfl, ?_⟩); go_big_quiet_on))); (refine wpQuiet_nil ?_)
 refine wpAnyH_all (rs := [12, 17]) (by kernel_rfl) (by simp) (ord_cons ?_ (ord_cons ?_ ord_nil))
 rotate_left 2
 all_goals
  refine wpOp_of_listL rfl ?_
  ((with_reducible refine is_load ?_); (refine own_ldQ (h := ?_))); (try simp only [Act.put]); (try simp only [sI9, sZ9, sS9])
  refine wpList_done (qk_intro ?_)
  replace hC : (Own [] w [⟨n3, [.int .i64 3, .int .i64 i, .int .i64 j], 26⟩] [] []) _ := hO.cls
  refine ⟨hC, ?_⟩
 refine wpAnyH_1 17 ?_
 rotate_left 1
 refine wpAnyH_1 12 ?_
 rotate_left 1
 all_goals
  refine wpOp_of_listL rfl ?_
  ((with_reducible refine is_load ?_); (refine own_ldQ (h := ?_))); (try simp only [Act.put]); (try simp only [sI9, sZ9, sS9])
  refine wpList_done (qk_intro ?_)
  replace hC : (Own [] w [⟨n3, [.int .i64 3, .int .i64 i, .int .i64 j], 26⟩] [] []) _ := hO.cls
  refine ⟨hC, ?_⟩
 refine wpAnyH_tk 18 hC ?_
 (go_big_quiet_want; (go_big_quiet_op; ((refine ⟨_, fun _ _ => rfl, ?_⟩); go_big_quiet_on))); (refine wpQuiet_nil ?_)
 refine wpAnyH_1 19 ?_
 rotate_left 1
 refine wpAnyH_tk 18 hC ?_
 (go_big_quiet_want; (go_big_quiet_op; ((refine ⟨_, fun _ _ => rfl, ?_⟩); go_big_quiet_on))); (refine wpQuiet_nil ?_)
 refine wpAnyH_1 19 ?_
 rotate_left 1
 all_goals
  refine wpOp_of_listL rfl ?_
  ((with_reducible refine is_store ?_); (refine own_stRw hO (ht := row_Rule) (h := ?_); clear hO; intro wv hO)); (try simp only [Act.put])
  refine wpList_done (qk_intro ?_)
  replace hC : (Own [] w [⟨n3, [.int .i64 3, .int .i64 i, .int .i64 j], 26⟩] [] []) _ := hO.cls
  refine ⟨hC, ?_⟩
 refine wpAnyH_tk 20 hC ?_
 (go_big_quiet_want; (go_big_quiet_op; ((refine ⟨_, fun _ _ => rfl, ?_⟩); go_big_quiet_on))); (refine wpQuiet_nil ?_)
 refine wpAnyH_1 21 ?_
 rotate_left 1
 refine wpAnyH_tk 20 hC ?_
 (go_big_quiet_want; (go_big_quiet_op; ((refine ⟨_, fun _ _ => rfl, ?_⟩); go_big_quiet_on))); (refine wpQuiet_nil ?_)
 refine wpAnyH_1 21 ?_
 rotate_left 1
 all_goals
  refine wpOp_of_listL rfl ?_
  ((with_reducible refine is_store ?_); (refine own_stRw hO (ht := row_Rule) (h := ?_); clear hO; intro wv hO)); (try simp only [Act.put])
  refine wpList_done (qk_intro ?_)
  replace hC : (Own [] w [⟨n3, [.int .i64 3, .int .i64 i, .int .i64 j], 26⟩] [] []) _ := hO.cls
  refine ⟨hC, ?_⟩
 refine wpAnyH_done (by kernel_rfl) ?_ _
 rotate_left
 refine wpAnyH_done (by kernel_rfl) ?_ _
 rotate_left
 all_goals clear hC
 all_goals
  go_wp2_with fail
  go_ret
  exact ⟨_, rfl, ⟨own_table hO List.mem_cons_self, own_new hO List.mem_cons_self⟩, hO.keep.below⟩
end Go.Proofs.YtbdfblgdmappeaaGreatDoor
