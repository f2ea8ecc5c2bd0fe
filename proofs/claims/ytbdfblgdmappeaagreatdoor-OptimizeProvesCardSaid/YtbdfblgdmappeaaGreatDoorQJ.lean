/- Package optimize: drop, merge, Optimize. -/
import Derived.Test.YtbdfblgdmappeaaGreatDoorQH
import Derived.Test.YtbdfblgdmappeaaGreatDoorPE
import Derived.Test.YtbdfblgdmappeaaGreatDoorMB
namespace Go.Proofs.YtbdfblgdmappeaaGreatDoor
open Go.RowKit
set_option maxRecDepth 100000
theorem drF_err {t : List Rul} {i : Nat} (hi : i < t.length) (h : stF t i = none) : drF t i = none := by rw [drF, dif_pos hi, h]
theorem drF_go {t : List Rul} {i : Nat} {e : List Bx} (hi : i < t.length) (h : stF t i = some (e, false)) : drF t i = drF t (i + 1) := by rw [drF, dif_pos hi, h]; exact if_neg Bool.false_ne_true
theorem drF_hit {t : List Rul} {i : Nat} {e : List Bx} (hi : i < t.length) (h : stF t i = some (e, true)) : drF t i = some (some i) := by rw [drF, dif_pos hi, h]; exact if_pos rfl
theorem drF_end {t : List Rul} {i : Nat} (hi : ¬ i < t.length) : drF t i = some none := by rw [drF, dif_neg hi]
theorem mjF_hit {cf : Bx → Int} {t : List Rul} {i j : Nat} (hj : j < t.length) (h1 : mergB t i j = true) (h2 : costB cf t i j = true) : mjF cf t i j = some j := by rw [mjF, dif_pos hj, h1, h2]; exact if_pos rfl
theorem mjF_go {cf : Bx → Int} {t : List Rul} {i j : Nat} (hj : j < t.length) (h : mergB t i j = false ∨ costB cf t i j = false) : mjF cf t i j = mjF cf t i (j + 1) := by
 rw [mjF, dif_pos hj]
 refine if_neg ?_
 rcases h with h | h <;> simp [h]
theorem mjF_end {cf : Bx → Int} {t : List Rul} {i j : Nat} (hj : ¬ j < t.length) : mjF cf t i j = none := by rw [mjF, dif_neg hj]
theorem miF_hit {cf : Bx → Int} {t : List Rul} {i j : Nat} (hi : i < t.length) (h : mjF cf t i (i + 1) = some j) : miF cf t i = some (i, j) := by rw [miF, dif_pos hi, h]
theorem miF_go {cf : Bx → Int} {t : List Rul} {i : Nat} (hi : i < t.length) (h : mjF cf t i (i + 1) = none) : miF cf t i = miF cf t (i + 1) := by rw [miF, dif_pos hi, h]
theorem miF_end {cf : Bx → Int} {t : List Rul} {i : Nat} (hi : ¬ i < t.length) : miF cf t i = none := by rw [miF, dif_neg hi]
theorem opF_none {cf : Bx → Int} {t : List Rul} {l : List Stp} (h : drF t 0 = none) : opF cf t l = none := by rw [opF, h]
theorem opF_drop {cf : Bx → Int} {t : List Rul} {l : List Stp} {i : Nat} (h : drF t 0 = some (some i)) (hi : i < t.length) : opF cf t l = opF cf (woF t i) (l ++ [(1, (i : Int), 0)]) := by
 rw [opF, h]
 exact dif_pos (by rw [woF_length hi]; omega)
theorem opF_merge {cf : Bx → Int} {t : List Rul} {l : List Stp} {i j : Nat} (h : drF t 0 = some none) (hm : miF cf t 0 = some (i, j)) (hij : i < j) (hj : j < t.length) : opF cf t l = opF cf (mergT t i j) (l ++ [(2, (i : Int), (j : Int))]) := by
 rw [opF, h]
 dsimp only
 rw [hm]
 exact dif_pos (by rw [(mergT_facts hij hj).1]; omega)
theorem opF_end {cf : Bx → Int} {t : List Rul} {l : List Stp} (h : drF t 0 = some none) (hm : miF cf t 0 = none) : opF cf t l = some (t, l) := by
 rw [opF, h]
 dsimp only
 rw [hm]
def drA : Option (Option Nat) → Array Value
 | none => #[.agg #[.int .i64 0, .int .i64 0, .int .i64 0], .bool false, .int .i64 3]
 | some none => #[.agg #[.int .i64 0, .int .i64 0, .int .i64 0], .bool false, .int .i64 0]
 | some (some k) => #[.agg #[.int .i64 1, .int .i64 k, .int .i64 0], .bool true, .int .i64 0]
def miA : Option (Nat × Nat) → Array Value
 | none => #[.agg #[.int .i64 0, .int .i64 0, .int .i64 0], .bool false]
 | some ij => #[.agg #[.int .i64 2, .int .i64 ij.1, .int .i64 ij.2], .bool true]
set_option maxHeartbeats 8000000 in
theorem odrop_any {vt : Value} {t : List Rul} (w : World) (ht : Tops w) (hv : IsTable w vt t) (kt : okT t) (hV : validT t = true) (hl : t.length ≤ 1000000000000) :
  Calls Tryz.prog 53 #[vt] w fun e w' => e = .returned (.tuple (drA (drF t 0))) ∧ Below w.heap.size w w' := by
 have hO := own_start [] w
 obtain ⟨a, c, rfl, -⟩ := hv.view
 go_enter Tryz.func53, Tryz.ntmps53
 go_wp2_with ((with_reducible refine is_alloc ?_); refine own_alQ (o := ⟨some 2, _, _, _, _, _⟩) (hO := hO) (h := ?_); clear hO; intro n2 wv hO)
 go_loopw [10] (fun q wr => ∃ k : Nat, k ≤ t.length ∧ q = .int .i64 k ∧ Hid (drF t 0 = drF t k) ∧ Own [] w [⟨n2, [.int .i64 0, .int .i64 0, .int .i64 0], 26⟩] [] [] wr) (fun q _ => t.length - (intOf q).toNat)
 case atStart => exact ⟨0, by omega, rfl, Lib.hid rfl, hO⟩
 case round =>
  clear hO
  obtain ⟨k, hk, rfl, HD, hO⟩ := hrel
  by_cases hlt : k < t.length
  ·have h1 : ∀ w, Tops w → IsTable w (.slice a t.length c) t → Calls Tryz.prog 27 #[.slice a t.length c, .int .i64 k] w fun e w' => e = .returned (.tuple #[.bool (stB (stF t k)), .int .i64 (stE (stF t k))]) ∧ Below w.heap.size w w' := fun w ht hv => by
    have h := sRemovable_any (i := (k : Int)) w ht hv kt hl
    unfold rmP at h
    rw [if_pos hV, if_neg (by omega), Int.toNat_natCast] at h
    exact h
   cases hs : stF t k with
   | none =>
    rw [hs] at h1
    dsimp only [stB, stE] at h1
    have HR := Lib.hid (HD.out.trans (drF_err hlt hs))
    clear HD hs
    go_wp2_with (first | ((with_reducible refine is_store ?_); (refine own_stRQ (hO := hO) (h := ?_); clear hO; intro wv hO)) | (go_at_call 27; (with_reducible refine (h1 _ (hO.tops ht (by simp)) (hv.keep0 hO)).mono ?_); rintro e wv ⟨rfl, hb9⟩; replace hO := hO.call hb9; clear hb9; clear h1))
    exact bodyPost_ret (own_res_cell_tmp2 hO Tryz.results53 rfl List.mem_cons_self (by (exact row_len (by (with_reducible (exact row_Step))) (by rfl))) rfl rfl rfl) rfl ⟨by rw [HR.out]; rfl, hO.keep.below⟩
   | some x =>
    obtain ⟨e, b⟩ := x
    rw [hs] at h1
    dsimp only [stB, stE] at h1
    cases b
    ·have HR := Lib.hid (HD.out.trans (drF_go hlt hs))
     clear HD hs
     go_wp2_with (go_at_call 27; (with_reducible refine (h1 _ (hO.tops ht (by simp)) (hv.keep0 hO)).mono ?_); rintro e wv ⟨rfl, hb9⟩; replace hO := hO.call hb9; clear hb9; clear h1)
     go_roundw
     case rel => exact ⟨k + 1, by omega, by go_num, HR, hO⟩
     case measure => simp [intOf]; omega
    ·have HR := Lib.hid (HD.out.trans (drF_hit hlt hs))
     clear HD hs
     go_wp2_with (first | ((with_reducible refine is_store ?_); (refine own_stRQ (hO := hO) (h := ?_); clear hO; intro wv hO)) | (go_at_call 27; (with_reducible refine (h1 _ (hO.tops ht (by simp)) (hv.keep0 hO)).mono ?_); rintro e wv ⟨rfl, hb9⟩; replace hO := hO.call hb9; clear hb9; clear h1))
     exact bodyPost_ret (own_res_cell_tmp2 hO Tryz.results53 rfl List.mem_cons_self (by (exact row_len (by (with_reducible (exact row_Step))) (by rfl))) rfl rfl rfl) rfl ⟨by rw [HR.out]; rfl, hO.keep.below⟩
  ·obtain rfl : k = t.length := by omega
   have HR := Lib.hid (HD.out.trans (drF_end hlt))
   clear HD hlt
   go_wp2_with ((with_reducible refine is_store ?_); (refine own_stRQ (hO := hO) (h := ?_); clear hO; intro wv hO))
   exact bodyPost_ret (own_res_cell_tmp2 hO Tryz.results53 rfl List.mem_cons_self (by (exact row_len (by (with_reducible (exact row_Step))) (by rfl))) rfl rfl rfl) rfl ⟨by rw [HR.out]; rfl, hO.keep.below⟩
def CostC (rg : Bool) (cf : Bx → Int) : Prop := (∀ b, b.ok → ∀ w, Tops w → Wid w → Calls Tryz.prog 111 #[bv b, .bool rg] w fun e w' => e = .returned (.int .i64 (cf b)) ∧ Below w.heap.size w w') ∧ ∀ b, b.ok → 0 ≤ cf b ∧ cf b ≤ 2000000000000000000
set_option maxHeartbeats 16000000 in
theorem omerge_any {rg : Bool} {cf : Bx → Int} (hC : CostC rg cf) {vt : Value} {t : List Rul} (w : World) (ht : Tops w) (hw : Wid w) (hv : IsTable w vt t) (kt : okT t) (hV : validT t = true) (hl : t.length ≤ 1000000000000) :
  Calls Tryz.prog 54 #[vt, .bool rg] w fun e w' => e = .returned (.tuple (miA (miF cf t 0))) ∧ Below w.heap.size w w' := by
 have hO := own_argR hv
 have kv := (validT_all hV).1
 have hf0 := hv.form
 obtain ⟨a, c, rfl, ha⟩ := hv.view
 clear hv hV
 go_enter Tryz.func54, Tryz.ntmps54
 go_wp2_with ((with_reducible refine is_alloc ?_); refine own_alQ (o := ⟨some 4, _, _, _, _, _⟩) (hO := hO) (h := ?_); clear hO; intro n4 wv hO)
 go_loopw [12] (fun q wr => ∃ k : Nat, k ≤ t.length ∧ q = .int .i64 k ∧ Hid (miF cf t 0 = miF cf t k) ∧ Own [] w [⟨n4, [.int .i64 0, .int .i64 0, .int .i64 0], 26⟩] [] (roS (.slice a t.length c) (cellsR t)) wr) (fun q _ => t.length - (intOf q).toNat)
 case atStart => exact ⟨0, by omega, rfl, Lib.hid rfl, hO⟩
 case round =>
  clear hO
  obtain ⟨i, hi, rfl, HD, hO⟩ := hrel
  by_cases hlt : i < t.length
  ·obtain ⟨g, o, rfl⟩ := ha (by omega)
   have hTX : ∀ s ∈ roS (.slice (some ⟨g, o, none⟩) t.length c) (cellsR t), s ∈ ([⟨g, o, cellsR t⟩] : List Ro) := fun _ h => h
   simp only [roS] at hO
   have s1 : IntKind.i64.wrap ((i : Int) + 1) = (i : Int) + 1 := IntWalk.i64_in _ (by omega)
   have HH := Lib.hid (fun j h => HD.out.trans (miF_hit (cf := cf) (j := j) hlt h))
   have HG := Lib.hid (fun h => HD.out.trans (miF_go (cf := cf) hlt h))
   clear HD
   go_wp2_with fail
   go_loopw [7] (fun q wr => ∃ j : Nat, i < j ∧ j ≤ t.length ∧ q = .int .i64 j ∧ Hid (mjF cf t i (i + 1) = mjF cf t i j) ∧ Own [] w [⟨n4, [.int .i64 0, .int .i64 0, .int .i64 0], 26⟩] [] [⟨g, o, cellsR t⟩] wr) (fun q _ => t.length - (intOf q).toNat)
   case atStart => exact ⟨i + 1, by omega, by omega, by go_num, Lib.hid rfl, hO⟩
   case round =>
    clear hO
    obtain ⟨j, hij, hj, rfl, HJ, hO⟩ := hrel
    have s2 : IntKind.i64.wrap ((j : Int) + 1) = (j : Int) + 1 := IntWalk.i64_in _ (by omega)
    by_cases hjt : j < t.length
    ·have g1 : decide ((j : Int) < (t.length : Int)) = true := decide_eq_true (by omega)
     have h2 := fun w ht hv => omerges_any (vt := .slice (some ⟨g, o, none⟩) t.length c) (t := t) (i := i) (j := j) w ht hv kt kv hl hij hjt
     have HM := Lib.hid (fun h1 h2 => mjF_hit (cf := cf) (i := i) hjt h1 h2)
     have HN := Lib.hid (fun h => mjF_go (cf := cf) (i := i) hjt h)
     generalize mergB t i j = m at *
     cases m
     ·have HJ2 := Lib.hid (HJ.out.trans (HN.out (.inl rfl)))
      clear HJ HM HN
      go_wp2_with (go_at_call 101; (with_reducible refine (h2 _ (hO.tops ht (by simp)) (hO.isR hf0 hTX)).mono ?_); rintro e wv ⟨rfl, hb9⟩; replace hO := hO.call hb9; clear hb9; clear h2)
      go_roundw
      case rel => exact ⟨j + 1, by omega, by omega, by go_num, HJ2, hO⟩
      case measure => simp [intOf]; omega
     ·have t1 := tk_match t hlt
      have t2 := tk_match t hjt
      have hc1 := hC.1 t[i].1 (kt _ (List.getElem_mem hlt))
      have hc2 := hC.1 t[j].1 (kt _ (List.getElem_mem hjt))
      have hc3 := hC.1 (hullTo t[i].1 t[j].1) (hull_ok (kt _ (List.getElem_mem hlt)) (kt _ (List.getElem_mem hjt)))
      have hb1 := hC.2 t[i].1 (kt _ (List.getElem_mem hlt))
      have hb2 := hC.2 t[j].1 (kt _ (List.getElem_mem hjt))
      have hb3 := hC.2 (hullTo t[i].1 t[j].1) (hull_ok (kt _ (List.getElem_mem hlt)) (kt _ (List.getElem_mem hjt)))
      have h3 := fun w ht => ohull_any t[i].1 t[j].1 w ht (kv _ (List.getElem_mem hlt)) (kv _ (List.getElem_mem hjt))
      have HB := Lib.hid (show costB cf t i j = decide (cf (hullTo t[i].1 t[j].1) ≤ cf t[i].1 + cf t[j].1) by unfold costB; rw [List.getElem?_eq_getElem hlt, List.getElem?_eq_getElem hjt])
      generalize cf (hullTo t[i].1 t[j].1) = y3 at *
      generalize hullTo t[i].1 t[j].1 = b3 at *
      generalize cf t[i].1 = y1 at *
      generalize cf t[j].1 = y2 at *
      generalize t[i].1 = b1 at *
      generalize t[j].1 = b2 at *
      have s3 : IntKind.i64.wrap (y1 + y2) = y1 + y2 := IntWalk.i64_in _ (by omega)
      by_cases hle : y3 ≤ y1 + y2
      ·have g3 : decide (y3 ≤ y1 + y2) = true := decide_eq_true hle
       have HJ2 := Lib.hid (HH.out _ (HJ.out.trans (HM.out rfl (by rw [HB.out]; exact g3))))
       clear HJ HM HN HB HH HG hle
       go_wp2_with (go_at_call 101; (with_reducible refine (h2 _ (hO.tops ht (by simp)) (hO.isR hf0 hTX)).mono ?_); rintro e wv ⟨rfl, hb9⟩; replace hO := hO.call hb9; clear hb9; clear h2)
       refine wp_region_held (S := (Own [] w [] [] [⟨g, o, cellsR t⟩])) (by kernel_rfl) ?_
       replace hO := hO.drew
       have hC : (Own [] w [] [] [⟨g, o, cellsR t⟩]) _ := hO.cls
       refine wpAnyH_tk 0 hC ?_
       (go_big_quiet_want; (go_big_quiet_op; (go_big_quiet_on))); (refine wpQuiet_nil ?_)
       refine wpAnyH_tk 1 hC ?_
       (go_big_quiet_want; (go_big_quiet_op; (go_big_quiet_on))); (refine wpQuiet_nil ?_)
       refine wpAnyH_tk 2 hC ?_
       (go_big_quiet_want; (go_big_quiet_op; ((refine ⟨_, fun _ _ => rfl, ?_⟩); go_big_quiet_on))); (refine wpQuiet_nil ?_)
       refine wpAnyH_tk 3 hC ?_
       (go_big_quiet_want; (go_big_quiet_op; ((refine ⟨_, fun _ _ => rfl, ?_⟩); go_big_quiet_on))); (refine wpQuiet_nil ?_)
       refine wpAnyH_tk 4 hC ?_
       (go_big_quiet_want; ((with_reducible refine is_loadQ ?_); (refine q_ldQ (h := ?_)); (try simp only [Act.put]); (try simp only [sI9, sZ9, sS9]); go_big_quiet_on)); (refine wpQuiet_nil ?_)
       refine wpAnyH_tk 5 hC ?_
       (go_big_quiet_want; (go_big_quiet_op; (go_big_quiet_on))); (refine wpQuiet_nil ?_)
       refine wpAnyH_tk 6 hC ?_
       (go_big_quiet_want; (go_big_quiet_op; (go_big_quiet_on))); (refine wpQuiet_nil ?_)
       refine wpAnyH_tk 7 hC ?_
       (go_big_quiet_want; (go_big_quiet_op; ((refine ⟨_, fun _ _ => rfl, ?_⟩); go_big_quiet_on))); (refine wpQuiet_nil ?_)
       refine wpAnyH_tk 8 hC ?_
       (go_big_quiet_want; (go_big_quiet_op; ((refine ⟨_, fun _ _ => rfl, ?_⟩); go_big_quiet_on))); (refine wpQuiet_nil ?_)
       refine wpAnyH_tk 9 hC ?_
       (go_big_quiet_want; ((with_reducible refine is_loadQ ?_); (refine q_ldQ (h := ?_)); (try simp only [Act.put]); (try simp only [sI9, sZ9, sS9]); go_big_quiet_on)); (refine wpQuiet_nil ?_)
       refine wpAnyH_all (rs := [10, 11]) (by kernel_rfl) (by simp) (ord_cons ?_ (ord_cons ?_ ord_nil))
       rotate_left 2
       all_goals
        refine wpOp_of_listL rfl ?_
        ((with_reducible refine is_alloc ?_); (first | (refine own_alQ (o := ⟨some 8, _, _, _, _, _⟩) (hO := hO) (h := ?_); clear hO; intro n8 wv hO) | (refine own_alQ (o := ⟨some 9, _, _, _, _, _⟩) (hO := hO) (h := ?_); clear hO; intro n9 wv hO))); (try simp only [Act.put]); (try simp only [sI9, sZ9, sS9])
        refine wpList_done (qk_intro ?_)
        replace hC : (Own [] w [] [] [⟨g, o, cellsR t⟩]) _ := hO.cls
        refine ⟨hC, ?_⟩
       refine wpAnyH_1 11 ?_
       rotate_left 1
       refine wpAnyH_1 10 ?_
       rotate_left 1
       all_goals
        refine wpOp_of_listL rfl ?_
        ((with_reducible refine is_alloc ?_); (first | (refine own_alQ (o := ⟨some 8, _, _, _, _, _⟩) (hO := hO) (h := ?_); clear hO; intro n8 wv hO) | (refine own_alQ (o := ⟨some 9, _, _, _, _, _⟩) (hO := hO) (h := ?_); clear hO; intro n9 wv hO))); (try simp only [Act.put]); (try simp only [sI9, sZ9, sS9])
        refine wpList_done (qk_intro ?_)
        replace hC : (Own [] w [] [] [⟨g, o, cellsR t⟩]) _ := hO.cls
        refine ⟨hC, ?_⟩
       refine wpAnyH_1 12 ?_
       rotate_left 1
       refine wpAnyH_1 12 ?_
       rotate_left 1
       all_goals
        refine wpOp_of_listL rfl ?_
        ((with_reducible refine is_store ?_); (refine own_stRQ (hO := hO) (h := ?_); clear hO; intro wv hO)); (try simp only [Act.put])
        refine wpList_done (qk_intro ?_)
        replace hC : (Own [] w [] [] [⟨g, o, cellsR t⟩]) _ := hO.cls
        refine ⟨hC, ?_⟩
       refine wpAnyH_1 13 ?_
       rotate_left 1
       refine wpAnyH_1 13 ?_
       rotate_left 1
       all_goals
        refine wpOp_of_listL rfl ?_
        ((with_reducible refine is_store ?_); (refine own_stRQ (hO := hO) (h := ?_); clear hO; intro wv hO)); (try simp only [Act.put])
        refine wpList_done (qk_intro ?_)
        replace hC : (Own [] w [] [] [⟨g, o, cellsR t⟩]) _ := hO.cls
        refine ⟨hC, ?_⟩
       refine wpAnyH_done (by kernel_rfl) ?_ _
       rotate_left
       refine wpAnyH_done (by kernel_rfl) ?_ _
       rotate_left
       all_goals clear hC
       all_goals
        go_wp2_with fail
        (refine own_quiet hO (by kernel_rfl) (by kernel_rfl) ?_; clear hO; (repeat (go_big_quiet_want; (first | ((with_reducible refine is_loadQ ?_); (refine q_ldQ (h := ?_)); (try simp only [Act.put]); (try simp only [sI9, sZ9, sS9]); go_big_quiet_on) | (go_big_quiet_op; (first | go_big_quiet_on | ((refine ⟨_, fun _ _ => rfl, ?_⟩); go_big_quiet_on) | go_big_quiet_call ((first | (intro hq; go_at_call 104; (have h9 := h3 _ (hq.tops ht (by simp))); (with_reducible exact q_call h9 hq)) | (intro hq; go_at_call 111; (have h9 := hc3 _ (hq.tops ht (by simp)) (hq.wid hw (by simp))); (with_reducible exact q_call h9 hq)) | (intro hq; go_at_call 111; (have h9 := hc1 _ (hq.tops ht (by simp)) (hq.wid hw (by simp))); (with_reducible exact q_call h9 hq)) | (intro hq; go_at_call 111; (have h9 := hc2 _ (hq.tops ht (by simp)) (hq.wid hw (by simp))); (with_reducible exact q_call h9 hq))))))))); (refine wpQuiet_nil ?_); intro wv hO)
        go_wp2_with ((with_reducible refine is_store ?_); (refine own_stRQ (hO := hO) (h := ?_); clear hO; intro wv hO))
        exact bodyPost_ret (own_res_cell_tmp hO Tryz.results54 rfl (by (repeat (first | exact List.mem_cons_self | refine List.mem_cons_of_mem _ ?_))) (by (exact row_len (by (with_reducible (exact row_Step))) (by rfl))) rfl rfl) rfl ⟨by rw [HJ2.out]; rfl, hO.keep.below⟩
      ·have g3 : decide (y3 ≤ y1 + y2) = false := decide_eq_false hle
       have HJ2 := Lib.hid (HJ.out.trans (HN.out (.inr (by rw [HB.out]; exact g3))))
       clear HJ HM HN HB HH HG hle
       go_wp2_with (go_at_call 101; (with_reducible refine (h2 _ (hO.tops ht (by simp)) (hO.isR hf0 hTX)).mono ?_); rintro e wv ⟨rfl, hb9⟩; replace hO := hO.call hb9; clear hb9; clear h2)
       refine wp_region_held (S := (Own [] w [] [] [⟨g, o, cellsR t⟩])) (by kernel_rfl) ?_
       replace hO := hO.drew
       have hC : (Own [] w [] [] [⟨g, o, cellsR t⟩]) _ := hO.cls
       refine wpAnyH_tk 0 hC ?_
       (go_big_quiet_want; (go_big_quiet_op; (go_big_quiet_on))); (refine wpQuiet_nil ?_)
       refine wpAnyH_tk 1 hC ?_
       (go_big_quiet_want; (go_big_quiet_op; (go_big_quiet_on))); (refine wpQuiet_nil ?_)
       refine wpAnyH_tk 2 hC ?_
       (go_big_quiet_want; (go_big_quiet_op; ((refine ⟨_, fun _ _ => rfl, ?_⟩); go_big_quiet_on))); (refine wpQuiet_nil ?_)
       refine wpAnyH_tk 3 hC ?_
       (go_big_quiet_want; (go_big_quiet_op; ((refine ⟨_, fun _ _ => rfl, ?_⟩); go_big_quiet_on))); (refine wpQuiet_nil ?_)
       refine wpAnyH_tk 4 hC ?_
       (go_big_quiet_want; ((with_reducible refine is_loadQ ?_); (refine q_ldQ (h := ?_)); (try simp only [Act.put]); (try simp only [sI9, sZ9, sS9]); go_big_quiet_on)); (refine wpQuiet_nil ?_)
       refine wpAnyH_tk 5 hC ?_
       (go_big_quiet_want; (go_big_quiet_op; (go_big_quiet_on))); (refine wpQuiet_nil ?_)
       refine wpAnyH_tk 6 hC ?_
       (go_big_quiet_want; (go_big_quiet_op; (go_big_quiet_on))); (refine wpQuiet_nil ?_)
       refine wpAnyH_tk 7 hC ?_
       (go_big_quiet_want; (go_big_quiet_op; ((refine ⟨_, fun _ _ => rfl, ?_⟩); go_big_quiet_on))); (refine wpQuiet_nil ?_)
       refine wpAnyH_tk 8 hC ?_
       (go_big_quiet_want; (go_big_quiet_op; ((refine ⟨_, fun _ _ => rfl, ?_⟩); go_big_quiet_on))); (refine wpQuiet_nil ?_)
       refine wpAnyH_tk 9 hC ?_
       (go_big_quiet_want; ((with_reducible refine is_loadQ ?_); (refine q_ldQ (h := ?_)); (try simp only [Act.put]); (try simp only [sI9, sZ9, sS9]); go_big_quiet_on)); (refine wpQuiet_nil ?_)
       refine wpAnyH_all (rs := [10, 11]) (by kernel_rfl) (by simp) (ord_cons ?_ (ord_cons ?_ ord_nil))
       rotate_left 2
       all_goals
        refine wpOp_of_listL rfl ?_
        ((with_reducible refine is_alloc ?_); (first | (refine own_alQ (o := ⟨some 8, _, _, _, _, _⟩) (hO := hO) (h := ?_); clear hO; intro n8 wv hO) | (refine own_alQ (o := ⟨some 9, _, _, _, _, _⟩) (hO := hO) (h := ?_); clear hO; intro n9 wv hO))); (try simp only [Act.put]); (try simp only [sI9, sZ9, sS9])
        refine wpList_done (qk_intro ?_)
        replace hC : (Own [] w [] [] [⟨g, o, cellsR t⟩]) _ := hO.cls
        refine ⟨hC, ?_⟩
       refine wpAnyH_1 11 ?_
       rotate_left 1
       refine wpAnyH_1 10 ?_
       rotate_left 1
       all_goals
        refine wpOp_of_listL rfl ?_
        ((with_reducible refine is_alloc ?_); (first | (refine own_alQ (o := ⟨some 8, _, _, _, _, _⟩) (hO := hO) (h := ?_); clear hO; intro n8 wv hO) | (refine own_alQ (o := ⟨some 9, _, _, _, _, _⟩) (hO := hO) (h := ?_); clear hO; intro n9 wv hO))); (try simp only [Act.put]); (try simp only [sI9, sZ9, sS9])
        refine wpList_done (qk_intro ?_)
        replace hC : (Own [] w [] [] [⟨g, o, cellsR t⟩]) _ := hO.cls
        refine ⟨hC, ?_⟩
       refine wpAnyH_1 12 ?_
       rotate_left 1
       refine wpAnyH_1 12 ?_
       rotate_left 1
       all_goals
        refine wpOp_of_listL rfl ?_
        ((with_reducible refine is_store ?_); (refine own_stRQ (hO := hO) (h := ?_); clear hO; intro wv hO)); (try simp only [Act.put])
        refine wpList_done (qk_intro ?_)
        replace hC : (Own [] w [] [] [⟨g, o, cellsR t⟩]) _ := hO.cls
        refine ⟨hC, ?_⟩
       refine wpAnyH_1 13 ?_
       rotate_left 1
       refine wpAnyH_1 13 ?_
       rotate_left 1
       all_goals
        refine wpOp_of_listL rfl ?_
        ((with_reducible refine is_store ?_); (refine own_stRQ (hO := hO) (h := ?_); clear hO; intro wv hO)); (try simp only [Act.put])
        refine wpList_done (qk_intro ?_)
        replace hC : (Own [] w [] [] [⟨g, o, cellsR t⟩]) _ := hO.cls
        refine ⟨hC, ?_⟩
       refine wpAnyH_done (by kernel_rfl) ?_ _
       rotate_left
       refine wpAnyH_done (by kernel_rfl) ?_ _
       rotate_left
       all_goals clear hC
       all_goals
        go_wp2_with fail
        (refine own_quiet hO (by kernel_rfl) (by kernel_rfl) ?_; clear hO; (repeat (go_big_quiet_want; (first | ((with_reducible refine is_loadQ ?_); (refine q_ldQ (h := ?_)); (try simp only [Act.put]); (try simp only [sI9, sZ9, sS9]); go_big_quiet_on) | (go_big_quiet_op; (first | go_big_quiet_on | ((refine ⟨_, fun _ _ => rfl, ?_⟩); go_big_quiet_on) | go_big_quiet_call ((first | (intro hq; go_at_call 104; (have h9 := h3 _ (hq.tops ht (by simp))); (with_reducible exact q_call h9 hq)) | (intro hq; go_at_call 111; (have h9 := hc3 _ (hq.tops ht (by simp)) (hq.wid hw (by simp))); (with_reducible exact q_call h9 hq)) | (intro hq; go_at_call 111; (have h9 := hc1 _ (hq.tops ht (by simp)) (hq.wid hw (by simp))); (with_reducible exact q_call h9 hq)) | (intro hq; go_at_call 111; (have h9 := hc2 _ (hq.tops ht (by simp)) (hq.wid hw (by simp))); (with_reducible exact q_call h9 hq))))))))); (refine wpQuiet_nil ?_); intro wv hO)
        go_wp2_with fail
        go_roundw
        case rel => exact ⟨j + 1, by omega, by omega, by go_num, HJ2, hO.sub (by repeat (first | exact List.Sublist.refl _ | apply List.Sublist.cons)) (.refl _) (fun _ h => h)⟩
        case measure => simp [intOf]; omega
    ·obtain rfl : j = t.length := by omega
     have g1 : decide ((t.length : Int) < (t.length : Int)) = false := decide_eq_false (by omega)
     have HG2 := Lib.hid (HG.out (HJ.out.trans (mjF_end hjt)))
     clear HG HH HJ hjt
     go_wp2_with fail
     go_roundw
     case rel => exact ⟨i + 1, by omega, by go_num, HG2, hO.sub (.refl _) (.refl _) (fun q hq => by simpa [roS] using hq)⟩
     case measure => simp [intOf]; omega
  ·obtain rfl : i = t.length := by omega
   have HR := Lib.hid (HD.out.trans (miF_end hlt))
   clear HD hlt
   go_wp2_with ((with_reducible refine is_store ?_); (refine own_stRQ (hO := hO) (h := ?_); clear hO; intro wv hO))
   exact bodyPost_ret (own_res_cell_tmp hO Tryz.results54 rfl List.mem_cons_self (by (exact row_len (by (with_reducible (exact row_Step))) (by rfl))) rfl rfl) rfl ⟨by rw [HR.out]; rfl, hO.keep.below⟩
def opR (cf : Bx → Int) (t : List Rul) : List Rul × List Stp × Int := if validT t = true then match opF cf t [] with
  | none => ([], [], 3)
  | some x => (x.1, x.2, 0)
 else ([], [], 1)
def OpPost (w : World) (r : List Rul × List Stp × Int) (e : Ending) (w' : World) : Prop := ∃ v vr, e = .returned (.tuple #[v, vr, .int .i64 r.2.2]) ∧ IsTable w' v r.1 ∧ NewFrom w v ∧ IsSteps w' vr r.2.1 ∧ NewFrom w vr ∧ Below w.heap.size w w'
theorem steps_nil (w : World) : IsSteps w (.slice none 0 0) [] := .inl ⟨rfl, rfl, rfl⟩
theorem opR_none {cf : Bx → Int} {t : List Rul} (hV : validT t = true) (h : opF cf t [] = none) : opR cf t = ([], [], 3) := by unfold opR; rw [if_pos hV, h]
theorem opR_some {cf : Bx → Int} {t u : List Rul} {l : List Stp} (hV : validT t = true) (h : opF cf t [] = some (u, l)) : opR cf t = (u, l, 0) := by unfold opR; rw [if_pos hV, h]
theorem opR_bad {cf : Bx → Int} {t : List Rul} (hV : validT t = false) : opR cf t = ([], [], 1) := by unfold opR; rw [hV]; rfl
theorem validT_merg {t : List Rul} {i j : Nat} (hV : validT t = true) (hij : i < j) (hj : j < t.length) : validT (mergT t i j) = true := by
 obtain ⟨h1, h2⟩ := validT_all hV
 obtain ⟨f1, f2, f3⟩ := mergT_facts hij hj
 exact validT_of (f3 h1) (by omega)
theorem Own.rowSteps {M : List Nat} {w0 w : World} {X : List Chunk} {R : List Row} {S : List Ro} (hO : Own M w0 X R S w) {v : Value} {l : List Stp} {e : TypeId} {k size : Nat} (hk : k = l.length) (hm : (⟨v, k, cellsQ l, e, size⟩ : Row) ∈ R) : IsSteps w v l := by
 subst hk
 exact hO.rowIs hm
set_option maxHeartbeats 16000000 in
theorem oOptimize_any {rg : Bool} {cf : Bx → Int} (hC : CostC rg cf) {vt : Value} {t : List Rul} (w : World) (ht : Tops w) (hw : Wid w) (hv : IsTable w vt t) (kt : okT t) (hl : t.length ≤ 1000000000000) :
  Calls Tryz.prog 18 #[vt, .bool rg] w (OpPost w (opR cf t)) := by
 have hO := own_argR hv
 have h1 : ∀ w, Tops w → IsTable w vt t → Calls Tryz.prog 43 #[vt] w fun e w' => e = .returned (.bool (validT t)) ∧ Below w.heap.size w w' := fun w ht hv => fValid_any w ht hv (by omega)
 obtain ⟨a, c, rfl, -⟩ := hv.view
 cases hV : validT t with
 | false =>
  rw [hV] at h1
  rw [opR_bad hV]
  clear hV
  go_enter Tryz.func18, Tryz.ntmps18
  go_wp2_with (go_at_call 43; (with_reducible refine (h1 _ (hO.tops ht (by simp)) (hv.keep0 hO)).mono ?_); rintro e wv ⟨rfl, hb9⟩; replace hO := hO.call hb9; clear hb9)
  go_ret3
  exact ⟨_, _, rfl, .inl ⟨rfl, rfl⟩, new_nilS _, steps_nil _, new_nilS _, hO.keep.below⟩
 | true =>
  rw [hV] at h1
  have h0 := fun w hv => cloneT_any (vl := .slice a t.length c) (l := t) w hv (by omega)
  have HO := Lib.hid (fun h => opR_none (cf := cf) hV h)
  have HS := Lib.hid (fun u l h => opR_some (cf := cf) (u := u) (l := l) hV h)
  go_enter Tryz.func18, Tryz.ntmps18
  go_wp2_with (first | (go_at_call 43; (with_reducible refine (h1 _ (hO.tops ht (by simp)) (hv.keep0 hO)).mono ?_); rintro e wv ⟨rfl, hb9⟩; replace hO := hO.call hb9; clear hb9; clear h1) | (go_at_call 52; (with_reducible refine (h0 _ (hv.keep0 hO)).mono ?_); rintro e wv h9; obtain ⟨v6, rfl, ⟨hv9, hN9⟩, hb9⟩ := h9.ret; have hf6 := hv9.form; (have hN6 : NewFrom w v6 := (fun g hg => Nat.le_trans hO.keep.size (hN9 g hg))); replace hO := hO.gainR hb9 hv9 hN9; clear hb9 hv9 hN9 h0))
  replace hO := hO.nilRow 26 3
  go_loopw [7, 8] (fun v7 v8 wr => ∃ (u : List Rul) (l : List Stp), l.length + u.length ≤ t.length ∧ okT u ∧ validT u = true ∧ Hid (opF cf t [] = opF cf u l) ∧ FormR v7 u ∧ NewFrom w v7 ∧ Own [] w [] [⟨v8, l.length, cellsQ l, 26, 3⟩] (roS v7 (cellsR u)) wr) (fun v7 _ _ => lenV v7)
  case atStart => exact ⟨t, [], by simp, kt, hV, Lib.hid rfl, hf6, hN6, hO.sub (.refl _) (.refl _) (fun q hq => List.mem_append_left _ hq)⟩
  case round =>
   clear hO hf6 hN6 hV
   obtain ⟨u, l, hlen, ku, hV, HP, hf6, hN6, hO⟩ := hrel
   have hd := fun v w ht hv => odrop_any (vt := v) (t := u) w ht hv ku hV (by omega)
   cases hr : drF u 0 with
   | none =>
    rw [hr] at hd
    dsimp only [drA] at hd
    have HR := Lib.hid (HO.out (HP.out.trans (opF_none hr)))
    clear HP hr
    go_wp2_with (first | ((with_reducible refine is_store ?_); (refine own_stRQ (hO := hO) (h := ?_); clear hO; intro wv hO)) | ((with_reducible refine is_alloc ?_); refine own_alQ (o := ⟨some 9, _, _, _, _, _⟩) (hO := hO) (h := ?_); clear hO; intro n9 wv hO) | (go_at_call 53; (with_reducible refine (hd _ _ (hO.tops ht (by simp)) (hO.isRm hf6)).mono ?_); rintro e wv ⟨rfl, hb9⟩; replace hO := hO.call hb9; clear hb9; clear hd))
    go_ret3
    exact ⟨_, _, by rw [HR.out]; rfl, by rw [HR.out]; exact .inl ⟨rfl, rfl⟩, new_nilS _, by rw [HR.out]; exact steps_nil _, new_nilS _, hO.keep.below⟩
   | some r =>
    cases r with
    | some i =>
     rw [hr] at hd
     dsimp only [drA] at hd
     obtain ⟨-, hiu, -⟩ := drF_some hr
     have hp := fun v w hv => operf1_any (vt := v) (t := u) (i := i) 0 w hv (by omega) hiu
     have HP2 := Lib.hid (HP.out.trans (opF_drop hr hiu))
     have hwl := woF_length hiu
     have kw := okT_wo ku i
     have hvw := validT_wo hV i
     have HL := Lib.hid (lenV_form hf6)
     clear HP hr
     generalize woF u i = x at *
     go_wp2_with (first | ((with_reducible refine is_load ?_); (refine own_ldQ (h := ?_))) | ((with_reducible refine is_store ?_); (refine own_stRQ (hO := hO) (h := ?_); clear hO; intro wv hO)) | ((with_reducible refine is_alloc ?_); refine own_alQ (o := ⟨some 9, _, _, _, _, _⟩) (hO := hO) (h := ?_); clear hO; intro n9 wv hO) | ((with_reducible refine is_append ?_); refine own_apQ (o := ⟨some 44, _, _, _, _, _⟩) (hO := hO) (h := ?_); clear hO; intro g44 c44 wv hO) | (go_at_call 53; (with_reducible refine (hd _ _ (hO.tops ht (by simp)) (hO.isRm hf6)).mono ?_); rintro e wv ⟨rfl, hb9⟩; replace hO := hO.call hb9; clear hb9; clear hd) | (go_at_call 45; (with_reducible refine (hp _ _ (hO.isRm hf6)).mono ?_); rintro e wv ⟨v7, rfl, ⟨hv9, hn9⟩, hb9⟩; (have hN7 : NewFrom w v7 := (fun g hg => Nat.le_trans hO.keep.size (hn9 g hg))); have hf7 := hv9.form; replace hO := hO.gainR hb9 hv9 hn9; clear hb9 hv9 hn9 hp) | ((with_reducible refine is_build ?_); (refine' own_buildN (o := ⟨some 43, _, _, _, _, _⟩) [.agg #[.int .i64 1, .int .i64 i, .int .i64 0]] hO (by rfl) rfl slice_Steps rfl rfl (by rfl) (by decide) (by decide) ?_); clear hO; intro n43 wv hO))
     go_roundw
     case rel =>
      refine ⟨x, l ++ [(1, (i : Int), 0)], by simp; omega, kw, hvw, HP2, hf7, hN7, ?_⟩
      rw [List.length_append, cellsQ_append, cellsQ_one]
      exact hO.sub (by repeat (first | exact List.Sublist.refl _ | apply List.Sublist.cons)) (.refl _) (fun q hq => List.mem_append_left _ hq)
     case measure => rw [lenV_form hf7, HL.out]; omega
    | none =>
     rw [hr] at hd
     dsimp only [drA] at hd
     have hm := fun v w ht hw hv => omerge_any hC (vt := v) (t := u) w ht hw hv ku hV (by omega)
     cases hi : miF cf u 0 with
     | none =>
      rw [hi] at hm
      dsimp only [miA] at hm
      have HR := Lib.hid (HS.out _ _ (HP.out.trans (opF_end hr hi)))
      clear HP hr hi
      go_wp2_with (first | ((with_reducible refine is_store ?_); (refine own_stRQ (hO := hO) (h := ?_); clear hO; intro wv hO)) | ((with_reducible refine is_alloc ?_); refine own_alQ (o := ⟨some 9, _, _, _, _, _⟩) (hO := hO) (h := ?_); clear hO; intro n9 wv hO) | (go_at_call 53; (with_reducible refine (hd _ _ (hO.tops ht (by simp)) (hO.isRm hf6)).mono ?_); rintro e wv ⟨rfl, hb9⟩; replace hO := hO.call hb9; clear hb9; clear hd) | (go_at_call 54; (with_reducible refine (hm _ _ (hO.tops ht (by simp)) (hO.wid hw (by simp)) (hO.isRm hf6)).mono ?_); rintro e wv ⟨rfl, hb9⟩; replace hO := hO.call hb9; clear hb9; clear hm))
      go_ret3
      exact ⟨_, _, by rw [HR.out]; rfl, by rw [HR.out]; exact hO.isRm hf6, hN6, by rw [HR.out]; exact hO.rowSteps rfl List.mem_cons_self, own_new hO List.mem_cons_self, hO.keep.below⟩
     | some ij =>
      obtain ⟨i, j⟩ := ij
      rw [hi] at hm
      dsimp only [miA] at hm
      obtain ⟨-, hij, hju, -, -⟩ := miF_some hi
      dsimp only at hij hju
      have hp := fun v w ht hv => operf2_any (vt := v) (t := u) (i := i) (j := j) w ht hv (validT_all hV).1 (by omega) hij hju
      have HP2 := Lib.hid (HP.out.trans (opF_merge hr hi hij hju))
      obtain ⟨hwl, kw, -⟩ := mergT_facts hij hju
      replace kw := kw ku
      have hvw := validT_merg hV hij hju
      have HL := Lib.hid (lenV_form hf6)
      clear HP hr hi
      generalize mergT u i j = x at *
      go_wp2_with (first | ((with_reducible refine is_load ?_); (refine own_ldQ (h := ?_))) | ((with_reducible refine is_store ?_); (refine own_stRQ (hO := hO) (h := ?_); clear hO; intro wv hO)) | ((with_reducible refine is_alloc ?_); refine own_alQ (o := ⟨some 9, _, _, _, _, _⟩) (hO := hO) (h := ?_); clear hO; intro n9 wv hO) | ((with_reducible refine is_append ?_); refine own_apQ (o := ⟨some 44, _, _, _, _, _⟩) (hO := hO) (h := ?_); clear hO; intro g44 c44 wv hO) | (go_at_call 53; (with_reducible refine (hd _ _ (hO.tops ht (by simp)) (hO.isRm hf6)).mono ?_); rintro e wv ⟨rfl, hb9⟩; replace hO := hO.call hb9; clear hb9; clear hd) | (go_at_call 54; (with_reducible refine (hm _ _ (hO.tops ht (by simp)) (hO.wid hw (by simp)) (hO.isRm hf6)).mono ?_); rintro e wv ⟨rfl, hb9⟩; replace hO := hO.call hb9; clear hb9; clear hm) | (go_at_call 45; (with_reducible refine (hp _ _ (hO.tops ht (by simp)) (hO.isRm hf6)).mono ?_); rintro e wv ⟨v7, rfl, ⟨hv9, hn9⟩, hb9⟩; (have hN7 : NewFrom w v7 := (fun g hg => Nat.le_trans hO.keep.size (hn9 g hg))); have hf7 := hv9.form; replace hO := hO.gainR hb9 hv9 hn9; clear hb9 hv9 hn9 hp) | ((with_reducible refine is_build ?_); (refine' own_buildN (o := ⟨some 43, _, _, _, _, _⟩) [.agg #[.int .i64 2, .int .i64 i, .int .i64 j]] hO (by rfl) rfl slice_Steps rfl rfl (by rfl) (by decide) (by decide) ?_); clear hO; intro n43 wv hO))
      go_roundw
      case rel =>
       refine ⟨x, l ++ [(2, (i : Int), (j : Int))], by simp; omega, kw, hvw, HP2, hf7, hN7, ?_⟩
       rw [List.length_append, cellsQ_append, cellsQ_one]
       exact hO.sub (by repeat (first | exact List.Sublist.refl _ | apply List.Sublist.cons)) (.refl _) (fun q hq => List.mem_append_left _ hq)
      case measure => rw [lenV_form hf7, HL.out]; omega
end Go.Proofs.YtbdfblgdmappeaaGreatDoor
