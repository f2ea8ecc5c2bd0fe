/- The reference of findings: Clean, Ints, Same. -/
import Derived.Test.YtjoionnnpjajmaaGreatDoorPE
namespace Go.Proofs.YtjoionnnpjajmaaGreatDoor
open Go.RowKit
set_option maxRecDepth 100000
def clR (t : List Rul) : List Rul × List Int × Int := if validT t = true then match clF t (upTo t.length) [] 0 with
  | none => ([], [], 3)
  | some x => (x.1, x.2, 0)
 else ([], [], 1)
def ClPost (w : World) (r : List Rul × List Int × Int) (e : Ending) (w' : World) : Prop := ∃ v vr, e = .returned (.tuple #[v, vr, .int .i64 r.2.2]) ∧ IsTable w' v r.1 ∧ NewFrom w v ∧ IsNums w' vr r.2.1 ∧ NewFrom w vr ∧ Below w.heap.size w w'
def lenV : Value → Nat | .slice _ n _ => n | _ => 0
theorem lenV_form {v : Value} {u : List Rul} (h : FormR v u) : lenV v = u.length := by rcases h with ⟨rfl, rfl⟩ | ⟨g, o, c, rfl, _⟩ <;> rfl
theorem table_nil (w : World) : IsTable w (.slice none 0 0) [] := .inl ⟨rfl, rfl⟩
theorem validT_wo {t : List Rul} (h : validT t = true) (i : Nat) : validT (woF t i) = true := by
 unfold validT at h ⊢
 rw [Bool.and_eq_true, List.all_eq_true, decide_eq_true_iff] at h ⊢
 refine ⟨fun r hr => h.1 r (woF_mem hr), ?_⟩
 have : (woF t i).length ≤ t.length := by simp only [woF, List.length_append, List.length_take, List.length_drop]; omega
 omega
theorem src_numsT {w : World} {a : Option Addr} {c m : Nat} {l : List Int} (h : IsNums w (.slice a l.length c) l) (hm : m ≤ l.length) : SrcAt w 1 a m (ints (l.take m)) := by
 refine ⟨by rw [ints_len]; simp; omega, fun h0 => ?_⟩
 rcases h with ⟨h1, h2, _⟩ | ⟨g, o, c', h1, _, hr⟩
 ·omega
 ·cases h1
  refine ⟨g, o, rfl, fun j u hj => hr j u ?_⟩
  have hl : ints l = ints (l.take m) ++ ints (l.drop m) := by rw [← ints_app, List.take_append_drop]
  rw [hl, List.getElem?_append_left (List.getElem?_eq_some_iff.1 hj).1]
  exact hj
theorem src_numsD {w : World} {g o c m i : Nat} {l : List Int} (h : IsNums w (.slice (some ⟨g, o, none⟩) l.length c) l) (hm : i + m = l.length) : SrcAt w 1 (if c = i then some ⟨g, o, none⟩ else some ⟨g, o + i, none⟩) m (ints (l.drop i)) := by
 have hl : (ints (l.drop i)).length = m := by rw [ints_len, List.length_drop]; omega
 have hc : l.length ≤ c := by
  rcases h with ⟨h9, _⟩ | ⟨_, _, _, h9, h8, _⟩
  ·cases h9
  ·cases h9; exact h8
 by_cases h0 : c = i
 ·have hn : m = 0 := by omega
  exact ⟨by rw [hl, Nat.mul_one], fun h => absurd h (by omega)⟩
 ·rw [if_neg h0]
  refine src_of_cells (c := m) (IsCells.sub h ?_ (Nat.le_refl _)) (by rw [hl, Nat.mul_one])
  rw [hl]
  unfold ints
  rw [List.map_drop, List.take_of_length_le]
  simp; omega
theorem clR_none {t : List Rul} (hV : validT t = true) (h : clF t (upTo t.length) [] 0 = none) : clR t = ([], [], 3) := by unfold clR; rw [if_pos hV, h]
theorem clR_some {t u : List Rul} {r : List Int} (hV : validT t = true) (h : clF t (upTo t.length) [] 0 = some (u, r)) : clR t = (u, r, 0) := by unfold clR; rw [if_pos hV, h]
theorem ints_wo (l : List Int) (i m : Nat) (_h : i + 1 + m = l.length) : ints (l.take i) ++ ints (l.drop (i + 1)) = ints (woF l i) := by
 unfold woF; rw [ints_app]
theorem getD_at {l : List Int} {i : Nat} (h : i < l.length) : l.getD i 0 = l[i] := by simp [List.getD, h]
set_option maxHeartbeats 32000000 in
theorem rClean_any {vt : Value} {t : List Rul} (w : World) (hv : IsTable w vt t) (kt : okT t) (hl : t.length ≤ 20) :
  Calls Tryz.prog 16 #[vt] w (ClPost w (clR t)) := by
 have hO := own_argR hv
 have h1 : ∀ w, IsTable w vt t → Calls Tryz.prog 25 #[vt] w fun e w' => e = .returned (.bool (validT t)) ∧ Below w.heap.size w w' := fun w hv => rValid8_any w hv (by omega)
 obtain ⟨a, c, rfl, ha⟩ := hv.view
 cases hV : validT t with
 | false =>
  rw [hV] at h1
  unfold clR
  rw [hV, if_neg Bool.false_ne_true]
  clear hV
  go_enter Tryz.func16, Tryz.ntmps16
  go_wp2_with (first | refine ldNT ?_ | ((first | refine stNT hO ?_ | refine st1NT hO ?_); clear hO; intro wv hO) | (refine bl9T 22 hO ?_; clear hO; intro n22 wv hO) | (refine bl9T 49 hO ?_; clear hO; intro n49 wv hO) | (refine ap9T 23 hO ?_; clear hO; intro g23 c23 wv hO) | (refine ap9T 26 hO ?_; clear hO; intro g26 c26 wv hO) | (refine ap9T 50 hO ?_; clear hO; intro g50 c50 wv hO) | (refine ap9T 58 hO ?_; clear hO; intro g58 c58 wv hO) | (refine ap9T 63 hO ?_; clear hO; intro g63 c63 wv hO) | (go_at_call 25; (with_reducible refine (h1 _ (hv.keep0 hO)).mono ?_); rintro e wv ⟨rfl, hb9⟩; replace hO := hO.call hb9; clear hb9))
  go_ret3
  exact ⟨_, _, rfl, table_nil _, new_nilS _, nums_nil _, new_nilS _, hO.keep.below⟩
 | true =>
  rw [hV] at h1
  go_enter Tryz.func16, Tryz.ntmps16
  go_wp2_with (first | refine ldNT ?_ | ((first | refine stNT hO ?_ | refine st1NT hO ?_); clear hO; intro wv hO) | (refine bl9T 22 hO ?_; clear hO; intro n22 wv hO) | (refine bl9T 49 hO ?_; clear hO; intro n49 wv hO) | (refine ap9T 23 hO ?_; clear hO; intro g23 c23 wv hO) | (refine ap9T 26 hO ?_; clear hO; intro g26 c26 wv hO) | (refine ap9T 50 hO ?_; clear hO; intro g50 c50 wv hO) | (refine ap9T 58 hO ?_; clear hO; intro g58 c58 wv hO) | (refine ap9T 63 hO ?_; clear hO; intro g63 c63 wv hO) | (go_at_call 25; (with_reducible refine (h1 _ (hv.keep0 hO)).mono ?_); rintro e wv ⟨rfl, hb9⟩; replace hO := hO.call hb9; clear hb9))
  clear h1
  replace hO := hO.nilRow 3 1
  go_loopw [5, 7] (fun v q wr => ∃ k : Nat, k ≤ t.length ∧ q = .int .i64 k ∧ Own [] w [] [⟨v, k, ints (upTo k), 3, 1⟩] (roS (.slice a t.length c) (cellsR t)) wr) (fun _ q _ => t.length - (intOf q).toNat)
  case atStart => exact ⟨0, by omega, rfl, hO⟩
  case round =>
   clear hO
   obtain ⟨k, hk, rfl, hO⟩ := hrel
   have s1 : IntKind.i64.wrap ((k : Int) + 1) = (k : Int) + 1 := IntWalk.i64_in _ (by omega)
   by_cases hlt : k < t.length
   ·have hy := upTo_succ k
    go_wp2_with (first | refine ldNT ?_ | ((first | refine stNT hO ?_ | refine st1NT hO ?_); clear hO; intro wv hO) | (refine bl9T 22 hO ?_; clear hO; intro n22 wv hO) | (refine bl9T 49 hO ?_; clear hO; intro n49 wv hO) | (refine ap9T 23 hO ?_; clear hO; intro g23 c23 wv hO) | (refine ap9T 26 hO ?_; clear hO; intro g26 c26 wv hO) | (refine ap9T 50 hO ?_; clear hO; intro g50 c50 wv hO) | (refine ap9T 58 hO ?_; clear hO; intro g58 c58 wv hO) | (refine ap9T 63 hO ?_; clear hO; intro g63 c63 wv hO) | ((with_reducible refine is_build ?_); (refine' own_buildP (o := ⟨some 22, _, _, _, _, _⟩) [.int .i64 k] hO (by rfl) rfl slice_Ints rfl rfl (by rfl) (by decide) (by decide) ?_); clear hO; intro n22 wv hO) | ((with_reducible refine is_append ?_); (refine own_append (o := ⟨some 23, _, _, _, _, _⟩) hO rfl rfl slice_Ints rfl rfl (by (repeat (first | exact List.mem_cons_self | refine List.mem_cons_of_mem _ ?_))) rfl (by omega) rfl (fun _ _ => by repeat (first | exact UpdR.here | apply UpdR.there)) (by first | omega | (simp; omega)) (by unfold maxLen; first | omega | (simp; omega)) ?_); clear hO; intro g23 c23 wv hO))
    go_roundw
    case rel =>
     refine ⟨k + 1, by omega, by go_num, ?_⟩
     rw [hy, ints_app]
     exact hO.sub (.cons _ (.refl _)) (.refl _) (fun _ h => h)
    case measure => simp [intOf]; omega
   ·obtain rfl : k = t.length := by omega
    have hf5 : FormC u5 t.length := isCells_form (hO.rowIs List.mem_cons_self)
    replace hO := hO.rowRoX
    go_wp2_with (first | refine ldNT ?_ | ((first | refine stNT hO ?_ | refine st1NT hO ?_); clear hO; intro wv hO) | (refine bl9T 22 hO ?_; clear hO; intro n22 wv hO) | (refine bl9T 49 hO ?_; clear hO; intro n49 wv hO) | (refine ap9T 23 hO ?_; clear hO; intro g23 c23 wv hO) | (refine ap9T 26 hO ?_; clear hO; intro g26 c26 wv hO) | (refine ap9T 50 hO ?_; clear hO; intro g50 c50 wv hO) | (refine ap9T 58 hO ?_; clear hO; intro g58 c58 wv hO) | (refine ap9T 63 hO ?_; clear hO; intro g63 c63 wv hO) | ((with_reducible refine is_build ?_); (refine own_build0 (o := ⟨some 24, _, _, _, _, _⟩) hO (by rfl) rfl slice_Table ?_); clear hO; intro n24 wv hO) | ((with_reducible refine is_append ?_); (refine own_appendA (o := ⟨some 26, _, _, _, _, _⟩) hO rfl rfl slice_Table rfl rfl (src_table (hv.keep0 hO) (m := t.length) (Nat.le_refl _)) (cellsR_one' _) (fun _ => by repeat (first | exact UpdR.here | apply UpdR.there)) (by first | omega | (simp; omega)) (by unfold maxLen; first | omega | (simp; omega)) ?_); clear hO; intro g26 c26 wv hO; (try simp only [Nat.zero_add, List.nil_append] at hO)))
    rw [List.take_length] at hO
    have hf0 := (own_table hO List.mem_cons_self).form
    have hn0 := own_new hO List.mem_cons_self
    replace hO := hO.rowRoX.nilRow 3 1
    go_loopw [0, 5, 6, 8] (fun v0 v5 v6 q wr => ∃ (u : List Rul) (ix rm : List Int) (i : Nat), i ≤ u.length ∧ Hid (ix.length = u.length) ∧ Hid (rm.length + u.length = t.length) ∧ q = .int .i64 i ∧ Hid (clF u ix rm i = clF t (upTo t.length) [] 0) ∧ okT u ∧ Hid (validT u = true) ∧ FormR v0 u ∧ Hid (NewFrom w v0) ∧ FormC v5 ix.length ∧ Own [] w [] [⟨v6, rm.length, ints rm, 3, 1⟩] (roS v5 (ints ix) ++ roS v0 (cellsR u)) wr) (fun v0 _ _ q _ => lenV v0 * 100 + (lenV v0 - (intOf q).toNat))
    case atStart => exact ⟨t, upTo t.length, [], 0, by omega, Lib.hid (upTo_length _), Lib.hid (by simp), rfl, Lib.hid rfl, kt, Lib.hid hV, by simpa using hf0, Lib.hid (by simpa using hn0), by rw [upTo_length]; exact hf5, hO.sub (.refl _) (.refl _) (fun q hq => by simp only [List.mem_append] at hq ⊢; grind)⟩
    case round =>
     clear hO hf0 hn0 hf5
     obtain ⟨u, ix, rm, i, hi, HX, HRM, rfl, HC, ku, HV, hf0, HN, hf5, hO⟩ := hrel
     have nrm : rm.length ≤ 20 := by have := HRM.out; omega
     have nix : ix.length ≤ 20 := by have := HX.out; have := HRM.out; omega
     have nu : u.length ≤ 20 := by have := HRM.out; omega
     have s1 : IntKind.i64.wrap ((i : Int) + 1) = (i : Int) + 1 := IntWalk.i64_in _ (by omega)
     obtain ⟨a0, c0, rfl, ha0⟩ := hf0.view
     obtain ⟨a5, c5, rfl, ha5⟩ := hf5.view
     by_cases hlt : i < u.length
     ·have h2 : ∀ w, IsTable w (.slice a0 u.length c0) u → Calls Tryz.prog 12 #[.slice a0 u.length c0, .int .i64 i] w fun e w' => e = .returned (.tuple #[.bool (stB (stF u i)), .int .i64 (stE (stF u i))]) ∧ Below w.heap.size w w' := fun w hv => by
       have h := rRemovable_any (i := (i : Int)) w hv ku (by omega)
       rw [rmP_at HV.out hlt] at h
       exact h
      cases hs : stF u i with
      | none =>
       rw [hs] at h2
       have HR := Lib.hid (clR_none hV (HC.out.symm.trans (clF_none hlt hs)))
       clear hs HC
       go_wp2_with (first | refine ldNT ?_ | ((first | refine stNT hO ?_ | refine st1NT hO ?_); clear hO; intro wv hO) | (refine bl9T 22 hO ?_; clear hO; intro n22 wv hO) | (refine bl9T 49 hO ?_; clear hO; intro n49 wv hO) | (refine ap9T 23 hO ?_; clear hO; intro g23 c23 wv hO) | (refine ap9T 26 hO ?_; clear hO; intro g26 c26 wv hO) | (refine ap9T 50 hO ?_; clear hO; intro g50 c50 wv hO) | (refine ap9T 58 hO ?_; clear hO; intro g58 c58 wv hO) | (refine ap9T 63 hO ?_; clear hO; intro g63 c63 wv hO) | (go_at_call 12; (with_reducible refine (h2 _ (hO.isRm hf0)).mono ?_); rintro e wv ⟨rfl, hb9⟩; replace hO := hO.call hb9; clear hb9))
       go_ret3
       rw [HR.out]
       exact ⟨_, _, rfl, table_nil _, new_nilS _, nums_nil _, new_nilS _, hO.keep.below⟩
      | some x =>
       obtain ⟨e, b⟩ := x
       rw [hs] at h2
       cases b with
       | false =>
        have HC2 := Lib.hid ((clF_go hlt hs).symm.trans HC.out)
        clear hs HC
        go_wp2_with (first | refine ldNT ?_ | ((first | refine stNT hO ?_ | refine st1NT hO ?_); clear hO; intro wv hO) | (refine bl9T 22 hO ?_; clear hO; intro n22 wv hO) | (refine bl9T 49 hO ?_; clear hO; intro n49 wv hO) | (refine ap9T 23 hO ?_; clear hO; intro g23 c23 wv hO) | (refine ap9T 26 hO ?_; clear hO; intro g26 c26 wv hO) | (refine ap9T 50 hO ?_; clear hO; intro g50 c50 wv hO) | (refine ap9T 58 hO ?_; clear hO; intro g58 c58 wv hO) | (refine ap9T 63 hO ?_; clear hO; intro g63 c63 wv hO) | (go_at_call 12; (with_reducible refine (h2 _ (hO.isRm hf0)).mono ?_); rintro e wv ⟨rfl, hb9⟩; replace hO := hO.call hb9; clear hb9))
        go_roundw
        case rel => exact ⟨u, ix, rm, i + 1, by omega, HX, HRM, by go_num, HC2, ku, HV, hf0, HN, hf5, hO⟩
        case measure => simp [intOf, lenV]; omega
       | true =>
        have HC2 := (clF_rm (ix := ix) (rm := rm) hlt hs).symm.trans HC.out
        clear hs HC
        have hii : i < ix.length := by have := HX.out; omega
        rw [getD_at hii] at HC2
        have h3 : ∀ w, IsTable w (.slice a0 u.length c0) u → Calls Tryz.prog 28 #[.slice a0 u.length c0, .int .i64 i] w (RetTable w (woF u i)) := fun w hv => rWithout_any w hv hlt (by omega)
        have HWL := Lib.hid (woF_length hlt)
        have HWI := Lib.hid (woF_length hii)
        have HV2 := Lib.hid (validT_wo HV.out i)
        have ku2 := okT_wo ku i
        have c1 := ints_get hii
        have E := Lib.hid (ints_wo ix i (ix.length - (i + 1)) (by omega))
        obtain ⟨g5, o5, rfl⟩ := ha5 (by omega)
        obtain ⟨g0, o0, rfl⟩ := ha0 (by omega)
        replace hO := hO.sub (S' := ⟨g5, o5, ints ix⟩ :: roS (.slice (some ⟨g0, o0, none⟩) u.length c0) (cellsR u)) (.refl _) (.refl _) (fun q hq => hq)
        generalize ix[i] = z at *
        generalize woF u i = u2 at *
        have hcap5 : ix.length ≤ c5 := by
         rcases hf5 with ⟨h9, _⟩ | ⟨_, _, _, h9, h8⟩
         ·cases h9
         ·cases h9; exact h8
        go_wp2_with (first | refine ldNT ?_ | ((first | refine stNT hO ?_ | refine st1NT hO ?_); clear hO; intro wv hO) | (refine bl9T 22 hO ?_; clear hO; intro n22 wv hO) | (refine bl9T 49 hO ?_; clear hO; intro n49 wv hO) | (refine ap9T 23 hO ?_; clear hO; intro g23 c23 wv hO) | (refine ap9T 26 hO ?_; clear hO; intro g26 c26 wv hO) | (refine ap9T 50 hO ?_; clear hO; intro g50 c50 wv hO) | (refine ap9T 58 hO ?_; clear hO; intro g58 c58 wv hO) | (refine ap9T 63 hO ?_; clear hO; intro g63 c63 wv hO) | (go_at_call 12; (with_reducible refine (h2 _ (hO.isRm hf0)).mono ?_); rintro e wv ⟨rfl, hb9⟩; replace hO := hO.call hb9; clear hb9) | ((with_reducible refine is_build ?_); (refine' own_buildP (o := ⟨some 49, _, _, _, _, _⟩) [.int .i64 z] hO (by rfl) rfl slice_Ints rfl rfl (by rfl) (by decide) (by decide) ?_); clear hO; intro n49 wv hO) | ((with_reducible refine is_append ?_); (refine own_append (o := ⟨some 50, _, _, _, _, _⟩) hO rfl rfl slice_Ints rfl rfl (by (repeat (first | exact List.mem_cons_self | refine List.mem_cons_of_mem _ ?_))) rfl (by omega) rfl (fun _ _ => by repeat (first | exact UpdR.here | apply UpdR.there)) (by first | omega | (simp; omega)) (by unfold maxLen; first | omega | (simp; omega)) ?_); clear hO; intro g50 c50 wv hO) | (go_at_call 28; (with_reducible refine (h3 _ (hO.isRm hf0)).mono ?_); rintro e wv ⟨v7, rfl, ⟨hv9, hn9⟩, hb9⟩; have hf7 := hv9.form; have HLV := Lib.hid (lenV_form hv9.form); have hn7 : NewFrom w v7 := (fun g hg => Nat.le_trans hO.keep.size (hn9 g hg)); replace hO := hO.gainR hb9 hv9 hn9; clear hb9 hv9 hn9 h3))
        have hfi : ∀ {X : List Chunk} {R : List Row} {wr : World}, Own [] w X R (roS v7 (cellsR u2) ++ (⟨g5, o5, ints ix⟩ :: roS (.slice (some ⟨g0, o0, none⟩) u.length c0) (cellsR u))) wr → IsNums wr (.slice (some ⟨g5, o5, none⟩) ix.length c5) ix := fun h => h.isNums (.inr ⟨_, _, _, rfl, hcap5⟩) (fun s hs => List.mem_append_right _ (by obtain rfl := List.mem_singleton.1 hs; exact List.mem_cons_self))
        (try simp only [Act.put]); (try simp only [sI9, sZ9, sS9])
        refine wp_region_any (by kernel_rfl) ?_
        replace hO := hO.drew
        have ix9 := Ix.mk [1, 2, 3, 5, 6, 7, 8]
        iterate 7 (refine wpAny_tk ix9 ?_; replace ix9 := ix9.tail; (first | go_big_quiet_skip | (go_big_quiet_want; (go_big_quiet_op; (first | go_big_quiet_on | ((refine ⟨_, fun _ _ => rfl, ?_⟩); go_big_quiet_on))))); (refine wpQuiet_nil ?_); (try simp only [Act.put]); (try simp only [sI9, sZ9, sS9]))
        clear ix9
        refine wpAny_1 0 ?_
        rotate_left 1
        all_goals
         refine wpOp_of_listL rfl ?_
         (first | refine ldNT ?_ | ((first | refine stNT hO ?_ | refine st1NT hO ?_); clear hO; intro wv hO) | (refine ap9T 58 hO ?_; clear hO; intro g58 c58 wv hO) | (refine ap9T 63 hO ?_; clear hO; intro g63 c63 wv hO) | ((with_reducible refine is_build ?_); (refine own_build0 (o := ⟨some 54, _, _, _, _, _⟩) hO (by rfl) rfl slice_Ints ?_); clear hO; intro n54 wv hO) | ((with_reducible refine is_append ?_); (refine own_appendA (o := ⟨some 58, _, _, _, _, _⟩) hO rfl rfl slice_Ints rfl rfl (src_numsT (hfi hO) (m := i) (by omega)) (ints_one _) (fun _ => by repeat (first | exact UpdR.here | apply UpdR.there)) (by first | omega | (simp; omega)) (by unfold maxLen; first | omega | (simp; omega)) ?_); clear hO; intro g58 c58 wv hO) | ((with_reducible refine is_append ?_); (refine own_appendA (o := ⟨some 63, _, _, _, _, _⟩) hO rfl rfl slice_Ints rfl rfl (src_numsD (hfi hO) (m := ix.length - (i + 1)) (i := i + 1) (by omega)) (ints_one _) (fun _ => by repeat (first | exact UpdR.here | apply UpdR.there)) (by first | omega | (simp; omega)) (by unfold maxLen; first | omega | (simp; omega)) ?_); clear hO; intro g63 c63 wv hO) | ((refine wpList_step (fun K hK => ?_)); go_simp; (first | ((refine hK _ _ ?_); clear hK K)))); (try simp only [Act.put]); (try simp only [sI9, sZ9, sS9])
         refine wpList_done (qk_intro ?_)
        refine wpAny_1 4 ?_
        rotate_left 1
        all_goals
         refine wpOp_of_listL rfl ?_
         (first | refine ldNT ?_ | ((first | refine stNT hO ?_ | refine st1NT hO ?_); clear hO; intro wv hO) | (refine ap9T 58 hO ?_; clear hO; intro g58 c58 wv hO) | (refine ap9T 63 hO ?_; clear hO; intro g63 c63 wv hO) | ((with_reducible refine is_build ?_); (refine own_build0 (o := ⟨some 54, _, _, _, _, _⟩) hO (by rfl) rfl slice_Ints ?_); clear hO; intro n54 wv hO) | ((with_reducible refine is_append ?_); (refine own_appendA (o := ⟨some 58, _, _, _, _, _⟩) hO rfl rfl slice_Ints rfl rfl (src_numsT (hfi hO) (m := i) (by omega)) (ints_one _) (fun _ => by repeat (first | exact UpdR.here | apply UpdR.there)) (by first | omega | (simp; omega)) (by unfold maxLen; first | omega | (simp; omega)) ?_); clear hO; intro g58 c58 wv hO) | ((with_reducible refine is_append ?_); (refine own_appendA (o := ⟨some 63, _, _, _, _, _⟩) hO rfl rfl slice_Ints rfl rfl (src_numsD (hfi hO) (m := ix.length - (i + 1)) (i := i + 1) (by omega)) (ints_one _) (fun _ => by repeat (first | exact UpdR.here | apply UpdR.there)) (by first | omega | (simp; omega)) (by unfold maxLen; first | omega | (simp; omega)) ?_); clear hO; intro g63 c63 wv hO) | ((refine wpList_step (fun K hK => ?_)); go_simp; (first | ((refine hK _ _ ?_); clear hK K)))); (try simp only [Act.put]); (try simp only [sI9, sZ9, sS9])
         refine wpList_done (qk_intro ?_)
        refine wpAny_1 9 ?_
        rotate_left 1
        all_goals
         refine wpOp_of_listL rfl ?_
         (first | refine ldNT ?_ | ((first | refine stNT hO ?_ | refine st1NT hO ?_); clear hO; intro wv hO) | (refine ap9T 58 hO ?_; clear hO; intro g58 c58 wv hO) | (refine ap9T 63 hO ?_; clear hO; intro g63 c63 wv hO) | ((with_reducible refine is_build ?_); (refine own_build0 (o := ⟨some 54, _, _, _, _, _⟩) hO (by rfl) rfl slice_Ints ?_); clear hO; intro n54 wv hO) | ((with_reducible refine is_append ?_); (refine own_appendA (o := ⟨some 58, _, _, _, _, _⟩) hO rfl rfl slice_Ints rfl rfl (src_numsT (hfi hO) (m := i) (by omega)) (ints_one _) (fun _ => by repeat (first | exact UpdR.here | apply UpdR.there)) (by first | omega | (simp; omega)) (by unfold maxLen; first | omega | (simp; omega)) ?_); clear hO; intro g58 c58 wv hO) | ((with_reducible refine is_append ?_); (refine own_appendA (o := ⟨some 63, _, _, _, _, _⟩) hO rfl rfl slice_Ints rfl rfl (src_numsD (hfi hO) (m := ix.length - (i + 1)) (i := i + 1) (by omega)) (ints_one _) (fun _ => by repeat (first | exact UpdR.here | apply UpdR.there)) (by first | omega | (simp; omega)) (by unfold maxLen; first | omega | (simp; omega)) ?_); clear hO; intro g63 c63 wv hO) | ((refine wpList_step (fun K hK => ?_)); go_simp; (first | ((refine hK _ _ ?_); clear hK K)))); (try simp only [Act.put]); (try simp only [sI9, sZ9, sS9])
         refine wpList_done (qk_intro ?_)
        refine wpAny_1 10 ?_
        rotate_left 1
        all_goals
         refine wpOp_of_listL rfl ?_
         (first | refine ldNT ?_ | ((first | refine stNT hO ?_ | refine st1NT hO ?_); clear hO; intro wv hO) | (refine ap9T 58 hO ?_; clear hO; intro g58 c58 wv hO) | (refine ap9T 63 hO ?_; clear hO; intro g63 c63 wv hO) | ((with_reducible refine is_build ?_); (refine own_build0 (o := ⟨some 54, _, _, _, _, _⟩) hO (by rfl) rfl slice_Ints ?_); clear hO; intro n54 wv hO) | ((with_reducible refine is_append ?_); (refine own_appendA (o := ⟨some 58, _, _, _, _, _⟩) hO rfl rfl slice_Ints rfl rfl (src_numsT (hfi hO) (m := i) (by omega)) (ints_one _) (fun _ => by repeat (first | exact UpdR.here | apply UpdR.there)) (by first | omega | (simp; omega)) (by unfold maxLen; first | omega | (simp; omega)) ?_); clear hO; intro g58 c58 wv hO) | ((with_reducible refine is_append ?_); (refine own_appendA (o := ⟨some 63, _, _, _, _, _⟩) hO rfl rfl slice_Ints rfl rfl (src_numsD (hfi hO) (m := ix.length - (i + 1)) (i := i + 1) (by omega)) (ints_one _) (fun _ => by repeat (first | exact UpdR.here | apply UpdR.there)) (by first | omega | (simp; omega)) (by unfold maxLen; first | omega | (simp; omega)) ?_); clear hO; intro g63 c63 wv hO) | ((refine wpList_step (fun K hK => ?_)); go_simp; (first | ((refine hK _ _ ?_); clear hK K)))); (try simp only [Act.put]); (try simp only [sI9, sZ9, sS9])
         refine wpList_done (qk_intro ?_)
        refine wpAny_done (by kernel_rfl) ?_ _
        rotate_left
        all_goals go_wp2_with fail
        all_goals
         simp only [Nat.zero_add, List.nil_append] at hO
         rw [E.out] at hO
         have hf9 : FormC _ (woF ix i).length := isCells_form (hO.rowNums (by rw [HWI.out]; omega) List.mem_cons_self)
         go_roundw
         case rel =>
          refine ⟨u2, woF ix i, rm ++ [z], 0, by omega, Lib.hid (by rw [HWI.out, HWL.out, HX.out]), Lib.hid (by rw [HWL.out, List.length_append]; have := HRM.out; simp; omega), rfl, Lib.hid HC2, ku2, HV2, hf7, Lib.hid hn7, hf9, ?_⟩
          rw [List.length_append, ints_app]
          exact hO.rowRoX.sub (.cons _ (.refl _)) (.refl _) (fun q hq => by simp only [List.mem_append] at hq ⊢; grind)
         case measure => rw [HLV.out]; simp only [intOf, lenV]; have := HWL.out; simp; omega
     ·obtain rfl : i = u.length := by omega
      have HR := Lib.hid (clR_some hV (HC.out.symm.trans (clF_end (by omega))))
      go_wp2_with (first | refine ldNT ?_ | ((first | refine stNT hO ?_ | refine st1NT hO ?_); clear hO; intro wv hO) | (refine bl9T 22 hO ?_; clear hO; intro n22 wv hO) | (refine bl9T 49 hO ?_; clear hO; intro n49 wv hO) | (refine ap9T 23 hO ?_; clear hO; intro g23 c23 wv hO) | (refine ap9T 26 hO ?_; clear hO; intro g26 c26 wv hO) | (refine ap9T 50 hO ?_; clear hO; intro g50 c50 wv hO) | (refine ap9T 58 hO ?_; clear hO; intro g58 c58 wv hO) | (refine ap9T 63 hO ?_; clear hO; intro g63 c63 wv hO))
      go_ret3
      rw [HR.out]
      exact ⟨_, _, rfl, hO.isR hf0 (by intro q hq; repeat (first | exact hq | exact List.mem_append_left _ hq | apply List.mem_append_right | apply List.mem_cons_of_mem)), HN.out, hO.rowNums rfl List.mem_cons_self, own_new hO List.mem_cons_self, hO.keep.below⟩
end Go.Proofs.YtjoionnnpjajmaaGreatDoor
