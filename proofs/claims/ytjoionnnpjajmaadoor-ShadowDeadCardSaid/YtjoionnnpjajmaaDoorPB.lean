/- Package shadow: without, meet, common, state, Removable. -/
import Derived.Test.YtjoionnnpjajmaaDoorPA
import Derived.Test.YtjoionnnpjajmaaDoorOC
import Derived.Test.YtjoionnnpjajmaaDoorME
import Derived.Test.YtjoionnnpjajmaaDoorMA
namespace Go.Proofs.YtjoionnnpjajmaaDoor
open Go.RowKit
set_option maxRecDepth 100000
theorem wo_cells (t : List Rul) (i m : Nat) (h : i + 1 + m = t.length) : cellsR (t.take i) ++ cellsR ((t.drop (i + 1)).take m) = cellsR (woF t i) := by
 unfold woF
 rw [cellsR_append, List.take_of_length_le (l := t.drop (i + 1)) (by simp; omega)]
set_option maxHeartbeats 4000000 in
theorem swithout_any {vt : Value} {t : List Rul} {i : Nat} (w : World) (hv : IsTable w vt t) (hi : i < t.length) (hl : t.length ≤ 1000000000000) :
  Calls Tryd.prog 25 #[vt, .int .i64 i] w (RetTable w (woF t i)) := by
 have hO := own_argR hv
 obtain ⟨a, c, rfl, ha⟩ := hv.view
 have hcap := hv.cap
 obtain ⟨g, o, rfl⟩ := ha (by omega)
 have s1 : IntKind.i64.wrap ((i : Int) + 1) = (i : Int) + 1 := IntWalk.i64_in _ (by omega)
 clear ha
 have E := Lib.hid (wo_cells t i (t.length - (i + 1)) (by omega))
 replace hO := hO.nilRow 42 11
 go_enter Tryd.func25, Tryd.ntmps25
 go_wp2_with (first | refine ldNT ?_ | ((first | refine stNT hO ?_ | refine st1NT hO ?_); clear hO; intro wv hO) | (refine ap9T 9 hO ?_; clear hO; intro g9 c9 wv hO) | (refine ap9T 15 hO ?_; clear hO; intro g15 c15 wv hO) | ((with_reducible refine is_append ?_); (refine own_appendA (o := ⟨some 9, _, _, _, _, _⟩) hO rfl rfl slice_Table rfl rfl (src_table (hv.keep0 hO) (m := i) (by omega)) (cellsR_one' _) (fun _ => by repeat (first | exact UpdR.here | apply UpdR.there)) (by first | omega | (simp; omega)) (by unfold maxLen; first | omega | (simp; omega)) ?_); clear hO; intro g9 c9 wv hO; (try simp only [Nat.zero_add, List.nil_append] at hO)) | ((with_reducible refine is_append ?_); (refine own_appendA (o := ⟨some 15, _, _, _, _, _⟩) hO rfl rfl slice_Table rfl rfl (src_part (hv.keep0 hO) (i := i + 1) (n := t.length - (i + 1)) (by omega)) (cellsR_one' _) (fun _ => by repeat (first | exact UpdR.here | apply UpdR.there)) (by first | omega | (simp; omega)) (by unfold maxLen; first | omega | (simp; omega)) ?_); clear hO; intro g15 c15 wv hO))
 all_goals
  go_ret
  rw [E.out] at hO
  exact ⟨_, rfl, ⟨own_table hO List.mem_cons_self, own_new hO List.mem_cons_self⟩, hO.keep.below⟩
set_option maxHeartbeats 1000000 in
theorem smeet_any (a b : Bx) (w : World) (ht : Tops w) : Calls Tryd.prog 48 #[bv a, bv b] w fun e w' => e = .returned (.bool (meetB a b)) ∧ Below w.heap.size w w' := by
 have hO := own_start [] w
 have h1 := intersect_any a b
 unfold meetB
 generalize interB a b = p at *
 go_enter Tryd.func48, Tryd.ntmps48
 go_wp2_with (first | refine ldNT ?_ | ((first | refine stNT hO ?_ | refine st1NT hO ?_); clear hO; intro wv hO) | (refine bx9 2 hO ?_; clear hO; intro n2 wv hO) | (refine bx9 3 hO ?_; clear hO; intro n3 wv hO) | (refine al9T 5 hO ?_; clear hO; intro n5 wv hO) | (go_at_call 66; (with_reducible refine (h1 _ (hO.tops ht (by simp))).mono ?_); rintro e wv ⟨rfl, hb9⟩; replace hO := hO.call hb9; clear hb9))
 go_ret
 exact ⟨rfl, hO.keep.below⟩
theorem commonF_here {a b : List Bx} {j k : Nat} (hj : j < a.length) (hk : k < b.length) (h : meetB a[j] b[k] = true) : commonF a b = true :=
 List.any_eq_true.2 ⟨_, List.getElem_mem hj, List.any_eq_true.2 ⟨_, List.getElem_mem hk, h⟩⟩
theorem any_takeH {α : Type} {p : α → Bool} {l : List α} {k : Nat} (h : k < l.length) (h1 : (l.take k).any p = false) (h2 : p l[k] = false) : (l.take (k + 1)).any p = false := by
 rw [List.take_succ_eq_append_getElem h, List.any_append, h1, List.any_cons, h2]; rfl
theorem commonF_take {a b : List Bx} {j : Nat} (hj : j < a.length) (h1 : commonF (a.take j) b = false) (h2 : (b.take b.length).any (meetB a[j]) = false) : commonF (a.take (j + 1)) b = false := by
 rw [List.take_length] at h2
 exact any_takeH (p := fun x => b.any (meetB x)) hj h1 h2
set_option maxHeartbeats 8000000 in
theorem scommon_any {va vb : Value} {la lb : List Bx} (w : World) (ht : Tops w) (hva : IsBoxes w va la) (hvb : IsBoxes w vb lb) (na : la.length ≤ 1000000000000) (nb : lb.length ≤ 1000000000000) :
  Calls Tryd.prog 49 #[va, vb] w fun e w' => e = .returned (.bool (commonF la lb)) ∧ Below w.heap.size w w' := by
 have hO := roS_arg2 hva hvb
 obtain ⟨a, c, rfl, ha⟩ := hva.view
 obtain ⟨b, d, rfl, hb⟩ := hvb.view
 clear hva hvb
 go_enter Tryd.func49, Tryd.ntmps49
 go_wp2_with (first | refine ldNT ?_ | ((first | refine stNT hO ?_ | refine st1NT hO ?_); clear hO; intro wv hO) | (refine al9T 6 hO ?_; clear hO; intro n6 wv hO) | (refine al9T 8 hO ?_; clear hO; intro n8 wv hO))
 go_loopw [11] (fun q wr => ∃ k : Nat, k ≤ la.length ∧ q = .int .i64 k ∧ commonF (la.take k) lb = false ∧ Own [] w [] [] (roS (.slice a la.length c) (cellsB la) ++ roS (.slice b lb.length d) (cellsB lb)) wr) (fun q _ => la.length - (intOf q).toNat)
 case atStart => exact ⟨0, by omega, rfl, rfl, hO⟩
 case round =>
  clear hO
  obtain ⟨k, hk, rfl, hE, hO⟩ := hrel
  by_cases hlt : k < la.length
  ·obtain ⟨g, o, rfl⟩ := ha (by omega)
   replace hO := hO.sub (S' := ⟨g, o, cellsB la⟩ :: roS (.slice b lb.length d) (cellsB lb)) (.refl _) (.refl _) (fun q hq => hq)
   have t1 := tk_box la hlt
   have HH := Lib.hid (fun (j : Nat) (hj : j < lb.length) (h : meetB la[k] lb[j] = true) => commonF_here hlt hj h)
   have HT := Lib.hid (commonF_take (b := lb) hlt hE)
   have HE := Lib.hid hE
   clear hE
   generalize la[k] = x at *
   go_wp2_with (first | refine ldNT ?_ | ((first | refine stNT hO ?_ | refine st1NT hO ?_); clear hO; intro wv hO) | (refine al9T 6 hO ?_; clear hO; intro n6 wv hO) | (refine al9T 8 hO ?_; clear hO; intro n8 wv hO))
   go_loopw [17] (fun q wr => ∃ j : Nat, j ≤ lb.length ∧ q = .int .i64 j ∧ (lb.take j).any (meetB x) = false ∧ Own [] w [⟨n6, bcs x, 40⟩] [] (⟨g, o, cellsB la⟩ :: roS (.slice b lb.length d) (cellsB lb)) wr) (fun q _ => lb.length - (intOf q).toNat)
   case atStart => exact ⟨0, by omega, rfl, rfl, hO⟩
   case round =>
    clear hO
    obtain ⟨j, hj, rfl, hF, hO⟩ := hrel
    by_cases hjl : j < lb.length
    ·obtain ⟨g2, o2, rfl⟩ := hb (by omega)
     replace hO := hO.sub (S' := [⟨g2, o2, cellsB lb⟩, ⟨g, o, cellsB la⟩]) (.refl _) (.refl _) (fun q hq => by simp [roS] at hq ⊢; exact hq.symm)
     have t2 := tk_box lb hjl
     have HH2 := Lib.hid (HH.out j hjl)
     have HT2 := Lib.hid (any_takeH (p := meetB x) hjl hF)
     clear hF t1
     generalize lb[j] = y at *
     have h1 := smeet_any x y
     generalize meetB x y = m at *
     cases m
     ·go_wp2_with (first | refine ldNT ?_ | ((first | refine stNT hO ?_ | refine st1NT hO ?_); clear hO; intro wv hO) | (refine al9T 6 hO ?_; clear hO; intro n6 wv hO) | (refine al9T 8 hO ?_; clear hO; intro n8 wv hO) | (go_at_call 48; (with_reducible refine (h1 _ (hO.tops ht (by simp))).mono ?_); rintro e wv ⟨rfl, hb9⟩; replace hO := hO.call hb9; clear hb9))
      go_roundw
      case rel => exact ⟨j + 1, by omega, by go_num, HT2.out (by trivial), hO.sub (.cons _ (.refl _)) (.refl _) (fun q hq => by simp [roS] at hq ⊢; exact hq.symm)⟩
      case measure => simp [intOf]; omega
     ·go_wp2_with (first | refine ldNT ?_ | ((first | refine stNT hO ?_ | refine st1NT hO ?_); clear hO; intro wv hO) | (refine al9T 6 hO ?_; clear hO; intro n6 wv hO) | (refine al9T 8 hO ?_; clear hO; intro n8 wv hO) | (go_at_call 48; (with_reducible refine (h1 _ (hO.tops ht (by simp))).mono ?_); rintro e wv ⟨rfl, hb9⟩; replace hO := hO.call hb9; clear hb9))
      go_ret
      exact ⟨by rw [HH2.out (by trivial)]; rfl, hO.keep.below⟩
    ·obtain rfl : j = lb.length := by omega
     have HT3 := Lib.hid (HT.out hF)
     clear hF
     go_wp2_with (first | refine ldNT ?_ | ((first | refine stNT hO ?_ | refine st1NT hO ?_); clear hO; intro wv hO) | (refine al9T 6 hO ?_; clear hO; intro n6 wv hO) | (refine al9T 8 hO ?_; clear hO; intro n8 wv hO))
     go_roundw
     case rel => exact ⟨k + 1, by omega, by go_num, HT3.out, hO.sub (.cons _ (.refl _)) (.refl _) (fun q hq => by simpa [roS] using hq)⟩
     case measure => simp [intOf]; omega
  ·obtain rfl : k = la.length := by omega
   rw [List.take_length] at hE
   have HE := Lib.hid hE
   clear hE
   go_wp2_with (first | refine ldNT ?_ | ((first | refine stNT hO ?_ | refine st1NT hO ?_); clear hO; intro wv hO) | (refine al9T 6 hO ?_; clear hO; intro n6 wv hO) | (refine al9T 8 hO ?_; clear hO; intro n8 wv hO))
   go_ret
   exact ⟨by rw [HE.out]; rfl, hO.keep.below⟩
set_option maxHeartbeats 2000000 in
theorem bsameS_any {va vb : Value} {l m : List Bx} (w : World) (ha : IsBoxes w va l) (hb : IsBoxes w vb m) (hl : l.length ≤ 1000000000000) :
  Calls Tryd.prog 43 #[va, vb] w fun e w' => e = .returned (.bool (decide (l = m))) ∧ Below w.heap.size w w' := by
 have hO := roS_arg2 ha hb
 obtain ⟨a, c, rfl, ha'⟩ := ha.view
 obtain ⟨b, d, rfl, hb'⟩ := hb.view
 clear ha hb
 by_cases hlen : l.length = m.length
 ·have g0 : ((l.length : Int) != (m.length : Int)) = false := by simp [hlen]
  go_enter Tryd.func43, Tryd.ntmps43
  go_wp2_with (first | refine ldNT ?_ | ((first | refine stNT hO ?_ | refine st1NT hO ?_); clear hO; intro wv hO))
  go_loopw [13] (fun i wr => ∃ k : Nat, k ≤ l.length ∧ i = .int .i64 k ∧ l.take k = m.take k ∧ Own [] w [] [] (roS (.slice a l.length c) (cellsB l) ++ roS (.slice b m.length d) (cellsB m)) wr) (fun i _ => l.length - (intOf i).toNat)
  case atStart => exact ⟨0, by omega, rfl, rfl, hO⟩
  case round =>
   clear hO
   obtain ⟨k, hk, rfl, hE, hO⟩ := hrel
   by_cases hlt : k < l.length
   ·obtain ⟨g, o, rfl⟩ := ha' (by omega)
    obtain ⟨g', o', rfl⟩ := hb' (by omega)
    simp only [roS, List.cons_append, List.nil_append] at hO
    have hlt' : k < m.length := by omega
    have t1 := tk_box l hlt
    have t2 := tk_box m hlt'
    have HT := Lib.hid (show l.take (k + 1) = l.take k ++ [l[k]] from List.take_succ_eq_append_getElem hlt)
    have HU := Lib.hid (show m.take (k + 1) = m.take k ++ [m[k]] from List.take_succ_eq_append_getElem hlt')
    have HN := Lib.hid (take_succ_ne hlt hlt')
    have y1 : (k : Int) < m.length := by omega
    generalize l[k] = x at *
    generalize m[k] = y at *
    by_cases hxy : x = y
    ·have g1 : decide (x = y) = true := decide_eq_true hxy
     go_wp2_with (first | refine ldNT ?_ | ((first | refine stNT hO ?_ | refine st1NT hO ?_); clear hO; intro wv hO))
     (try simp only [Act.put]); (refine own_quiet hO (by kernel_rfl) (by kernel_rfl) ?_; clear hO; (repeat (first | go_big_quiet_skip | (go_big_quiet_want; (first | ((with_reducible refine is_loadQ ?_); (first | (refine q_ldT (h := ?_))); (try simp only [Act.put]); (try simp only [sI9, sZ9, sS9]); go_big_quiet_on) | (go_big_quiet_op; (first | go_big_quiet_on | ((refine ⟨_, fun _ _ => rfl, ?_⟩); go_big_quiet_on) | go_big_quiet_call (fail))))))); (refine wpQuiet_nil ?_); intro wv hO)
     go_wp2_with (first | refine ldNT ?_ | ((first | refine stNT hO ?_ | refine st1NT hO ?_); clear hO; intro wv hO))
     go_roundw
     case rel => exact ⟨k + 1, by omega, by go_num, by rw [HT.out, HU.out, hE, hxy], hO⟩
     case measure => simp [intOf]; omega
    ·have g1 : decide (x = y) = false := decide_eq_false hxy
     go_wp2_with (first | refine ldNT ?_ | ((first | refine stNT hO ?_ | refine st1NT hO ?_); clear hO; intro wv hO))
     (try simp only [Act.put]); (refine own_quiet hO (by kernel_rfl) (by kernel_rfl) ?_; clear hO; (repeat (first | go_big_quiet_skip | (go_big_quiet_want; (first | ((with_reducible refine is_loadQ ?_); (first | (refine q_ldT (h := ?_))); (try simp only [Act.put]); (try simp only [sI9, sZ9, sS9]); go_big_quiet_on) | (go_big_quiet_op; (first | go_big_quiet_on | ((refine ⟨_, fun _ _ => rfl, ?_⟩); go_big_quiet_on) | go_big_quiet_call (fail))))))); (refine wpQuiet_nil ?_); intro wv hO)
     go_wp2_with (first | refine ldNT ?_ | ((first | refine stNT hO ?_ | refine st1NT hO ?_); clear hO; intro wv hO))
     go_ret
     exact ⟨by rw [decide_eq_false (HN.out hxy)]; rfl, hO.keep.below⟩
   ·have hk2 : k = l.length := by omega
    rw [hk2, List.take_length, hlen, List.take_length] at hE
    have hne := Lib.hid hE
    clear hE
    go_wp2_with (first | refine ldNT ?_ | ((first | refine stNT hO ?_ | refine st1NT hO ?_); clear hO; intro wv hO))
    go_ret
    exact ⟨by rw [decide_eq_true hne.out]; rfl, hO.keep.below⟩
 ·have g0 : ((l.length : Int) != (m.length : Int)) = true := by simp; omega
  have hne : decide (l = m) = false := decide_eq_false (fun h => hlen (by rw [h]))
  rw [hne]
  go_enter Tryd.func43, Tryd.ntmps43
  go_wp2_with (first | refine ldNT ?_ | ((first | refine stNT hO ?_ | refine st1NT hO ?_); clear hO; intro wv hO))
  go_ret
  exact ⟨rfl, hO.keep.below⟩
def stB (r : Option (List Bx × Bool)) : Bool := match r with | none => false | some x => x.2
def stE (r : Option (List Bx × Bool)) : Int := match r with | none => 3 | some _ => 0
def stL (r : Option (List Bx × Bool)) : List Bx := match r with | none => [] | some x => x.1
def StPost (w : World) (r : Option (List Bx × Bool)) (e : Ending) (w' : World) : Prop := ∃ v, e = .returned (.tuple #[v, .bool (stB r), .int .i64 (stE r)]) ∧ IsBoxes w' v (stL r) ∧ NewFrom w v ∧ Below w.heap.size w w'
theorem StPost.yes {w w' : World} {x : List Bx} {b : Bool} {e : Ending} (h : StPost w (some (x, b)) e w') : ∃ v, e = .returned (.tuple #[v, .bool b, .int .i64 0]) ∧ IsBoxes w' v x ∧ NewFrom w v ∧ Below w.heap.size w w' := h
theorem StPost.no {w w' : World} {e : Ending} (h : StPost w none e w') : ∃ v, e = .returned (.tuple #[v, .bool false, .int .i64 3]) ∧ Below w.heap.size w w' := by
 obtain ⟨v, h1, _, _, h4⟩ := h
 exact ⟨v, h1, h4⟩
theorem boxes_nil (w : World) : IsBoxes w (.slice none 0 0) [] := .inl ⟨rfl, rfl⟩
theorem new_nilS (w : World) : NewFrom w (.slice none 0 0) := fun g hg => by cases hg
theorem stF_none {t : List Rul} {i : Nat} (h : effF t i = none) : stF t i = none := by unfold stF; rw [h]
theorem stF_dead {t : List Rul} {i : Nat} (h : effF t i = some []) : stF t i = some ([], true) := by unfold stF; rw [h]; rfl
theorem stF_perm {t : List Rul} {i : Nat} {e : List Bx} (h : effF t i = some e) (h0 : e.isEmpty = false) (hp : permF t = none) : stF t i = none := by unfold stF; rw [h]; dsimp only; rw [if_neg (by rw [h0]; simp), hp]
theorem stF_wo {t : List Rul} {i : Nat} {e p : List Bx} (h : effF t i = some e) (h0 : e.isEmpty = false) (hp : permF t = some p) (hq : permF (woF t i) = none) : stF t i = none := by unfold stF; rw [h]; dsimp only; rw [if_neg (by rw [h0]; simp), hp]; dsimp only; rw [hq]
theorem stF_some {t : List Rul} {i : Nat} {e p q : List Bx} (h : effF t i = some e) (h0 : e.isEmpty = false) (hp : permF t = some p) (hq : permF (woF t i) = some q) : stF t i = some (e, decide (p = q)) := by unfold stF; rw [h]; dsimp only; rw [if_neg (by rw [h0]; simp), hp]; dsimp only; rw [hq]
set_option maxHeartbeats 16000000 in
theorem sstate_any {vt : Value} {t : List Rul} {i : Nat} (w : World) (ht : Tops w) (hv : IsTable w vt t) (kt : okT t) (hl : t.length ≤ 1000000000000) (hi : i < t.length) :
  Calls Tryd.prog 24 #[vt, .int .i64 i] w (StPost w (stF t i)) := by
 have hO := own_start [] w
 have h1 : ∀ w, Tops w → IsTable w vt t → Calls Tryd.prog 34 #[vt, .int .i64 i] w (SetPost w (effF t i)) := fun w ht hv => fEff_any w ht hv kt hl hi
 have h2 : ∀ w, Tops w → IsTable w vt t → Calls Tryd.prog 37 #[vt] w (SetPost w (permF t)) := fun w ht hv => fPermitted_any w ht hv kt hl
 have h3 : ∀ w, IsTable w vt t → Calls Tryd.prog 25 #[vt, .int .i64 i] w (RetTable w (woF t i)) := fun w hv => swithout_any w hv hi hl
 have h4 : ∀ v w, Tops w → IsTable w v (woF t i) → Calls Tryd.prog 37 #[v] w (SetPost w (permF (woF t i))) := fun v w ht hv => fPermitted_any w ht hv (okT_wo kt i) (by rw [woF_length hi]; omega)
 have hS0 := fun p hp => (permF_spec (t := t) (s := p) kt hp).1.le
 cases he : effF t i with
 | none =>
  rw [he] at h1
  rw [stF_none he]
  clear he h2 h3 h4 hS0
  go_enter Tryd.func24, Tryd.ntmps24
  go_wp2_with (first | refine ldNT ?_ | ((first | refine stNT hO ?_ | refine st1NT hO ?_); clear hO; intro wv hO) | (go_at_call 34; (with_reducible refine (h1 _ (hO.tops ht (by simp)) (hv.keep0 hO)).mono ?_); rintro e wv hpo; obtain ⟨rfl, hb9⟩ := hpo.no; replace hO := hO.call hb9; clear hb9 hpo))
  go_ret3
  exact ⟨_, rfl, boxes_nil _, new_nilS _, hO.keep.below⟩
 | some e =>
  rw [he] at h1
  cases h0 : e.isEmpty with
  | true =>
   obtain rfl : e = [] := List.isEmpty_iff.1 h0
   rw [stF_dead he]
   clear he h0 h2 h3 h4 hS0
   go_enter Tryd.func24, Tryd.ntmps24
   go_wp2_with (first | refine ldNT ?_ | ((first | refine stNT hO ?_ | refine st1NT hO ?_); clear hO; intro wv hO) | (go_at_call 34; (with_reducible refine (h1 _ (hO.tops ht (by simp)) (hv.keep0 hO)).mono ?_); rintro e wv hpo; obtain ⟨v3, rfl, hv9, hn9, hb9⟩ := hpo.yes; have hf3 := hv9.form; obtain ⟨a3, c3, rfl, -⟩ := hv9.form.view; replace hO := hO.gainB hb9 hv9 hn9; clear hb9 hpo hv9))
   go_ret3
   exact ⟨_, rfl, boxes_nil _, new_nilS _, hO.keep.below⟩
  | false =>
   have hn : 0 < e.length := List.length_pos_iff.2 (fun e => by rw [e] at h0; cases h0)
   have g3 : ((e.length : Int) == 0) = false := beq_eq_false_iff_ne.2 (by omega)
   clear hn
   cases hp : permF t with
   | none =>
    rw [hp] at h2
    rw [stF_perm he h0 hp]
    clear he h0 hp h3 h4 hS0
    go_enter Tryd.func24, Tryd.ntmps24
    go_wp2_with (first | refine ldNT ?_ | ((first | refine stNT hO ?_ | refine st1NT hO ?_); clear hO; intro wv hO) | (go_at_call 34; (with_reducible refine (h1 _ (hO.tops ht (by simp)) (hv.keep0 hO)).mono ?_); rintro e wv hpo; obtain ⟨v3, rfl, hv9, hn9, hb9⟩ := hpo.yes; have hf3 := hv9.form; obtain ⟨a3, c3, rfl, -⟩ := hv9.form.view; replace hO := hO.gainB hb9 hv9 hn9; clear hb9 hpo hv9) | (go_at_call 37; (with_reducible refine (h2 _ (hO.tops ht (by simp)) (hv.keep0 hO)).mono ?_); rintro e wv hpo; obtain ⟨rfl, hb9⟩ := hpo.no; replace hO := hO.call hb9; clear hb9 hpo))
    go_ret3
    exact ⟨_, rfl, boxes_nil _, new_nilS _, hO.keep.below⟩
   | some p =>
    rw [hp] at h2
    have np := hS0 p hp
    cases hq : permF (woF t i) with
    | none =>
     rw [hq] at h4
     rw [stF_wo he h0 hp hq]
     clear he h0 hp hq np hS0
     generalize woF t i = u at *
     go_enter Tryd.func24, Tryd.ntmps24
     go_wp2_with (first | refine ldNT ?_ | ((first | refine stNT hO ?_ | refine st1NT hO ?_); clear hO; intro wv hO) | (go_at_call 34; (with_reducible refine (h1 _ (hO.tops ht (by simp)) (hv.keep0 hO)).mono ?_); rintro e wv hpo; obtain ⟨v3, rfl, hv9, hn9, hb9⟩ := hpo.yes; have hf3 := hv9.form; obtain ⟨a3, c3, rfl, -⟩ := hv9.form.view; replace hO := hO.gainB hb9 hv9 hn9; clear hb9 hpo hv9) | (go_at_call 37; (with_reducible refine (h2 _ (hO.tops ht (by simp)) (hv.keep0 hO)).mono ?_); rintro e wv hpo; obtain ⟨v4, rfl, hv9, hn9, hb9⟩ := hpo.yes; have hf4 := hv9.form; obtain ⟨a4, c4, rfl, -⟩ := hv9.form.view; replace hO := hO.gainB hb9 hv9 hn9; clear hb9 hpo hv9; clear h2) | (go_at_call 25; (with_reducible refine (h3 _ (hv.keep0 hO)).mono ?_); rintro e wv ⟨v5, rfl, ⟨hv9, hn9⟩, hb9⟩; have hf5 := hv9.form; replace hO := hO.gainR hb9 hv9 hn9; clear hb9 hv9 h3) | (go_at_call 37; (with_reducible refine (h4 _ _ (hO.tops ht (by simp)) (hO.isRm hf5)).mono ?_); rintro e wv hpo; obtain ⟨rfl, hb9⟩ := hpo.no; replace hO := hO.call hb9; clear hb9 hpo))
     go_ret3
     exact ⟨_, rfl, boxes_nil _, new_nilS _, hO.keep.below⟩
    | some q =>
     rw [hq] at h4
     rw [stF_some he h0 hp hq]
     clear he h0 hp hq hS0
     generalize woF t i = u at *
     have h5 := fun va vb w ha hb => bsameS_any (va := va) (vb := vb) (l := p) (m := q) w ha hb np
     generalize decide (p = q) = r at *
     go_enter Tryd.func24, Tryd.ntmps24
     go_wp2_with (first | refine ldNT ?_ | ((first | refine stNT hO ?_ | refine st1NT hO ?_); clear hO; intro wv hO) | (go_at_call 34; (with_reducible refine (h1 _ (hO.tops ht (by simp)) (hv.keep0 hO)).mono ?_); rintro e wv hpo; obtain ⟨v3, rfl, hv9, hn9, hb9⟩ := hpo.yes; have hf3 := hv9.form; obtain ⟨a3, c3, rfl, -⟩ := hv9.form.view; have hN3 : NewFrom w (.slice a3 e.length c3) := (fun g hg => Nat.le_trans hO.keep.size (hn9 g hg)); replace hO := hO.gainB hb9 hv9 hn9; clear hb9 hpo hv9) | (go_at_call 37; (with_reducible refine (h2 _ (hO.tops ht (by simp)) (hv.keep0 hO)).mono ?_); rintro e wv hpo; obtain ⟨v4, rfl, hv9, hn9, hb9⟩ := hpo.yes; have hf4 := hv9.form; obtain ⟨a4, c4, rfl, -⟩ := hv9.form.view; replace hO := hO.gainB hb9 hv9 hn9; clear hb9 hpo hv9; clear h2) | (go_at_call 25; (with_reducible refine (h3 _ (hv.keep0 hO)).mono ?_); rintro e wv ⟨v5, rfl, ⟨hv9, hn9⟩, hb9⟩; have hf5 := hv9.form; replace hO := hO.gainR hb9 hv9 hn9; clear hb9 hv9 h3) | (go_at_call 37; (with_reducible refine (h4 _ _ (hO.tops ht (by simp)) (hO.isRm hf5)).mono ?_); rintro e wv hpo; obtain ⟨v6, rfl, hv9, hn9, hb9⟩ := hpo.yes; have hf6 := hv9.form; obtain ⟨a6, c6, rfl, -⟩ := hv9.form.view; replace hO := hO.gainB hb9 hv9 hn9; clear hb9 hpo hv9) | (go_at_call 43; (with_reducible refine (h5 _ _ _ (hO.isBm hf4) (hO.isBm hf6)).mono ?_); rintro e wv ⟨rfl, hb9⟩; replace hO := hO.call hb9; clear hb9))
     go_ret3
     exact ⟨_, rfl, hO.isB hf3 (by intro q hq; repeat (first | exact hq | exact List.mem_append_left _ hq | apply List.mem_append_right | apply List.mem_cons_of_mem)), hN3, hO.keep.below⟩
def rmP (t : List Rul) (i : Int) : Bool × Int := if validT t = true then if i < 0 ∨ (t.length : Int) ≤ i then (false, 2) else (stB (stF t i.toNat), stE (stF t i.toNat)) else (false, 1)
set_option maxHeartbeats 4000000 in
theorem sRemovable_any {vt : Value} {t : List Rul} {i : Int} (w : World) (ht : Tops w) (hv : IsTable w vt t) (kt : okT t) (hl : t.length ≤ 1000000000000) :
  Calls Tryd.prog 12 #[vt, .int .i64 i] w fun e w' => e = .returned (.tuple #[.bool (rmP t i).1, .int .i64 (rmP t i).2]) ∧ Below w.heap.size w w' := by
 have hO := own_start [] w
 have h1 : ∀ w, Tops w → IsTable w vt t → Calls Tryd.prog 23 #[vt] w fun e w' => e = .returned (.bool (validT t)) ∧ Below w.heap.size w w' := fun w ht hv => fValid_any w ht hv (by omega)
 obtain ⟨a, c, rfl, -⟩ := hv.view
 unfold rmP
 cases hV : validT t with
 | false =>
  rw [hV] at h1
  rw [if_neg Bool.false_ne_true]
  clear hV
  go_enter Tryd.func12, Tryd.ntmps12
  go_wp2_with (first | refine ldNT ?_ | ((first | refine stNT hO ?_ | refine st1NT hO ?_); clear hO; intro wv hO) | (go_at_call 23; (with_reducible refine (h1 _ (hO.tops ht (by simp)) (hv.keep0 hO)).mono ?_); rintro e wv ⟨rfl, hb9⟩; replace hO := hO.call hb9; clear hb9))
  go_ret2
  exact ⟨rfl, hO.keep.below⟩
 | true =>
  rw [hV] at h1
  rw [if_pos rfl]
  clear hV
  by_cases hlo : i < 0
  ·rw [if_pos (.inl hlo)]
   have g1 : decide (i < 0) = true := decide_eq_true hlo
   go_enter Tryd.func12, Tryd.ntmps12
   go_wp2_with (first | refine ldNT ?_ | ((first | refine stNT hO ?_ | refine st1NT hO ?_); clear hO; intro wv hO) | (go_at_call 23; (with_reducible refine (h1 _ (hO.tops ht (by simp)) (hv.keep0 hO)).mono ?_); rintro e wv ⟨rfl, hb9⟩; replace hO := hO.call hb9; clear hb9))
   go_ret2
   exact ⟨rfl, hO.keep.below⟩
  ·have g1 : decide (i < 0) = false := decide_eq_false hlo
   by_cases hhi : (t.length : Int) ≤ i
   ·rw [if_pos (.inr hhi)]
    have g2 : decide ((t.length : Int) ≤ i) = true := decide_eq_true hhi
    go_enter Tryd.func12, Tryd.ntmps12
    go_wp2_with (first | refine ldNT ?_ | ((first | refine stNT hO ?_ | refine st1NT hO ?_); clear hO; intro wv hO) | (go_at_call 23; (with_reducible refine (h1 _ (hO.tops ht (by simp)) (hv.keep0 hO)).mono ?_); rintro e wv ⟨rfl, hb9⟩; replace hO := hO.call hb9; clear hb9))
    go_ret2
    exact ⟨rfl, hO.keep.below⟩
   ·rw [if_neg (by omega)]
    obtain ⟨k, rfl⟩ : ∃ k : Nat, i = (k : Int) := ⟨i.toNat, by omega⟩
    have g2 : decide ((t.length : Int) ≤ (k : Int)) = false := decide_eq_false hhi
    have hk : k < t.length := by omega
    have h2 : ∀ w, Tops w → IsTable w (.slice a t.length c) t → Calls Tryd.prog 24 #[.slice a t.length c, .int .i64 k] w (StPost w (stF t k)) := fun w ht hv => sstate_any w ht hv kt hl hk
    rw [Int.toNat_natCast]
    generalize stF t k = r at *
    go_enter Tryd.func12, Tryd.ntmps12
    go_wp2_with (first | refine ldNT ?_ | ((first | refine stNT hO ?_ | refine st1NT hO ?_); clear hO; intro wv hO) | (go_at_call 23; (with_reducible refine (h1 _ (hO.tops ht (by simp)) (hv.keep0 hO)).mono ?_); rintro e wv ⟨rfl, hb9⟩; replace hO := hO.call hb9; clear hb9) | (go_at_call 24; (with_reducible refine (h2 _ (hO.tops ht (by simp)) (hv.keep0 hO)).mono ?_); rintro e wv ⟨v9, rfl, -, -, hb9⟩; replace hO := hO.call hb9; clear hb9))
    go_ret2
    exact ⟨rfl, hO.keep.below⟩
theorem befT_succ {t : List Rul} {k : Nat} (hk : k < t.length) (b : Bx) : befT b t (k + 1) = if meetB t[k].1 b = true then befT b t k ++ [(k : Int)] else befT b t k := by
 rw [befT, List.getElem?_eq_getElem hk]
theorem befT_len (b : Bx) (t : List Rul) : ∀ k, (befT b t k).length ≤ k
 | 0 => Nat.le_refl _
 | k + 1 => by
  have ih := befT_len b t k
  rw [befT]
  split
  ·omega
  ·split
   ·simp; omega
   ·omega
set_option maxHeartbeats 8000000 in
theorem sbefore_any {vt : Value} {t : List Rul} {i : Nat} (w : World) (ht : Tops w) (hv : IsTable w vt t) (hl : t.length ≤ 1000000000000) (hi : i < t.length) :
  Calls Tryd.prog 31 #[vt, .int .i64 i] w (RetNums w (befT t[i].1 t i)) := by
 have hO := own_argR hv
 obtain ⟨a, c, rfl, ha⟩ := hv.view
 have hcap := hv.cap
 obtain ⟨g, o, rfl⟩ := ha (by omega)
 clear ha hv
 simp only [roS] at hO
 have t2 := tk_match t hi
 replace hO := hO.nilRow 3 1
 generalize t[i] = q0 at *
 obtain ⟨b, pb⟩ := q0
 dsimp only at t2
 go_enter Tryd.func31, Tryd.ntmps31
 go_wp2_with (first | refine ldNT ?_ | ((first | refine stNT hO ?_ | refine st1NT hO ?_); clear hO; intro wv hO) | (refine al9T 7 hO ?_; clear hO; intro n7 wv hO) | (refine bl9T 27 hO ?_; clear hO; intro n27 wv hO) | (refine ap9T 28 hO ?_; clear hO; intro g28 c28 wv hO))
 go_loopw [5, 12] (fun v q wr => ∃ k : Nat, k ≤ i ∧ q = .int .i64 k ∧ Own [] w [] [⟨v, (befT b t k).length, ints (befT b t k), 3, 1⟩] [⟨g, o, cellsR t⟩] wr) (fun _ q _ => i - (intOf q).toNat)
 case atStart => exact ⟨0, by omega, rfl, hO⟩
 case round =>
  clear hO
  obtain ⟨k, hk, rfl, hO⟩ := hrel
  by_cases hlt : k < i
  ·have hkt : k < t.length := by omega
   have t1 := tk_rule t hkt
   have hs := befT_succ hkt b
   have hn := befT_len b t k
   generalize t[k] = r at *
   obtain ⟨br, pr⟩ := r
   dsimp only at t1 hs
   have h1 := smeet_any br b
   generalize meetB br b = m at *
   cases m
   ·rw [if_neg Bool.false_ne_true] at hs
    go_wp2_with (first | refine ldNT ?_ | ((first | refine stNT hO ?_ | refine st1NT hO ?_); clear hO; intro wv hO) | (refine al9T 7 hO ?_; clear hO; intro n7 wv hO) | (refine bl9T 27 hO ?_; clear hO; intro n27 wv hO) | (refine ap9T 28 hO ?_; clear hO; intro g28 c28 wv hO))
    (try simp only [Act.put]); (refine own_quiet hO (by kernel_rfl) (by kernel_rfl) ?_; clear hO; (repeat (first | go_big_quiet_skip | (go_big_quiet_want; (first | ((with_reducible refine is_loadQ ?_); (first | (refine q_ldT (h := ?_))); (try simp only [Act.put]); (try simp only [sI9, sZ9, sS9]); go_big_quiet_on) | (go_big_quiet_op; (first | go_big_quiet_on | ((refine ⟨_, fun _ _ => rfl, ?_⟩); go_big_quiet_on) | go_big_quiet_call ((intro hq; go_at_call 48; exact q_call (h1 _ (hq.tops ht (by simp))) hq)))))))); (refine wpQuiet_nil ?_); intro wv hO)
    go_wp2_with (first | refine ldNT ?_ | ((first | refine stNT hO ?_ | refine st1NT hO ?_); clear hO; intro wv hO) | (refine al9T 7 hO ?_; clear hO; intro n7 wv hO) | (refine bl9T 27 hO ?_; clear hO; intro n27 wv hO) | (refine ap9T 28 hO ?_; clear hO; intro g28 c28 wv hO))
    go_roundw
    case rel => exact ⟨k + 1, by omega, by go_num, by rw [hs]; exact hO.sub (.cons _ (.refl _)) (.refl _) (fun _ h => h)⟩
    case measure => simp [intOf]; omega
   ·rw [if_pos rfl] at hs
    go_wp2_with (first | refine ldNT ?_ | ((first | refine stNT hO ?_ | refine st1NT hO ?_); clear hO; intro wv hO) | (refine al9T 7 hO ?_; clear hO; intro n7 wv hO) | (refine bl9T 27 hO ?_; clear hO; intro n27 wv hO) | (refine ap9T 28 hO ?_; clear hO; intro g28 c28 wv hO))
    (try simp only [Act.put]); (refine own_quiet hO (by kernel_rfl) (by kernel_rfl) ?_; clear hO; (repeat (first | go_big_quiet_skip | (go_big_quiet_want; (first | ((with_reducible refine is_loadQ ?_); (first | (refine q_ldT (h := ?_))); (try simp only [Act.put]); (try simp only [sI9, sZ9, sS9]); go_big_quiet_on) | (go_big_quiet_op; (first | go_big_quiet_on | ((refine ⟨_, fun _ _ => rfl, ?_⟩); go_big_quiet_on) | go_big_quiet_call ((intro hq; go_at_call 48; exact q_call (h1 _ (hq.tops ht (by simp))) hq)))))))); (refine wpQuiet_nil ?_); intro wv hO)
    go_wp2_with (first | refine ldNT ?_ | ((first | refine stNT hO ?_ | refine st1NT hO ?_); clear hO; intro wv hO) | (refine al9T 7 hO ?_; clear hO; intro n7 wv hO) | (refine bl9T 27 hO ?_; clear hO; intro n27 wv hO) | (refine ap9T 28 hO ?_; clear hO; intro g28 c28 wv hO) | ((with_reducible refine is_build ?_); (refine' own_buildP (o := ⟨some 27, _, _, _, _, _⟩) [.int .i64 k] hO (by rfl) rfl slice_Ints rfl rfl (by rfl) (by decide) (by decide) ?_); clear hO; intro n27 wv hO) | ((with_reducible refine is_append ?_); (refine own_append (o := ⟨some 28, _, _, _, _, _⟩) hO rfl rfl slice_Ints rfl rfl (by (repeat (first | exact List.mem_cons_self | refine List.mem_cons_of_mem _ ?_))) rfl (by omega) rfl (fun _ _ => by repeat (first | exact UpdR.here | apply UpdR.there)) (by first | omega | (simp; omega)) (by unfold maxLen; first | omega | (simp; omega)) ?_); clear hO; intro g28 c28 wv hO))
    go_roundw
    case rel =>
     refine ⟨k + 1, by omega, by go_num, ?_⟩
     rw [hs, List.length_append, ints_app]
     exact hO.sub (.cons _ (.cons _ (.refl _))) (.refl _) (fun _ h => h)
    case measure => simp [intOf]; omega
  ·obtain rfl : k = i := by omega
   go_wp2_with (first | refine ldNT ?_ | ((first | refine stNT hO ?_ | refine st1NT hO ?_); clear hO; intro wv hO) | (refine al9T 7 hO ?_; clear hO; intro n7 wv hO) | (refine bl9T 27 hO ?_; clear hO; intro n27 wv hO) | (refine ap9T 28 hO ?_; clear hO; intro g28 c28 wv hO))
   go_ret
   exact ⟨_, rfl, ⟨hO.rowNums rfl List.mem_cons_self, own_new hO List.mem_cons_self⟩, hO.keep.below⟩
def numE (r : Option (List Int)) : Int := match r with | none => 3 | some _ => 0
def NumPost (w : World) (r : Option (List Int)) (e : Ending) (w' : World) : Prop := ∃ v, e = .returned (.tuple #[v, .int .i64 (numE r)]) ∧ IsNums w' v (r.getD []) ∧ NewFrom w v ∧ Below w.heap.size w w'
theorem nums_nil (w : World) : IsNums w (.slice none 0 0) [] := .inl ⟨rfl, rfl, rfl⟩
theorem heirN_step {u : List Rul} {e : List Bx} {i k : Nat} {l : List Int} (hk : i ≤ k) (h : heirN u e i (k - i) = some l) : heirN u e i (k + 1 - i) = match effF u k with
  | none => none
  | some s => some (if commonF e s = true then l ++ [((k + 1 : Nat) : Int)] else l) := by
 rw [show k + 1 - i = (k - i) + 1 by omega, heirN, h, show i + (k - i) = k by omega]
 rfl
theorem heirN_len {u : List Rul} {e : List Bx} {i : Nat} : ∀ {n : Nat} {l : List Int}, heirN u e i n = some l → l.length ≤ n
 | 0, l, h => by cases h; simp
 | n + 1, l, h => by
  rw [heirN] at h
  split at h
  ·cases h
  ·rename_i l' hl
   have ih := heirN_len hl
   split at h
   ·cases h
   ·cases h
    split
    ·simp; omega
    ·omega
theorem heirN_up {u : List Rul} {e : List Bx} {i k m : Nat} (h : heirN u e i (k - i) = none) (hm : k ≤ m) : heirN u e i (m - i) = none := by
 obtain ⟨d, hd⟩ := Nat.exists_eq_add_of_le (show k - i ≤ m - i by omega)
 rw [hd]
 exact heirN_none h d
set_option maxHeartbeats 16000000 in
theorem sheirs_any {vt ve : Value} {t : List Rul} {e : List Bx} {i : Nat} (w : World) (ht : Tops w) (hv : IsTable w vt t) (hve : IsBoxes w ve e) (kt : okT t) (hl : t.length ≤ 1000000000000) (ne : e.length ≤ 1000000000000) (hi : i < t.length) :
  Calls Tryd.prog 32 #[vt, .int .i64 i, ve] w (NumPost w (heirN (woF t i) e i (t.length - 1 - i))) := by
 have hO := own_start [] w
 have h1 : ∀ w, IsTable w vt t → Calls Tryd.prog 25 #[vt, .int .i64 i] w (RetTable w (woF t i)) := fun w hv => swithout_any w hv hi hl
 have hu : (woF t i).length = t.length - 1 := woF_length hi
 have ku := okT_wo kt i
 rw [← hu]
 have hiu : i ≤ (woF t i).length := by omega
 have hlu : (woF t i).length ≤ 1000000000000 := by omega
 clear hu kt hl hi
 generalize woF t i = u at *
 go_enter Tryd.func32, Tryd.ntmps32
 go_wp2_with (first | refine ldNT ?_ | ((first | refine stNT hO ?_ | refine st1NT hO ?_); clear hO; intro wv hO) | (refine bl9T 38 hO ?_; clear hO; intro n38 wv hO) | (refine ap9T 39 hO ?_; clear hO; intro g39 c39 wv hO) | (go_at_call 25; (with_reducible refine (h1 _ (hv.keep0 hO)).mono ?_); rintro e wv ⟨v5, rfl, ⟨hv9, hn9⟩, hb9⟩; have hf5 := hv9.form; obtain ⟨a5, c5, rfl, -⟩ := hv9.form.view; replace hO := hO.gainR hb9 hv9 hn9; clear hb9 hv9 hn9 h1))
 replace hO := hO.nilRow 3 1
 go_loopw [9, 10] (fun v q wr => ∃ (k : Nat) (l : List Int), i ≤ k ∧ k ≤ u.length ∧ q = .int .i64 k ∧ Hid (heirN u e i (k - i) = some l) ∧ Own [] w [] [⟨v, l.length, ints l, 3, 1⟩] (roS (.slice a5 u.length c5) (cellsR u)) wr) (fun _ q _ => u.length - (intOf q).toNat)
 case atStart => exact ⟨i, [], by omega, hiu, rfl, Lib.hid (by rw [Nat.sub_self]; rfl), hO.sub (.refl _) (.refl _) (fun q hq => List.mem_append_left _ hq)⟩
 case round =>
  clear hO
  obtain ⟨k, l, hik, hk, rfl, HE, hO⟩ := hrel
  have s1 : IntKind.i64.wrap ((k : Int) + 1) = (k : Int) + 1 := IntWalk.i64_in _ (by omega)
  by_cases hlt : k < u.length
  ·have hst := heirN_step hik HE.out
   have hn := heirN_len HE.out
   have h2 : ∀ w, Tops w → IsTable w (.slice a5 u.length c5) u → Calls Tryd.prog 34 #[.slice a5 u.length c5, .int .i64 k] w (SetPost w (effF u k)) := fun w ht hv => fEff_any w ht hv ku hlu hlt
   have hS0 := fun s (hs : effF u k = some s) => (effF_spec ku hlt hs).1.le
   cases he : effF u k with
   | none =>
    rw [he] at h2 hst
    have HR := Lib.hid (heirN_up (m := u.length) hst (by omega))
    clear hst he HE hS0
    go_wp2_with (first | refine ldNT ?_ | ((first | refine stNT hO ?_ | refine st1NT hO ?_); clear hO; intro wv hO) | (refine bl9T 38 hO ?_; clear hO; intro n38 wv hO) | (refine ap9T 39 hO ?_; clear hO; intro g39 c39 wv hO) | (go_at_call 34; (with_reducible refine (h2 _ (hO.tops ht (by simp)) (hO.isRm hf5)).mono ?_); rintro e wv hpo; obtain ⟨rfl, hb9⟩ := hpo.no; replace hO := hO.call hb9; clear hb9 hpo))
    go_ret2
    exact ⟨_, by rw [HR.out]; rfl, by rw [HR.out]; exact nums_nil _, new_nilS _, hO.keep.below⟩
   | some s =>
    rw [he] at h2 hst
    have ns := hS0 s he
    have h3 := fun v w ht hva hvb => scommon_any (va := ve) (vb := v) (la := e) (lb := s) w ht hva hvb ne ns
    clear he HE hS0
    dsimp only at hst
    generalize commonF e s = m at *
    cases m
    ·rw [if_neg Bool.false_ne_true] at hst
     have HS := Lib.hid hst
     clear hst
     go_wp2_with (first | refine ldNT ?_ | ((first | refine stNT hO ?_ | refine st1NT hO ?_); clear hO; intro wv hO) | (refine bl9T 38 hO ?_; clear hO; intro n38 wv hO) | (refine ap9T 39 hO ?_; clear hO; intro g39 c39 wv hO) | (go_at_call 34; (with_reducible refine (h2 _ (hO.tops ht (by simp)) (hO.isRm hf5)).mono ?_); rintro e wv hpo; obtain ⟨v6, rfl, hv9, hn9, hb9⟩ := hpo.yes; have hf6 := hv9.form; obtain ⟨a6, c6, rfl, -⟩ := hv9.form.view; replace hO := hO.gainB hb9 hv9 hn9; clear hn9 hb9 hpo hv9) | (go_at_call 49; (with_reducible refine (h3 _ _ (hO.tops ht (by simp)) (hve.keep0 hO) (hO.isBm hf6)).mono ?_); rintro e wv ⟨rfl, hb9⟩; replace hO := hO.call hb9; clear hb9))
     go_roundw
     case rel => exact ⟨k + 1, l, by omega, by omega, by go_num, HS, hO.sub (.refl _) (.refl _) (fun q hq => List.mem_append_right _ hq)⟩
     case measure => simp [intOf]; omega
    ·rw [if_pos rfl] at hst
     have HS := Lib.hid hst
     clear hst
     go_wp2_with (first | refine ldNT ?_ | ((first | refine stNT hO ?_ | refine st1NT hO ?_); clear hO; intro wv hO) | (refine bl9T 38 hO ?_; clear hO; intro n38 wv hO) | (refine ap9T 39 hO ?_; clear hO; intro g39 c39 wv hO) | (go_at_call 34; (with_reducible refine (h2 _ (hO.tops ht (by simp)) (hO.isRm hf5)).mono ?_); rintro e wv hpo; obtain ⟨v6, rfl, hv9, hn9, hb9⟩ := hpo.yes; have hf6 := hv9.form; obtain ⟨a6, c6, rfl, -⟩ := hv9.form.view; replace hO := hO.gainB hb9 hv9 hn9; clear hn9 hb9 hpo hv9) | (go_at_call 49; (with_reducible refine (h3 _ _ (hO.tops ht (by simp)) (hve.keep0 hO) (hO.isBm hf6)).mono ?_); rintro e wv ⟨rfl, hb9⟩; replace hO := hO.call hb9; clear hb9) | ((with_reducible refine is_build ?_); (refine' own_buildP (o := ⟨some 38, _, _, _, _, _⟩) [.int .i64 ((k : Int) + 1)] hO (by rfl) rfl slice_Ints rfl rfl (by rfl) (by decide) (by decide) ?_); clear hO; intro n38 wv hO) | ((with_reducible refine is_append ?_); (refine own_append (o := ⟨some 39, _, _, _, _, _⟩) hO rfl rfl slice_Ints rfl rfl (by (repeat (first | exact List.mem_cons_self | refine List.mem_cons_of_mem _ ?_))) rfl (by omega) rfl (fun _ _ => by repeat (first | exact UpdR.here | apply UpdR.there)) (by first | omega | (simp; omega)) (by unfold maxLen; first | omega | (simp; omega)) ?_); clear hO; intro g39 c39 wv hO))
     go_roundw
     case rel =>
      refine ⟨k + 1, l ++ [((k + 1 : Nat) : Int)], by omega, by omega, by go_num, HS, ?_⟩
      rw [List.length_append, ints_app]
      exact hO.sub (.cons _ (.refl _)) (.refl _) (fun q hq => List.mem_append_right _ hq)
     case measure => simp [intOf]; omega
  ·obtain rfl : k = u.length := by omega
   have HR := HE
   clear HE
   go_wp2_with (first | refine ldNT ?_ | ((first | refine stNT hO ?_ | refine st1NT hO ?_); clear hO; intro wv hO) | (refine bl9T 38 hO ?_; clear hO; intro n38 wv hO) | (refine ap9T 39 hO ?_; clear hO; intro g39 c39 wv hO))
   go_ret2
   exact ⟨_, by rw [HR.out]; rfl, by rw [HR.out]; exact hO.rowNums rfl List.mem_cons_self, own_new hO List.mem_cons_self, hO.keep.below⟩
end Go.Proofs.YtjoionnnpjajmaaDoor
