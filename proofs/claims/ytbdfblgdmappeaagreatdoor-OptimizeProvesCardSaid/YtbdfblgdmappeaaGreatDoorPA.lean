/- Tables without a rule, the states of rules, findings, clean tables. No program in sight. -/
import Derived.Test.YtbdfblgdmappeaaGreatDoorOB
import Derived.Test.YtbdfblgdmappeaaGreatDoorOC
import Derived.Test.YtbdfblgdmappeaaGreatDoorME
import Derived.Test.YtbdfblgdmappeaaGreatDoorMA
namespace Go.Proofs.YtbdfblgdmappeaaGreatDoor
open Go.RowKit
def woF {α : Type} (t : List α) (i : Nat) : List α := t.take i ++ t.drop (i + 1)
theorem woF_length {α : Type} {t : List α} {i : Nat} (h : i < t.length) : (woF t i).length = t.length - 1 := by
 simp only [woF, List.length_append, List.length_take, List.length_drop]; omega
theorem woF_mem {α : Type} {t : List α} {i : Nat} {x : α} (h : x ∈ woF t i) : x ∈ t := (List.mem_append.1 h).elim List.mem_of_mem_take List.mem_of_mem_drop
theorem okT_wo {t : List Rul} (h : okT t) (i : Nat) : okT (woF t i) := fun r hr => h r (woF_mem hr)
def meetB (a b : Bx) : Bool := (interB a b).2
def stF (t : List Rul) (i : Nat) : Option (List Bx × Bool) := match effF t i with
 | none => none
 | some e => if e.isEmpty then some ([], true) else match permF t with
  | none => none
  | some p => match permF (woF t i) with
   | none => none
   | some q => some (e, decide (p = q))
theorem stF_cases {t : List Rul} {i : Nat} {x : List Bx × Bool} (h : stF t i = some x) : (∃ e, effF t i = some e ∧ e.isEmpty = true ∧ x = ([], true)) ∨ ∃ e p q, effF t i = some e ∧ e.isEmpty = false ∧ permF t = some p ∧ permF (woF t i) = some q ∧ x = (e, decide (p = q)) := by
 unfold stF at h
 split at h
 ·cases h
 ·rename_i e he
  split at h
  ·rename_i h0
   cases h
   exact .inl ⟨e, he, h0, rfl⟩
  ·rename_i h0
   split at h
   ·cases h
   ·rename_i p hp
    split at h
    ·cases h
    ·rename_i q hq
     cases h
     exact .inr ⟨e, p, q, he, by simpa using h0, hp, hq, rfl⟩
abbrev Fnd := Int × Int × List Int
set_option maxRecDepth 100000
def FormC (v : Value) (n : Nat) : Prop := (v = .slice none 0 0 ∧ n = 0) ∨ ∃ g o c, v = .slice (some ⟨g, o, none⟩) n c ∧ n ≤ c
theorem isCells_form {w : World} {v : Value} {n : Nat} {xs : List Value} (h : IsCells w v n xs) : FormC v n := by
 rcases h with ⟨h1, h2, _⟩ | ⟨g, o, c, h1, h2, _⟩
 ·exact .inl ⟨h1, h2⟩
 ·exact .inr ⟨g, o, c, h1, h2⟩
theorem FormC.view {v : Value} {n : Nat} (h : FormC v n) : ∃ a c, v = .slice a n c ∧ (0 < n → ∃ g o, a = some ⟨g, o, none⟩) := by
 rcases h with ⟨rfl, rfl⟩ | ⟨g, o, c, rfl, _⟩
 ·exact ⟨none, 0, rfl, fun h => absurd h (by omega)⟩
 ·exact ⟨_, c, rfl, fun _ => ⟨g, o, rfl⟩⟩
section
variable {M : List Nat} {w0 w w' : World} {X : List Chunk} {R : List Row} {S : List Ro}
theorem Own.isC (hO : Own M w0 X R S w) {v : Value} {n : Nat} {xs : List Value} (hf : FormC v n) (h0 : n = 0 → xs = []) (hS : ∀ s ∈ roS v xs, s ∈ S) : IsCells w v n xs := by
 rcases hf with ⟨h1, h2⟩ | ⟨g, o, c, rfl, hc⟩
 ·exact .inl ⟨h1, h2, h0 h2⟩
 ·exact .inr ⟨g, o, c, rfl, hc, hO.ro ⟨g, o, xs⟩ (hS _ List.mem_cons_self)⟩
theorem Own.addC2 {B : Nat} (h1 : Own M w0 X R S w') (hlt : ∀ g ∈ excl X R, g < B) {v : Value} {n : Nat} {xs : List Value} (hv : IsCells w' v n xs) (hn : ∀ g, v.ownBlock = some g → B ≤ g) : Own M w0 X R (roS v xs ++ S) w' := by
 rcases hv with ⟨rfl, rfl, rfl⟩ | ⟨g, o, c, rfl, _, hr⟩
 ·exact h1
 ·refine h1.addRo ⟨g, o, xs⟩ hr fun _ hm => ?_
  have h2 := hlt g hm
  have h3 := hn g rfl
  omega
theorem Own.gainC (hO : Own M w0 X R S w) (hb : Below w.heap.size w w') {v : Value} {n : Nat} {xs : List Value} (hv : IsCells w' v n xs) (hn : NewFrom w v) : Own M w0 X R (roS v xs ++ S) w' := (hO.call hb).addC2 hO.lt hv hn
end
def IsNums (w : World) (v : Value) (l : List Int) : Prop := IsCells w v l.length (ints l)
theorem ints_nil {l : List Int} (h : l.length = 0) : ints l = [] := by rw [List.length_eq_zero_iff.1 h]; rfl
theorem Own.isNums {M : List Nat} {w0 w : World} {X : List Chunk} {R : List Row} {S : List Ro} (hO : Own M w0 X R S w) {v : Value} {l : List Int} (hf : FormC v l.length) (hS : ∀ s ∈ roS v (ints l), s ∈ S) : IsNums w v l := hO.isC hf (fun h => ints_nil h) hS
section
variable {M : List Nat} {w0 w : World} {X : List Chunk} {R : List Row} {S : List Ro}
theorem Own.isBm (hO : Own M w0 X R S w) {v : Value} {l : List Bx} (hf : FormB v l) (hS : ∀ s ∈ roS v (cellsB l), s ∈ S := by intro q hq; repeat (first | exact hq | exact List.mem_append_left _ hq | apply List.mem_append_right | apply List.mem_cons_of_mem)) : IsBoxes w v l := hO.isB hf hS
theorem Own.isRm (hO : Own M w0 X R S w) {v : Value} {l : List Rul} (hf : FormR v l) (hS : ∀ s ∈ roS v (cellsR l), s ∈ S := by intro q hq; repeat (first | exact hq | exact List.mem_append_left _ hq | apply List.mem_append_right | apply List.mem_cons_of_mem)) : IsTable w v l := hO.isR hf hS
theorem Own.isNumsm (hO : Own M w0 X R S w) {v : Value} {l : List Int} (hf : FormC v l.length) (hS : ∀ s ∈ roS v (ints l), s ∈ S := by intro q hq; repeat (first | exact hq | exact List.mem_append_left _ hq | apply List.mem_append_right | apply List.mem_cons_of_mem)) : IsNums w v l := hO.isNums hf hS
end
def cellsN : List (Fnd × Value) → List Value
 | [] => []
 | p :: l => .int .i64 p.1.1 :: .int .i64 p.1.2.1 :: p.2 :: cellsN l
def IsFinds (w w' : World) (v : Value) (ps : List (Fnd × Value)) : Prop := IsCells w' v ps.length (cellsN ps) ∧ NewFrom w v ∧ ∀ p ∈ ps, IsNums w' p.2 p.1.2.2 ∧ NewFrom w p.2
def FormN (v : Value) (ps : List (Fnd × Value)) : Prop := FormC v ps.length ∧ ∀ p ∈ ps, FormC p.2 p.1.2.2.length
theorem IsFinds.form {w w' : World} {v : Value} {ps : List (Fnd × Value)} (h : IsFinds w w' v ps) : FormN v ps := ⟨isCells_form h.1, fun p hp => isCells_form (h.2.2 p hp).1⟩
section
variable {M : List Nat} {w0 w w' : World} {X : List Chunk} {R : List Row} {S : List Ro}
end
theorem src_part {w : World} {g o c n i : Nat} {l : List Rul} (h : IsTable w (.slice (some ⟨g, o, none⟩) l.length c) l) (hi : i + n = l.length) : SrcAt w 11 (if c = i then some ⟨g, o, none⟩ else some ⟨g, o + i * 11, none⟩) n (cellsR ((l.drop i).take n)) := by
 have hl : ((l.drop i).take n).length = n := by simp; omega
 have hc := h.cap
 by_cases h0 : c = i
 ·have hn : n = 0 := by omega
  subst hn
  exact ⟨by rw [cellsR_length, hl], fun h => absurd h (by omega)⟩
 ·rw [if_neg h0]
  have h1 := isCells_table.1 (h.part i n n (by omega) (Nat.le_refl _))
  rw [hl] at h1
  exact src_of_cells h1 (by rw [cellsR_length, hl])
theorem wo_cells (t : List Rul) (i m : Nat) (h : i + 1 + m = t.length) : cellsR (t.take i) ++ cellsR ((t.drop (i + 1)).take m) = cellsR (woF t i) := by
 unfold woF
 rw [cellsR_append, List.take_of_length_le (l := t.drop (i + 1)) (by simp; omega)]
set_option maxHeartbeats 4000000 in
theorem swithout_any {vt : Value} {t : List Rul} {i : Nat} (w : World) (hv : IsTable w vt t) (hi : i < t.length) (hl : t.length ≤ 1000000000000) :
  Calls Tryz.prog 117 #[vt, .int .i64 i] w (RetTable w (woF t i)) := by
 have hO := own_argR hv
 obtain ⟨a, c, rfl, ha⟩ := hv.view
 have hcap := hv.cap
 obtain ⟨g, o, rfl⟩ := ha (by omega)
 have s1 : IntKind.i64.wrap ((i : Int) + 1) = (i : Int) + 1 := IntWalk.i64_in _ (by omega)
 clear ha
 have E := Lib.hid (wo_cells t i (t.length - (i + 1)) (by omega))
 replace hO := hO.nilRow 100 11
 go_enter Tryz.func117, Tryz.ntmps117
 go_wp2_with (first | ((with_reducible refine is_append ?_); (refine own_appendA (o := ⟨some 9, _, _, _, _, _⟩) hO rfl rfl slice_Table rfl rfl (src_table (hv.keep0 hO) (m := i) (by omega)) (cellsR_one' _) (fun _ => by repeat (first | exact UpdR.here | apply UpdR.there)) (by (omega)) (by unfold maxLen; (omega)) ?_); clear hO; intro g9 c9 wv hO; (try simp only [Nat.zero_add, List.nil_append] at hO)) | ((with_reducible refine is_append ?_); (refine own_appendA (o := ⟨some 15, _, _, _, _, _⟩) hO rfl rfl slice_Table rfl rfl (src_part (hv.keep0 hO) (i := i + 1) (n := t.length - (i + 1)) (by omega)) (cellsR_one' _) (fun _ => by repeat (exact UpdR.here)) (by (omega)) (by unfold maxLen; (omega)) ?_); clear hO; intro g15 c15 wv hO))
 all_goals
  go_ret
  rw [E.out] at hO
  exact ⟨_, rfl, ⟨own_table hO List.mem_cons_self, own_new hO List.mem_cons_self⟩, hO.keep.below⟩
set_option maxHeartbeats 2000000 in
theorem bsameS_any {va vb : Value} {l m : List Bx} (w : World) (ha : IsBoxes w va l) (hb : IsBoxes w vb m) (hl : l.length ≤ 1000000000000) :
  Calls Tryz.prog 118 #[va, vb] w fun e w' => e = .returned (.bool (decide (l = m))) ∧ Below w.heap.size w w' := by
 have hO := roS_arg2 ha hb
 obtain ⟨a, c, rfl, ha'⟩ := ha.view
 obtain ⟨b, d, rfl, hb'⟩ := hb.view
 clear ha hb
 by_cases hlen : l.length = m.length
 ·have g0 : ((l.length : Int) != (m.length : Int)) = false := by simp [hlen]
  go_enter Tryz.func118, Tryz.ntmps118
  go_wp2_with fail
  go_loopw [13] (fun i wr => ∃ k : Nat, k ≤ l.length ∧ i = .int .i64 k ∧ l.take k = m.take k ∧ Own [] w [] [] (roS (.slice a l.length c) (cellsB l) ++ roS (.slice b m.length d) (cellsB m)) wr) (fun i _ => l.length - (intOf i).toNat)
  case atStart => exact ⟨0, by omega, rfl, rfl, hO⟩
  case round =>
   clear hO
   obtain ⟨k, hk, rfl, hE, hO⟩ := hrel
   by_cases hlt : k < l.length
   ·obtain ⟨g, o, rfl⟩ := ha' (by omega)
    obtain ⟨g', o', rfl⟩ := hb' (by omega)
    simp only [roS, List.cons_append, List.nil_append] at hO
    have hlt' : k < m.length := by omega
    have t1 := tk_box l hlt
    have t2 := tk_box m hlt'
    have HT := Lib.hid (show l.take (k + 1) = l.take k ++ [l[k]] from List.take_succ_eq_append_getElem hlt)
    have HU := Lib.hid (show m.take (k + 1) = m.take k ++ [m[k]] from List.take_succ_eq_append_getElem hlt')
    have HN := Lib.hid (take_succ_ne hlt hlt')
    have y1 : (k : Int) < m.length := by omega
    generalize l[k] = x at *
    generalize m[k] = y at *
    by_cases hxy : x = y
    ·have g1 : decide (x = y) = true := decide_eq_true hxy
     go_wp2_with fail
     (refine own_quiet hO (by kernel_rfl) (by kernel_rfl) ?_; clear hO; (repeat (go_big_quiet_want; (first | ((with_reducible refine is_loadQ ?_); (refine q_ldT (h := ?_)); (try simp only [Act.put]); (try simp only [sI9, sZ9, sS9]); go_big_quiet_on) | (go_big_quiet_op; (first | go_big_quiet_on | ((refine ⟨_, fun _ _ => rfl, ?_⟩); go_big_quiet_on)))))); (refine wpQuiet_nil ?_); intro wv hO)
     go_wp2_with fail
     go_roundw
     case rel => exact ⟨k + 1, by omega, by go_num, by rw [HT.out, HU.out, hE, hxy], hO⟩
     case measure => simp [intOf]; omega
    ·have g1 : decide (x = y) = false := decide_eq_false hxy
     go_wp2_with fail
     (refine own_quiet hO (by kernel_rfl) (by kernel_rfl) ?_; clear hO; (repeat (go_big_quiet_want; (first | ((with_reducible refine is_loadQ ?_); (refine q_ldT (h := ?_)); (try simp only [Act.put]); (try simp only [sI9, sZ9, sS9]); go_big_quiet_on) | (go_big_quiet_op; (first | go_big_quiet_on | ((refine ⟨_, fun _ _ => rfl, ?_⟩); go_big_quiet_on)))))); (refine wpQuiet_nil ?_); intro wv hO)
     go_wp2_with fail
     go_ret
     exact ⟨by rw [decide_eq_false (HN.out hxy)]; rfl, hO.keep.below⟩
   ·have hk2 : k = l.length := by omega
    rw [hk2, List.take_length, hlen, List.take_length] at hE
    have hne := Lib.hid hE
    clear hE
    go_wp2_with fail
    go_ret
    exact ⟨by rw [decide_eq_true hne.out]; rfl, hO.keep.below⟩
 ·have g0 : ((l.length : Int) != (m.length : Int)) = true := by simp; omega
  have hne : decide (l = m) = false := decide_eq_false (fun h => hlen (by rw [h]))
  rw [hne]
  go_enter Tryz.func118, Tryz.ntmps118
  go_wp2_with fail
  go_ret
  exact ⟨rfl, hO.keep.below⟩
def stB (r : Option (List Bx × Bool)) : Bool := match r with | none => false | some x => x.2
def stE (r : Option (List Bx × Bool)) : Int := match r with | none => 3 | some _ => 0
def stL (r : Option (List Bx × Bool)) : List Bx := match r with | none => [] | some x => x.1
def StPost (w : World) (r : Option (List Bx × Bool)) (e : Ending) (w' : World) : Prop := ∃ v, e = .returned (.tuple #[v, .bool (stB r), .int .i64 (stE r)]) ∧ IsBoxes w' v (stL r) ∧ NewFrom w v ∧ Below w.heap.size w w'
theorem StPost.yes {w w' : World} {x : List Bx} {b : Bool} {e : Ending} (h : StPost w (some (x, b)) e w') : ∃ v, e = .returned (.tuple #[v, .bool b, .int .i64 0]) ∧ IsBoxes w' v x ∧ NewFrom w v ∧ Below w.heap.size w w' := h
theorem StPost.no {w w' : World} {e : Ending} (h : StPost w none e w') : ∃ v, e = .returned (.tuple #[v, .bool false, .int .i64 3]) ∧ Below w.heap.size w w' := by
 obtain ⟨v, h1, _, _, h4⟩ := h
 exact ⟨v, h1, h4⟩
theorem boxes_nil (w : World) : IsBoxes w (.slice none 0 0) [] := .inl ⟨rfl, rfl⟩
theorem new_nilS (w : World) : NewFrom w (.slice none 0 0) := fun g hg => by cases hg
theorem stF_none {t : List Rul} {i : Nat} (h : effF t i = none) : stF t i = none := by unfold stF; rw [h]
theorem stF_dead {t : List Rul} {i : Nat} (h : effF t i = some []) : stF t i = some ([], true) := by unfold stF; rw [h]; rfl
theorem stF_perm {t : List Rul} {i : Nat} {e : List Bx} (h : effF t i = some e) (h0 : e.isEmpty = false) (hp : permF t = none) : stF t i = none := by unfold stF; rw [h]; dsimp only; rw [if_neg (by rw [h0]; simp), hp]
theorem stF_wo {t : List Rul} {i : Nat} {e p : List Bx} (h : effF t i = some e) (h0 : e.isEmpty = false) (hp : permF t = some p) (hq : permF (woF t i) = none) : stF t i = none := by unfold stF; rw [h]; dsimp only; rw [if_neg (by rw [h0]; simp), hp]; dsimp only; rw [hq]
theorem stF_some {t : List Rul} {i : Nat} {e p q : List Bx} (h : effF t i = some e) (h0 : e.isEmpty = false) (hp : permF t = some p) (hq : permF (woF t i) = some q) : stF t i = some (e, decide (p = q)) := by unfold stF; rw [h]; dsimp only; rw [if_neg (by rw [h0]; simp), hp]; dsimp only; rw [hq]
set_option maxHeartbeats 16000000 in
theorem sstate_any {vt : Value} {t : List Rul} {i : Nat} (w : World) (ht : Tops w) (hv : IsTable w vt t) (kt : okT t) (hl : t.length ≤ 1000000000000) (hi : i < t.length) :
  Calls Tryz.prog 60 #[vt, .int .i64 i] w (StPost w (stF t i)) := by
 have hO := own_start [] w
 have h1 : ∀ w, Tops w → IsTable w vt t → Calls Tryz.prog 116 #[vt, .int .i64 i] w (SetPost w (effF t i)) := fun w ht hv => fEff_any w ht hv kt hl hi
 have h2 : ∀ w, Tops w → IsTable w vt t → Calls Tryz.prog 56 #[vt] w (SetPost w (permF t)) := fun w ht hv => fPermitted_any w ht hv kt hl
 have h3 : ∀ w, IsTable w vt t → Calls Tryz.prog 117 #[vt, .int .i64 i] w (RetTable w (woF t i)) := fun w hv => swithout_any w hv hi hl
 have h4 : ∀ v w, Tops w → IsTable w v (woF t i) → Calls Tryz.prog 56 #[v] w (SetPost w (permF (woF t i))) := fun v w ht hv => fPermitted_any w ht hv (okT_wo kt i) (by rw [woF_length hi]; omega)
 have hS0 := fun p hp => (permF_spec (t := t) (s := p) kt hp).1.le
 cases he : effF t i with
 | none =>
  rw [he] at h1
  rw [stF_none he]
  clear he h2 h3 h4 hS0
  go_enter Tryz.func60, Tryz.ntmps60
  go_wp2_with (go_at_call 116; (with_reducible refine (h1 _ (hO.tops ht (by simp)) (hv.keep0 hO)).mono ?_); rintro e wv hpo; obtain ⟨rfl, hb9⟩ := hpo.no; replace hO := hO.call hb9; clear hb9 hpo)
  go_ret3
  exact ⟨_, rfl, boxes_nil _, new_nilS _, hO.keep.below⟩
 | some e =>
  rw [he] at h1
  cases h0 : e.isEmpty with
  | true =>
   obtain rfl : e = [] := List.isEmpty_iff.1 h0
   rw [stF_dead he]
   clear he h0 h2 h3 h4 hS0
   go_enter Tryz.func60, Tryz.ntmps60
   go_wp2_with (go_at_call 116; (with_reducible refine (h1 _ (hO.tops ht (by simp)) (hv.keep0 hO)).mono ?_); rintro e wv hpo; obtain ⟨v3, rfl, hv9, hn9, hb9⟩ := hpo.yes; have hf3 := hv9.form; obtain ⟨a3, c3, rfl, -⟩ := hv9.form.view; replace hO := hO.gainB hb9 hv9 hn9; clear hb9 hpo hv9)
   go_ret3
   exact ⟨_, rfl, boxes_nil _, new_nilS _, hO.keep.below⟩
  | false =>
   have hn : 0 < e.length := List.length_pos_iff.2 (fun e => by rw [e] at h0; cases h0)
   have g3 : ((e.length : Int) == 0) = false := beq_eq_false_iff_ne.2 (by omega)
   clear hn
   cases hp : permF t with
   | none =>
    rw [hp] at h2
    rw [stF_perm he h0 hp]
    clear he h0 hp h3 h4 hS0
    go_enter Tryz.func60, Tryz.ntmps60
    go_wp2_with (first | (go_at_call 116; (with_reducible refine (h1 _ (hO.tops ht (by simp)) (hv.keep0 hO)).mono ?_); rintro e wv hpo; obtain ⟨v3, rfl, hv9, hn9, hb9⟩ := hpo.yes; have hf3 := hv9.form; obtain ⟨a3, c3, rfl, -⟩ := hv9.form.view; replace hO := hO.gainB hb9 hv9 hn9; clear hb9 hpo hv9) | (go_at_call 56; (with_reducible refine (h2 _ (hO.tops ht (by simp)) (hv.keep0 hO)).mono ?_); rintro e wv hpo; obtain ⟨rfl, hb9⟩ := hpo.no; replace hO := hO.call hb9; clear hb9 hpo))
    go_ret3
    exact ⟨_, rfl, boxes_nil _, new_nilS _, hO.keep.below⟩
   | some p =>
    rw [hp] at h2
    have np := hS0 p hp
    cases hq : permF (woF t i) with
    | none =>
     rw [hq] at h4
     rw [stF_wo he h0 hp hq]
     clear he h0 hp hq np hS0
     generalize woF t i = u at *
     go_enter Tryz.func60, Tryz.ntmps60
     go_wp2_with (first | (go_at_call 116; (with_reducible refine (h1 _ (hO.tops ht (by simp)) (hv.keep0 hO)).mono ?_); rintro e wv hpo; obtain ⟨v3, rfl, hv9, hn9, hb9⟩ := hpo.yes; have hf3 := hv9.form; obtain ⟨a3, c3, rfl, -⟩ := hv9.form.view; replace hO := hO.gainB hb9 hv9 hn9; clear hb9 hpo hv9) | (go_at_call 56; (with_reducible refine (h2 _ (hO.tops ht (by simp)) (hv.keep0 hO)).mono ?_); rintro e wv hpo; obtain ⟨v4, rfl, hv9, hn9, hb9⟩ := hpo.yes; have hf4 := hv9.form; obtain ⟨a4, c4, rfl, -⟩ := hv9.form.view; replace hO := hO.gainB hb9 hv9 hn9; clear hb9 hpo hv9; clear h2) | (go_at_call 117; (with_reducible refine (h3 _ (hv.keep0 hO)).mono ?_); rintro e wv ⟨v5, rfl, ⟨hv9, hn9⟩, hb9⟩; have hf5 := hv9.form; replace hO := hO.gainR hb9 hv9 hn9; clear hb9 hv9 h3) | (go_at_call 56; (with_reducible refine (h4 _ _ (hO.tops ht (by simp)) (hO.isR hf5 (by intro q hq; repeat (exact List.mem_append_left _ hq)))).mono ?_); rintro e wv hpo; obtain ⟨rfl, hb9⟩ := hpo.no; replace hO := hO.call hb9; clear hb9 hpo))
     go_ret3
     exact ⟨_, rfl, boxes_nil _, new_nilS _, hO.keep.below⟩
    | some q =>
     rw [hq] at h4
     rw [stF_some he h0 hp hq]
     clear he h0 hp hq hS0
     generalize woF t i = u at *
     have h5 := fun va vb w ha hb => bsameS_any (va := va) (vb := vb) (l := p) (m := q) w ha hb np
     generalize decide (p = q) = r at *
     go_enter Tryz.func60, Tryz.ntmps60
     go_wp2_with (first | (go_at_call 116; (with_reducible refine (h1 _ (hO.tops ht (by simp)) (hv.keep0 hO)).mono ?_); rintro e wv hpo; obtain ⟨v3, rfl, hv9, hn9, hb9⟩ := hpo.yes; have hf3 := hv9.form; obtain ⟨a3, c3, rfl, -⟩ := hv9.form.view; have hN3 : NewFrom w (.slice a3 e.length c3) := (fun g hg => Nat.le_trans hO.keep.size (hn9 g hg)); replace hO := hO.gainB hb9 hv9 hn9; clear hb9 hpo hv9) | (go_at_call 56; (with_reducible refine (h2 _ (hO.tops ht (by simp)) (hv.keep0 hO)).mono ?_); rintro e wv hpo; obtain ⟨v4, rfl, hv9, hn9, hb9⟩ := hpo.yes; have hf4 := hv9.form; obtain ⟨a4, c4, rfl, -⟩ := hv9.form.view; replace hO := hO.gainB hb9 hv9 hn9; clear hb9 hpo hv9; clear h2) | (go_at_call 117; (with_reducible refine (h3 _ (hv.keep0 hO)).mono ?_); rintro e wv ⟨v5, rfl, ⟨hv9, hn9⟩, hb9⟩; have hf5 := hv9.form; replace hO := hO.gainR hb9 hv9 hn9; clear hb9 hv9 h3) | (go_at_call 56; (with_reducible refine (h4 _ _ (hO.tops ht (by simp)) (hO.isR hf5 (by intro q hq; repeat (exact List.mem_append_left _ hq)))).mono ?_); rintro e wv hpo; obtain ⟨v6, rfl, hv9, hn9, hb9⟩ := hpo.yes; have hf6 := hv9.form; obtain ⟨a6, c6, rfl, -⟩ := hv9.form.view; replace hO := hO.gainB hb9 hv9 hn9; clear hb9 hpo hv9) | (go_at_call 118; (with_reducible refine (h5 _ _ _ (hO.isB hf4 (by intro q hq; repeat (first | exact List.mem_append_left _ hq | apply List.mem_append_right))) (hO.isB hf6 (by intro q hq; repeat (exact List.mem_append_left _ hq)))).mono ?_); rintro e wv ⟨rfl, hb9⟩; replace hO := hO.call hb9; clear hb9))
     go_ret3
     exact ⟨_, rfl, hO.isB hf3 (by intro q hq; repeat (first | exact List.mem_append_left _ hq | apply List.mem_append_right)), hN3, hO.keep.below⟩
def rmP (t : List Rul) (i : Int) : Bool × Int := if validT t = true then if i < 0 ∨ (t.length : Int) ≤ i then (false, 2) else (stB (stF t i.toNat), stE (stF t i.toNat)) else (false, 1)
set_option maxHeartbeats 4000000 in
theorem sRemovable_any {vt : Value} {t : List Rul} {i : Int} (w : World) (ht : Tops w) (hv : IsTable w vt t) (kt : okT t) (hl : t.length ≤ 1000000000000) :
  Calls Tryz.prog 27 #[vt, .int .i64 i] w fun e w' => e = .returned (.tuple #[.bool (rmP t i).1, .int .i64 (rmP t i).2]) ∧ Below w.heap.size w w' := by
 have hO := own_start [] w
 have h1 : ∀ w, Tops w → IsTable w vt t → Calls Tryz.prog 43 #[vt] w fun e w' => e = .returned (.bool (validT t)) ∧ Below w.heap.size w w' := fun w ht hv => fValid_any w ht hv (by omega)
 obtain ⟨a, c, rfl, -⟩ := hv.view
 unfold rmP
 cases hV : validT t with
 | false =>
  rw [hV] at h1
  rw [if_neg Bool.false_ne_true]
  clear hV
  go_enter Tryz.func27, Tryz.ntmps27
  go_wp2_with (go_at_call 43; (with_reducible refine (h1 _ (hO.tops ht (by simp)) (hv.keep0 hO)).mono ?_); rintro e wv ⟨rfl, hb9⟩; replace hO := hO.call hb9; clear hb9)
  go_ret2
  exact ⟨rfl, hO.keep.below⟩
 | true =>
  rw [hV] at h1
  rw [if_pos rfl]
  clear hV
  by_cases hlo : i < 0
  ·rw [if_pos (.inl hlo)]
   have g1 : decide (i < 0) = true := decide_eq_true hlo
   go_enter Tryz.func27, Tryz.ntmps27
   go_wp2_with (go_at_call 43; (with_reducible refine (h1 _ (hO.tops ht (by simp)) (hv.keep0 hO)).mono ?_); rintro e wv ⟨rfl, hb9⟩; replace hO := hO.call hb9; clear hb9)
   go_ret2
   exact ⟨rfl, hO.keep.below⟩
  ·have g1 : decide (i < 0) = false := decide_eq_false hlo
   by_cases hhi : (t.length : Int) ≤ i
   ·rw [if_pos (.inr hhi)]
    have g2 : decide ((t.length : Int) ≤ i) = true := decide_eq_true hhi
    go_enter Tryz.func27, Tryz.ntmps27
    go_wp2_with (go_at_call 43; (with_reducible refine (h1 _ (hO.tops ht (by simp)) (hv.keep0 hO)).mono ?_); rintro e wv ⟨rfl, hb9⟩; replace hO := hO.call hb9; clear hb9)
    go_ret2
    exact ⟨rfl, hO.keep.below⟩
   ·rw [if_neg (by omega)]
    obtain ⟨k, rfl⟩ : ∃ k : Nat, i = (k : Int) := ⟨i.toNat, by omega⟩
    have g2 : decide ((t.length : Int) ≤ (k : Int)) = false := decide_eq_false hhi
    have hk : k < t.length := by omega
    have h2 : ∀ w, Tops w → IsTable w (.slice a t.length c) t → Calls Tryz.prog 60 #[.slice a t.length c, .int .i64 k] w (StPost w (stF t k)) := fun w ht hv => sstate_any w ht hv kt hl hk
    rw [Int.toNat_natCast]
    generalize stF t k = r at *
    go_enter Tryz.func27, Tryz.ntmps27
    go_wp2_with (first | (go_at_call 43; (with_reducible refine (h1 _ (hO.tops ht (by simp)) (hv.keep0 hO)).mono ?_); rintro e wv ⟨rfl, hb9⟩; replace hO := hO.call hb9; clear hb9) | (go_at_call 60; (with_reducible refine (h2 _ (hO.tops ht (by simp)) (hv.keep0 hO)).mono ?_); rintro e wv ⟨v9, rfl, -, -, hb9⟩; replace hO := hO.call hb9; clear hb9))
    go_ret2
    exact ⟨rfl, hO.keep.below⟩
end Go.Proofs.YtbdfblgdmappeaaGreatDoor
