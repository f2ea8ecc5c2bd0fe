/- Tables without a rule, the states of rules, findings, clean tables. No program in sight. -/
import Derived.Test.YtjoionnnpjajmaaDoorOB
namespace Go.Proofs.YtjoionnnpjajmaaDoor
open Go.RowKit
def woF {α : Type} (t : List α) (i : Nat) : List α := t.take i ++ t.drop (i + 1)
theorem woF_length {α : Type} {t : List α} {i : Nat} (h : i < t.length) : (woF t i).length = t.length - 1 := by
 simp only [woF, List.length_append, List.length_take, List.length_drop]; omega
theorem woF_mem {α : Type} {t : List α} {i : Nat} {x : α} (h : x ∈ woF t i) : x ∈ t := (List.mem_append.1 h).elim List.mem_of_mem_take List.mem_of_mem_drop
theorem woF_map {α β : Type} (f : α → β) (t : List α) (i : Nat) : (woF t i).map f = woF (t.map f) i := by
 simp [woF, List.map_take, List.map_drop]
theorem okT_wo {t : List Rul} (h : okT t) (i : Nat) : okT (woF t i) := fun r hr => h r (woF_mem hr)
def meetB (a b : Bx) : Bool := (interB a b).2
def commonF (a b : List Bx) : Bool := a.any fun x => b.any fun y => meetB x y
def stF (t : List Rul) (i : Nat) : Option (List Bx × Bool) := match effF t i with
 | none => none
 | some e => if e.isEmpty then some ([], true) else match permF t with
  | none => none
  | some p => match permF (woF t i) with
   | none => none
   | some q => some (e, decide (p = q))
theorem stF_cases {t : List Rul} {i : Nat} {x : List Bx × Bool} (h : stF t i = some x) : (∃ e, effF t i = some e ∧ e.isEmpty = true ∧ x = ([], true)) ∨ ∃ e p q, effF t i = some e ∧ e.isEmpty = false ∧ permF t = some p ∧ permF (woF t i) = some q ∧ x = (e, decide (p = q)) := by
 unfold stF at h
 split at h
 ·cases h
 ·rename_i e he
  split at h
  ·rename_i h0
   cases h
   exact .inl ⟨e, he, h0, rfl⟩
  ·rename_i h0
   split at h
   ·cases h
   ·rename_i p hp
    split at h
    ·cases h
    ·rename_i q hq
     cases h
     exact .inr ⟨e, p, q, he, by simpa using h0, hp, hq, rfl⟩
def befT (b : Bx) (t : List Rul) : Nat → List Int
 | 0 => []
 | k + 1 => match t[k]? with
  | none => befT b t k
  | some r => if meetB r.1 b then befT b t k ++ [(k : Int)] else befT b t k
def heirN (u : List Rul) (e : List Bx) (i : Nat) : Nat → Option (List Int)
 | 0 => some []
 | n + 1 => match heirN u e i n with
  | none => none
  | some l => match effF u (i + n) with
   | none => none
   | some s => some (if commonF e s then l ++ [((i + n + 1 : Nat) : Int)] else l)
theorem heirN_none {u : List Rul} {e : List Bx} {i n : Nat} (h : heirN u e i n = none) : ∀ m, heirN u e i (n + m) = none
 | 0 => h
 | m + 1 => by rw [← Nat.add_assoc, heirN, heirN_none h m]
def excF (r : Rul) : List Rul → Nat → Option Nat
 | [], _ => none
 | q :: l, k => if (q.2 != r.2 && subB r.1 q.1) = true then some k else excF r l (k + 1)
theorem excF_drop {t : List Rul} {r : Rul} {k : Nat} (h : k < t.length) : excF r (t.drop k) k = if (t[k].2 != r.2 && subB r.1 t[k].1) = true then some k else excF r (t.drop (k + 1)) (k + 1) := by
 rw [List.drop_eq_getElem_cons h, excF]
abbrev Fnd := Int × Int × List Int
def excL (i : Nat) : Option Nat → List Fnd
 | none => []
 | some k => [((i : Int), 3, [(k : Int)])]
def anS (t : List Rul) (i : Nat) : Option (List Fnd) := match t[i]? with
 | none => none
 | some r => match stF t i with
  | none => none
  | some (e, rm) => if e.isEmpty = true then some [((i : Int), 1, befT r.1 t i)]
   else if rm = true then match heirN (woF t i) e i (t.length - 1 - i) with
    | none => none
    | some hs => some (((i : Int), 2, hs) :: excL i (excF r (t.drop (i + 1)) (i + 1)))
   else some (excL i (excF r (t.drop (i + 1)) (i + 1)))
def anF (t : List Rul) : Nat → Option (List Fnd)
 | 0 => some []
 | n + 1 => match anF t n with
  | none => none
  | some l => match anS t n with
   | none => none
   | some m => some (l ++ m)
theorem anF_none {t : List Rul} {n : Nat} (h : anF t n = none) : ∀ m, anF t (n + m) = none
 | 0 => h
 | m + 1 => by rw [← Nat.add_assoc, anF, anF_none h m]
theorem anF_up {t : List Rul} {n m : Nat} (h : anF t n = none) (hm : n ≤ m) : anF t m = none := by
 obtain ⟨k, rfl⟩ := Nat.exists_eq_add_of_le hm
 exact anF_none h k
theorem anS_none {t : List Rul} {i : Nat} (h : stF t i = none) : anS t i = none := by
 unfold anS
 cases t[i]? with
 | none => rfl
 | some r => dsimp only; rw [h]
theorem anF_st {t : List Rul} {i m : Nat} (h : stF t i = none) (hm : i < m) : anF t m = none := by
 refine anF_up (n := i + 1) ?_ hm
 rw [anF, anS_none h]
 cases anF t i <;> rfl
def clF (t : List Rul) (ix rm : List Int) (i : Nat) : Option (List Rul × List Int) :=
 if _h : i < t.length then match stF t i with
  | none => none
  | some x => if x.2 = true then clF (woF t i) (woF ix i) (rm ++ [ix.getD i 0]) 0 else clF t ix rm (i + 1)
 else some (t, rm)
termination_by (t.length, t.length - i)
decreasing_by
 ·rw [woF_length _h]; exact Prod.Lex.left _ _ (by omega)
 ·exact Prod.Lex.right _ (by omega)
theorem clF_end {t : List Rul} {ix rm : List Int} {i : Nat} (h : ¬ i < t.length) : clF t ix rm i = some (t, rm) := by rw [clF, dif_neg h]
theorem clF_none {t : List Rul} {ix rm : List Int} {i : Nat} (h : i < t.length) (hs : stF t i = none) : clF t ix rm i = none := by rw [clF, dif_pos h, hs]
theorem clF_go {t : List Rul} {ix rm : List Int} {i : Nat} {e : List Bx} (h : i < t.length) (hs : stF t i = some (e, false)) : clF t ix rm i = clF t ix rm (i + 1) := by rw [clF, dif_pos h, hs]; rfl
theorem clF_rm {t : List Rul} {ix rm : List Int} {i : Nat} {e : List Bx} (h : i < t.length) (hs : stF t i = some (e, true)) : clF t ix rm i = clF (woF t i) (woF ix i) (rm ++ [ix.getD i 0]) 0 := by rw [clF, dif_pos h, hs]; rfl
def upTo (n : Nat) : List Int := (List.range n).map fun k : Nat => (k : Int)
theorem upTo_length (n : Nat) : (upTo n).length = n := by simp [upTo]
theorem upTo_succ (n : Nat) : upTo (n + 1) = upTo n ++ [(n : Int)] := by simp [upTo, List.range_succ]
set_option maxRecDepth 100000
def FormC (v : Value) (n : Nat) : Prop := (v = .slice none 0 0 ∧ n = 0) ∨ ∃ g o c, v = .slice (some ⟨g, o, none⟩) n c ∧ n ≤ c
theorem isCells_form {w : World} {v : Value} {n : Nat} {xs : List Value} (h : IsCells w v n xs) : FormC v n := by
 rcases h with ⟨h1, h2, _⟩ | ⟨g, o, c, h1, h2, _⟩
 ·exact .inl ⟨h1, h2⟩
 ·exact .inr ⟨g, o, c, h1, h2⟩
theorem FormC.view {v : Value} {n : Nat} (h : FormC v n) : ∃ a c, v = .slice a n c ∧ (0 < n → ∃ g o, a = some ⟨g, o, none⟩) := by
 rcases h with ⟨rfl, rfl⟩ | ⟨g, o, c, rfl, _⟩
 ·exact ⟨none, 0, rfl, fun h => absurd h (by omega)⟩
 ·exact ⟨_, c, rfl, fun _ => ⟨g, o, rfl⟩⟩
section
variable {M : List Nat} {w0 w w' : World} {X : List Chunk} {R : List Row} {S : List Ro}
theorem Own.isC (hO : Own M w0 X R S w) {v : Value} {n : Nat} {xs : List Value} (hf : FormC v n) (h0 : n = 0 → xs = []) (hS : ∀ s ∈ roS v xs, s ∈ S) : IsCells w v n xs := by
 rcases hf with ⟨h1, h2⟩ | ⟨g, o, c, rfl, hc⟩
 ·exact .inl ⟨h1, h2, h0 h2⟩
 ·exact .inr ⟨g, o, c, rfl, hc, hO.ro ⟨g, o, xs⟩ (hS _ List.mem_cons_self)⟩
theorem Own.addC2 {B : Nat} (h1 : Own M w0 X R S w') (hlt : ∀ g ∈ excl X R, g < B) {v : Value} {n : Nat} {xs : List Value} (hv : IsCells w' v n xs) (hn : ∀ g, v.ownBlock = some g → B ≤ g) : Own M w0 X R (roS v xs ++ S) w' := by
 rcases hv with ⟨rfl, rfl, rfl⟩ | ⟨g, o, c, rfl, _, hr⟩
 ·exact h1
 ·refine h1.addRo ⟨g, o, xs⟩ hr fun _ hm => ?_
  have h2 := hlt g hm
  have h3 := hn g rfl
  omega
theorem Own.chunkRoX {n : Nat} {cs : List Value} {t : TypeId} (hO : Own M w0 (⟨n, cs, t⟩ :: X) R S w) : Own M w0 X R (⟨n, 0, cs⟩ :: S) w :=
 (hO.sub (.cons _ (.refl _)) (.refl _) (fun _ h => h)).addRo ⟨n, 0, cs⟩ (fun j u hj => by rw [(hO.chunk _ List.mem_cons_self).cell (0 + j)]; simpa using hj) (fun _ hm => by
  have h := hO.nd
  unfold excl at h hm
  rw [List.map_cons, List.cons_append, List.nodup_cons] at h
  exact h.1 hm)
theorem Own.gainC (hO : Own M w0 X R S w) (hb : Below w.heap.size w w') {v : Value} {n : Nat} {xs : List Value} (hv : IsCells w' v n xs) (hn : NewFrom w v) : Own M w0 X R (roS v xs ++ S) w' := (hO.call hb).addC2 hO.lt hv hn
end
def IsNums (w : World) (v : Value) (l : List Int) : Prop := IsCells w v l.length (ints l)
def RetNums (w : World) (l : List Int) (e : Ending) (w' : World) : Prop := ∃ v, e = .returned v ∧ (IsNums w' v l ∧ NewFrom w v) ∧ Below w.heap.size w w'
theorem ints_len (l : List Int) : (ints l).length = l.length := by simp [ints]
theorem ints_nil {l : List Int} (h : l.length = 0) : ints l = [] := by rw [List.length_eq_zero_iff.1 h]; rfl
theorem ints_app (l m : List Int) : ints (l ++ m) = ints l ++ ints m := by simp [ints]
theorem ints_get {l : List Int} {k : Nat} (h : k < l.length) : (ints l)[k]? = some (.int .i64 l[k]) := by simp [ints, h]
theorem ints_one (l : List Int) : (ints l).all (·.oneCell') = true := by
 unfold ints
 rw [List.all_map, List.all_eq_true]
 exact fun _ _ => rfl
theorem Own.isNums {M : List Nat} {w0 w : World} {X : List Chunk} {R : List Row} {S : List Ro} (hO : Own M w0 X R S w) {v : Value} {l : List Int} (hf : FormC v l.length) (hS : ∀ s ∈ roS v (ints l), s ∈ S) : IsNums w v l := hO.isC hf (fun h => ints_nil h) hS
theorem Own.rowNums {M : List Nat} {w0 w : World} {X : List Chunk} {R : List Row} {S : List Ro} (hO : Own M w0 X R S w) {v : Value} {l : List Int} {e : TypeId} {k size : Nat} (hk : k = l.length) (hm : (⟨v, k, ints l, e, size⟩ : Row) ∈ R) : IsNums w v l := by
 subst hk
 exact hO.rowIs hm
section
variable {M : List Nat} {w0 w : World} {X : List Chunk} {R : List Row} {S : List Ro}
theorem Own.isBm (hO : Own M w0 X R S w) {v : Value} {l : List Bx} (hf : FormB v l) (hS : ∀ s ∈ roS v (cellsB l), s ∈ S := by intro q hq; repeat (first | exact hq | exact List.mem_append_left _ hq | apply List.mem_append_right | apply List.mem_cons_of_mem)) : IsBoxes w v l := hO.isB hf hS
theorem Own.isRm (hO : Own M w0 X R S w) {v : Value} {l : List Rul} (hf : FormR v l) (hS : ∀ s ∈ roS v (cellsR l), s ∈ S := by intro q hq; repeat (first | exact hq | exact List.mem_append_left _ hq | apply List.mem_append_right | apply List.mem_cons_of_mem)) : IsTable w v l := hO.isR hf hS
theorem Own.isNumsm (hO : Own M w0 X R S w) {v : Value} {l : List Int} (hf : FormC v l.length) (hS : ∀ s ∈ roS v (ints l), s ∈ S := by intro q hq; repeat (first | exact hq | exact List.mem_append_left _ hq | apply List.mem_append_right | apply List.mem_cons_of_mem)) : IsNums w v l := hO.isNums hf hS
end
def cellsN : List (Fnd × Value) → List Value
 | [] => []
 | p :: l => .int .i64 p.1.1 :: .int .i64 p.1.2.1 :: p.2 :: cellsN l
theorem cellsN_append (l m : List (Fnd × Value)) : cellsN (l ++ m) = cellsN l ++ cellsN m := by
 induction l with
 | nil => rfl
 | cons b l ih => simp [cellsN, ih]
theorem cellsN_at {l : List (Fnd × Value)} {k : Nat} (h : k < l.length) : (cellsN l)[k * 3]? = some (.int .i64 l[k].1.1) ∧ (cellsN l)[k * 3 + 1]? = some (.int .i64 l[k].1.2.1) ∧ (cellsN l)[k * 3 + 2]? = some l[k].2 := by
 induction l generalizing k with
 | nil => simp at h
 | cons b l ih =>
  cases k with
  | zero => exact ⟨rfl, rfl, rfl⟩
  | succ k =>
   obtain ⟨h1, h2, h3⟩ := ih (k := k) (by simpa using h)
   rw [show (k + 1) * 3 = k * 3 + 1 + 1 + 1 by omega]
   exact ⟨h1, h2, h3⟩
def roN : List (Fnd × Value) → List Ro
 | [] => []
 | p :: l => roS p.2 (ints p.1.2.2) ++ roN l
theorem roN_append (l m : List (Fnd × Value)) : roN (l ++ m) = roN l ++ roN m := by
 induction l with
 | nil => rfl
 | cons b l ih => simp [roN, ih]
theorem roN_mem {l : List (Fnd × Value)} {p : Fnd × Value} (h : p ∈ l) : ∀ s ∈ roS p.2 (ints p.1.2.2), s ∈ roN l := by
 induction l with
 | nil => cases h
 | cons b l ih =>
  intro s hs
  rcases List.mem_cons.1 h with rfl | h
  ·exact List.mem_append_left _ hs
  ·exact List.mem_append_right _ (ih h s hs)
def IsFinds (w w' : World) (v : Value) (ps : List (Fnd × Value)) : Prop := IsCells w' v ps.length (cellsN ps) ∧ NewFrom w v ∧ ∀ p ∈ ps, IsNums w' p.2 p.1.2.2 ∧ NewFrom w p.2
def FormN (v : Value) (ps : List (Fnd × Value)) : Prop := FormC v ps.length ∧ ∀ p ∈ ps, FormC p.2 p.1.2.2.length
theorem IsFinds.form {w w' : World} {v : Value} {ps : List (Fnd × Value)} (h : IsFinds w w' v ps) : FormN v ps := ⟨isCells_form h.1, fun p hp => isCells_form (h.2.2 p hp).1⟩
section
variable {M : List Nat} {w0 w w' : World} {X : List Chunk} {R : List Row} {S : List Ro}
theorem Own.addN {B : Nat} (h1 : Own M w0 X R S w') (hlt : ∀ g ∈ excl X R, g < B) : ∀ {ps : List (Fnd × Value)}, (∀ p ∈ ps, IsNums w' p.2 p.1.2.2 ∧ ∀ g, p.2.ownBlock = some g → B ≤ g) → Own M w0 X R (roN ps ++ S) w'
 | [], _ => h1
 | p :: ps, h => by
  have h2 := h1.addN hlt (ps := ps) fun q hq => h q (List.mem_cons_of_mem _ hq)
  obtain ⟨h3, h4⟩ := h p List.mem_cons_self
  have h5 := h2.addC2 hlt h3 h4
  rwa [← List.append_assoc] at h5
theorem Own.gainN (hO : Own M w0 X R S w) (hb : Below w.heap.size w w') {v : Value} {ps : List (Fnd × Value)} (h : IsFinds w w' v ps) : Own M w0 X R (roN ps ++ (roS v (cellsN ps) ++ S)) w' :=
 ((hO.call hb).addC2 hO.lt h.1 h.2.1).addN hO.lt h.2.2
end
theorem slice_Finds : SliceT Tryd.prog 50 56 3 40 := ⟨Tryd.underlying50, by omega, by
 obtain ⟨i, h1, h2, h3, h4⟩ := info_parts (show (Tryd.prog.info? 56).map (fun i => (i.zero, i.size, i.bytes)) = some (some (.agg #[.int .i64 0, .int .i64 0, .slice none 0 0]), 3, 40) by kernel_rfl)
 exact ⟨i, _, h1, h2, h3, h4, rfl⟩⟩
theorem run_find (a b : Int) (ad : Option Addr) (n c : Nat) (w : World) : (Instr.build 56 #[(0, .int .i64 a), (1, .int .i64 b), (2, .slice ad n c)]).run Tryd.prog w = .ok (.agg #[.int .i64 a, .int .i64 b, .slice ad n c]) w := run_build w _ _ _ (by kernel_rfl)
attribute [go_sem high] run_find
theorem slice_Ints : SliceT Tryd.prog 22 3 1 8 := ⟨Tryd.underlying22, by omega, by
 obtain ⟨i, h1, h2, h3, h4⟩ := info_parts (show (Tryd.prog.info? 3).map (fun i => (i.zero, i.size, i.bytes)) = some (some (.int .i64 0), 1, 8) by kernel_rfl)
 exact ⟨i, _, h1, h2, h3, h4, rfl⟩⟩
theorem src_part {w : World} {g o c n i : Nat} {l : List Rul} (h : IsTable w (.slice (some ⟨g, o, none⟩) l.length c) l) (hi : i + n = l.length) : SrcAt w 11 (if c = i then some ⟨g, o, none⟩ else some ⟨g, o + i * 11, none⟩) n (cellsR ((l.drop i).take n)) := by
 have hl : ((l.drop i).take n).length = n := by simp; omega
 have hc := h.cap
 by_cases h0 : c = i
 ·have hn : n = 0 := by omega
  subst hn
  exact ⟨by rw [cellsR_length, hl], fun h => absurd h (by omega)⟩
 ·rw [if_neg h0]
  have h1 := isCells_table.1 (h.part i n n (by omega) (Nat.le_refl _))
  rw [hl] at h1
  exact src_of_cells h1 (by rw [cellsR_length, hl])
end Go.Proofs.YtjoionnnpjajmaaDoor
