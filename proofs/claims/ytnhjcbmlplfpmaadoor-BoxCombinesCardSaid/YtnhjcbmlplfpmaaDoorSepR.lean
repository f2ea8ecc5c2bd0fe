/- Growable slices of the call's own: loads from them, stores into them, calls that change them; what a slice reads as. For any program. -/
import Derived.Test.YtnhjcbmlplfpmaaDoorBuild
import Derived.Laws.OwnMore
namespace Go.Proofs.YtnhjcbmlplfpmaaDoor
open Go.RowKit
/-- a slice that reads as these cells (n elements) -/
def IsCells (w : World) (v : Value) (n : Nat) (xs : List Value) : Prop :=
  (v = .slice none 0 0 ∧ n = 0 ∧ xs = []) ∨ ∃ g o c, v = .slice (some ⟨g, o, none⟩) n c ∧ n ≤ c ∧ w.rangeAt g o xs
def roC (v : Value) (xs : List Value) : List Ro := match v with
  | .slice (some ⟨g, o, none⟩) _ _ => [⟨g, o, xs⟩]
  | _ => []
theorem IsCells.view {w : World} {v : Value} {n : Nat} {xs : List Value} (h : IsCells w v n xs) : ∃ a c, v = .slice a n c ∧ n ≤ c ∧ (∀ s ∈ roC v xs, w.rangeAt s.g s.o s.xs) ∧ (a = none → n = 0 ∧ c = 0 ∧ xs = []) ∧ (a ≠ none → ∃ g o, a = some ⟨g, o, none⟩) := by
  rcases h with ⟨rfl, rfl, rfl⟩ | ⟨g, o, c, rfl, hc, h⟩
  · exact ⟨none, 0, rfl, Nat.le_refl _, by simp [roC], fun _ => ⟨rfl, rfl, rfl⟩, fun h => absurd rfl h⟩
  · exact ⟨_, c, rfl, hc, by simpa [roC] using h, (fun h => by cases h), fun _ => ⟨g, o, rfl⟩⟩
theorem IsCells.keepB {w w' : World} {v : Value} {n : Nat} {xs : List Value} {M : List Nat} (h : IsCells w v n xs) (hk : Keep M w w') (hM : ∀ g, v.ownBlock = some g → g ∉ M) : IsCells w' v n xs := by
  rcases h with h | ⟨g, o, c, rfl, hc, h⟩
  · exact .inl h
  · refine .inr ⟨g, o, c, rfl, hc, fun j u hj => ?_⟩
    have h4 := h j u hj
    rw [World.cell?_of_block (w := w) (hk.block _ (World.block_lt_of_cell? w _ h4) (hM g rfl))]; exact h4
theorem IsCells.below {w w' : World} {v : Value} {n : Nat} {xs : List Value} (h : IsCells w v n xs) (hb : Below w.heap.size w w') : IsCells w' v n xs := h.keepB (keep_of_below hb []) (by simp)
theorem own_roC {w : World} {v : Value} {n : Nat} {xs : List Value} (h : IsCells w v n xs) : Own [] w [] [] (roC v xs) w := by
  obtain ⟨a, c, _, _, hr, _⟩ := h.view
  exact ⟨Keep.refl _ _, fun c hc => (by cases hc), fun r hr => (by cases hr), hr, by simp [excl], by simp [excl], by simp [excl]⟩
theorem own_roC2 {w : World} {v u : Value} {n m : Nat} {xs ys : List Value} (h : IsCells w v n xs) (k : IsCells w u m ys) : Own [] w [] [] (roC v xs ++ roC u ys) w := by
  obtain ⟨a, c, _, _, hr, _⟩ := h.view
  obtain ⟨a', c', _, _, hr', _⟩ := k.view
  exact ⟨Keep.refl _ _, fun c hc => (by cases hc), fun r hr => (by cases hr), fun s hs => by
    rcases List.mem_append.1 hs with hs | hs
    · exact hr s hs
    · exact hr' s hs, by simp [excl], by simp [excl], by simp [excl]⟩

section
variable {P : Program} {ops : Array Oper} {rest : List Oper} {o : Oper} {a : Act} {w w0 w' : World} {Q : Exit → Act → World → Prop} {M : List Nat} {X X' : List Chunk} {R R' : List Row} {S : List Ro}
theorem UpdR.mem {r r' : Row} (h : UpdR R r r' R') : r ∈ R := by
  obtain ⟨i, h1, _⟩ := h.at
  exact List.mem_of_getElem? h1
/-- read through a row -/
theorem Own.rowCell (hO : Own M w0 X R S w) {g k cap j size : Nat} {xs : List Value} {e : TypeId} {v : Value} (hm : (⟨.slice (some ⟨g, 0, none⟩) k cap, k, xs, e, size⟩ : Row) ∈ R) (hv : xs[j]? = some v) : w.cell? ⟨g, j, none⟩ = some v := by
  have h := hO.row _ hm
  have hl := (List.getElem?_eq_some_iff.1 hv).1
  rw [h.cellAt j (by rw [← h.1]; exact hl)]; exact hv
theorem Own.rowRange (hO : Own M w0 X R S w) {g k cap j size : Nat} {xs vs : List Value} {e : TypeId} (hm : (⟨.slice (some ⟨g, 0, none⟩) k cap, k, xs, e, size⟩ : Row) ∈ R) (hv : (xs.drop j).take vs.length = vs) : w.rangeAt g j vs := by
  intro i u hu
  refine hO.rowCell hm ?_
  have hl := (List.getElem?_eq_some_iff.1 hu).1
  rw [← hv, List.getElem?_take, if_pos hl, List.getElem?_drop] at hu
  exact hu
theorem Own.rowIs (hO : Own M w0 X R S w) {v : Value} {k size : Nat} {xs : List Value} {e : TypeId} (hm : (⟨v, k, xs, e, size⟩ : Row) ∈ R) : IsCells w v k xs := by
  have h := hO.row _ hm
  rcases h.2 with ⟨h1, h2⟩ | ⟨g, cap, cur, h1, _, hg, hc, _, _, ht⟩
  · have h1' : v = .slice none 0 0 := h1
    have h2' : k = 0 := h2
    refine .inl ⟨h1', h2', List.eq_nil_of_length_eq_zero ?_⟩
    have := h.1
    simp only [h2', Nat.zero_mul] at this
    exact this
  · have h1' : v = .slice (some ⟨g, 0, none⟩) k cap := h1
    subst h1'
    exact .inr ⟨g, 0, cap, rfl, hc, fun j u hu => by rw [Nat.zero_add]; exact hO.rowCell hm hu⟩
theorem Own.roIs (hO : Own M w0 X R S w) {g o k c : Nat} {xs : List Value} (hm : (⟨g, o, xs⟩ : Ro) ∈ S) (hc : k ≤ c) : IsCells w (.slice (some ⟨g, o, none⟩) k c) k xs := .inr ⟨g, o, c, rfl, hc, hO.ro _ hm⟩
/-- a part of a slice that reads as these cells -/
theorem IsCells.sub {g o k c : Nat} {xs : List Value} (h : IsCells w (.slice (some ⟨g, o, none⟩) k c) k xs) {i n c' : Nat} {ys : List Value} (hy : (xs.drop i).take ys.length = ys) (hc : n ≤ c') : IsCells w (.slice (some ⟨g, o + i, none⟩) n c') n ys := by
  rcases h with ⟨h, _⟩ | ⟨g', o', c1, h1, h2, h3⟩
  · cases h
  · cases h1
    refine .inr ⟨g, o + i, c', rfl, hc, fun j u hu => ?_⟩
    have hl := (List.getElem?_eq_some_iff.1 hu).1
    rw [← hy, List.getElem?_take, if_pos hl, List.getElem?_drop] at hu
    rw [Nat.add_assoc]
    exact h3 _ _ hu
theorem own_ldR (hO : Own M w0 X R S w) (hw : Region.wanted o (yielded ops a.tmps) = true) {t : TypeId} {x : Operand} (ho : o.op = .load t x) {g j k cap size : Nat} (hx : a.eval x = .pointer (some ⟨g, j, none⟩))
    (ht : OneT P t) {xs : List Value} {e : TypeId} {v : Value} (hm : (⟨.slice (some ⟨g, 0, none⟩) k cap, k, xs, e, size⟩ : Row) ∈ R) (hv : xs[j]? = some v)
    (h : wpList P ops Q rest (a.put o.dst v) w) : wpList P ops Q (o :: rest) a w :=
  wpList_val hw _ _ (rx_load1 ho hx ht (hO.rowCell hm hv)) h
theorem row_base {base size k : Nat} {v : Value} {xs : List Value} {e : TypeId} (h : w.ownsRow base e size v k xs) : w.ownsRow 0 e size v k xs :=
  ⟨h.1, h.2.imp id fun ⟨g, cap, cur, h1, _, h3⟩ => ⟨g, cap, cur, h1, Nat.zero_le _, h3⟩⟩
theorem own_stRow (hO : Own M w0 X R S w) (hw : Region.wanted o (yielded ops a.tmps) = true) {t : TypeId} {x y : Operand} (ho : o.op = .store t x y) {g j k cap size : Nat} (hx : a.eval x = .pointer (some ⟨g, j, none⟩))
    {v : Value} (hy : a.eval y = v) (ht : OneT P t) {xs : List Value} {e : TypeId} (hu : UpdR R ⟨.slice (some ⟨g, 0, none⟩) k cap, k, xs, e, size⟩ ⟨.slice (some ⟨g, 0, none⟩) k cap, k, xs.set j v, e, size⟩ R') (hl : j < xs.length) (h1 : v.oneCell' = true)
    (h : ∀ w', Own M w0 X R' S w' → wpList P ops Q rest (a.put o.dst undef) w') : wpList P ops Q (o :: rest) a w := by
  have hr := hO.row _ hu.mem
  have hc := hO.rowCell hu.mem (List.getElem?_eq_getElem hl)
  obtain ⟨A, B, rfl, rfl⟩ := hu.split
  have hs := hr.stored j v
  exact wpList_skp hw _ (rx_store1 ho hx hy ht (Option.isSome_iff_exists.2 ⟨_, hc⟩) (hr.frozenAt j) h1) (h _ (hO.grow hs.2 hs.1 fun g' hg' => .inl hg'))
theorem grown_of_keep {row : Option Nat} (hk : Keep row.toList w w') : w.grownBy w' row :=
  ⟨hk.os, hk.tape, hk.output, hk.size, fun k hl hne => hk.block k hl (by cases row with
    | none => simp
    | some b => simpa using fun e => hne (by rw [e]))⟩
theorem keep_of_grown {row : Option Nat} (hk : w.grownBy w' row) : Keep row.toList w w' :=
  ⟨hk.os, hk.tape, hk.output, hk.size, fun k hl hne => hk.block k hl (by rintro rfl; simp at hne)⟩
/-- a call that changes one row of ours -/
theorem Own.afterRow (hO : Own M w0 X R S w) {v : Value} {k size : Nat} {xs ys : List Value} {e : TypeId} (hu : UpdR R ⟨v, k, xs, e, size⟩ ⟨v, k, ys, e, size⟩ R') (hk : Keep v.ownBlock.toList w w') (hr : w'.ownsRow 0 e size v k ys) : Own M w0 X R' S w' := by
  obtain ⟨A, B, rfl, rfl⟩ := hu.split
  exact hO.grow (r := ⟨v, k, xs, e, size⟩) (r' := ⟨v, k, ys, e, size⟩) (grown_of_keep hk) hr fun g hg => .inl hg
/-- a call that hands back a row of its own -/
theorem Own.gainRow (hO : Own M w0 X R S w) (hb : Below w.heap.size w w') {v : Value} {k size : Nat} {xs : List Value} {e : TypeId} (hr : w'.ownsRow w.heap.size e size v k xs) : Own M w0 X (⟨v, k, xs, e, size⟩ :: R) S w' := by
  have h1 := hO.call hb
  have hmem : ∀ n, n ∈ excl X (⟨v, k, xs, e, size⟩ :: R) ↔ n ∈ excl X R ∨ v.ownBlock = some n := fun n => by
    have := mem_blocks (X := X) (A := []) (B := R) (r := ⟨v, k, xs, e, size⟩) (g := n)
    simpa [excl] using this
  have hnew : ∀ n, v.ownBlock = some n → w.heap.size ≤ n := fun n hn => (hr.lt n hn).1
  refine ⟨h1.keep, h1.chunk, fun r hr' => ?_, h1.ro, ?_, fun n hn => ?_, fun s hs hne hm => ?_⟩
  · rcases List.mem_cons.1 hr' with rfl | hr'
    · exact row_base hr
    · exact h1.row r hr'
  · have := (nodup_blocks (X := X) (A := []) (B := R) (r := ⟨v, k, xs, e, size⟩)).2 ⟨by simpa [excl] using hO.nd, fun g hg hm => by
      have h2 := hO.lt g (by simpa [excl] using hm)
      have := hnew g hg
      omega⟩
    simpa using this
  · rcases (hmem n).1 hn with hn | hn
    · exact h1.free n hn
    · exact .inr (Nat.le_trans hO.keep.size (hnew n hn))
  · rcases (hmem s.g).1 hm with hm | hm
    · exact h1.apart s hs hne hm
    · have h2 := ro_lt (hO.ro s hs) hne
      have := hnew _ hm
      omega
theorem own_takeRow {v : Value} {k size : Nat} {xs : List Value} {e : TypeId} (h : w.ownsRow 0 e size v k xs) (S : List Ro) (hS : ∀ s ∈ S, w.rangeAt s.g s.o s.xs ∧ (s.xs ≠ [] → v.ownBlock ≠ some s.g)) : Own v.ownBlock.toList w [] [⟨v, k, xs, e, size⟩] S w :=
  ⟨Keep.refl _ _, fun c hc => (by cases hc), fun r hr => by obtain rfl := List.mem_singleton.1 hr; exact h, fun s hs => (hS s hs).1, by cases hv : v.ownBlock <;> simp [excl, hv], fun n hn => .inl (by cases hv : v.ownBlock <;> simp [excl, hv] at hn ⊢; exact hn), fun s hs hne hm => (hS s hs).2 hne (by cases hv : v.ownBlock <;> simp [excl, hv] at hm ⊢; exact hm.symm)⟩
/-- what a call leaves that changes one row that came in -/
def RowPost (w : World) (v : Value) (k : Nat) (e : TypeId) (size : Nat) (ys : List Value) (r : Value) (en : Ending) (w' : World) : Prop := en = .returned r ∧ Keep v.ownBlock.toList w w' ∧ w'.ownsRow 0 e size v k ys
theorem row_post {v : Value} {k size : Nat} {ys : List Value} {e : TypeId} {r : Value} (hO : Own v.ownBlock.toList w0 X R S w) (hm : (⟨v, k, ys, e, size⟩ : Row) ∈ R) : RowPost w0 v k e size ys r (.returned r) w := ⟨rfl, hO.keep, hO.row _ hm⟩
/-- what a call leaves that hands back a row of its own -/
def NewRow (w : World) (e : TypeId) (size : Nat) (k : Nat) (ys : List Value) (Φ : Value → Value → Prop) (en : Ending) (w' : World) : Prop := ∃ v r, en = .returned r ∧ Φ v r ∧ w'.ownsRow w.heap.size e size v k ys ∧ Below w.heap.size w w'
theorem Own.newRow {v : Value} {k size : Nat} {ys : List Value} {e : TypeId} (hO : Own [] w0 X R S w) (hm : (⟨v, k, ys, e, size⟩ : Row) ∈ R) : w.ownsRow w0.heap.size e size v k ys := by
  have h := hO.row _ hm
  refine ⟨h.1, ?_⟩
  rcases h.2 with h2 | ⟨g, cap, cur, h1, _, h3⟩
  · exact .inl h2
  · refine .inr ⟨g, cap, cur, h1, ?_, h3⟩
    have h1' : v = .slice (some ⟨g, 0, none⟩) k cap := h1
    rcases hO.free g (List.mem_append.2 (.inr (List.mem_filterMap.2 ⟨_, hm, by simp [h1', Value.ownBlock]⟩))) with hf | hf
    · cases hf
    · exact hf
theorem new_row {v : Value} {k size : Nat} {ys : List Value} {e : TypeId} {Φ : Value → Value → Prop} {r : Value} (hO : Own [] w0 X R S w) (hm : (⟨v, k, ys, e, size⟩ : Row) ∈ R) (hΦ : Φ v r) : NewRow w0 e size k ys Φ (.returned r) w := ⟨v, r, rfl, hΦ, hO.newRow hm, hO.keep.below⟩
theorem no_tf {C : Prop} (h : true = false) : C := by cases h
theorem no_ft {C : Prop} (h : false = true) : C := by cases h
/-- a truth that is moved (a guard): told apart -/
theorem wp_move_bool {d ty pos af x} {b : Bool} (hx : a.eval x = .bool b) (h : ∀ c : Bool, b = c → wpList P ops Q rest (a.put d (.bool c)) w) : wpList P ops Q (⟨d, .move x, ty, pos, af, none⟩ :: rest) a w :=
  wpList_val rfl _ _ (by unfold execOp; simp only [Sem.run_pure]) (hx ▸ h b rfl)
theorem wp_move_boolG {d ty pos af x j g} {b : Bool} (hw : yielded ops a.tmps j = some g) (hx : a.eval x = .bool b) (h : ∀ c : Bool, b = c → wpList P ops Q rest (a.put d (.bool c)) w) : wpList P ops Q (⟨d, .move x, ty, pos, af, some (j, g)⟩ :: rest) a w :=
  wpList_val (by unfold Region.wanted; simp [hw]) _ _ (by unfold execOp; simp only [Sem.run_pure]) (hx ▸ h b rfl)
theorem own_ldW (hO : Own M w0 X R S w) (hw : Region.wanted o (yielded ops a.tmps) = true := by rfl) {t : TypeId} {x : Operand} (ho : o.op = .load t x := by rfl) {g j k cap size : Nat} (hx : a.eval x = .pointer (some ⟨g, j, none⟩) := by rfl)
    (ht : OneT P t := by (with_reducible (first | exact one_u32 | exact one_int | exact one_u16 | exact one_u8 | exact one_ints | exact one_bool | exact one_bytes | exact one_u64 | exact one_set))) {xs : List Value} {e : TypeId} {v : Value} (hm : (⟨.slice (some ⟨g, 0, none⟩) k cap, k, xs, e, size⟩ : Row) ∈ R := by (repeat (first | exact List.mem_cons_self | refine List.mem_cons_of_mem _ ?_))) (hv : xs[j]? = some v := by (first | assumption | exact bc_at (by first | assumption | omega | (simp; omega))))
    (h : wpList P ops Q rest (a.put o.dst v) w) : wpList P ops Q (o :: rest) a w :=
  own_ldR hO hw ho hx ht hm hv h
theorem own_stW (hO : Own M w0 X R S w) (hw : Region.wanted o (yielded ops a.tmps) = true := by rfl) {t : TypeId} {x y : Operand} (ho : o.op = .store t x y := by rfl) {g j k cap size : Nat} (hx : a.eval x = .pointer (some ⟨g, j, none⟩) := by rfl)
    {v : Value} (hy : a.eval y = v := by (first | exact (rfl : _ = Value.int _ _) | exact (rfl : _ = Value.bool _))) (ht : OneT P t := by (with_reducible (first | exact one_u32 | exact one_int | exact one_u16 | exact one_u8 | exact one_ints | exact one_bool | exact one_bytes | exact one_u64 | exact one_set))) {xs ys : List Value} {e : TypeId} (hu : UpdR R ⟨.slice (some ⟨g, 0, none⟩) k cap, k, xs, e, size⟩ ⟨.slice (some ⟨g, 0, none⟩) k cap, k, ys, e, size⟩ R' := by (repeat (first | exact UpdR.here | apply UpdR.there))) (hn : xs.set j v = ys := by (first | exact bc_set _ _ _ | rfl)) (hl : j < xs.length := by (first | (simp [bc_length]; done) | (simp [bc_length]; omega) | (rw [bc_length]; omega))) (h1 : v.oneCell' = true := by rfl)
    (h : ∀ w', Own M w0 X R' S w' → wpList P ops Q rest (a.put o.dst undef) w') : wpList P ops Q (o :: rest) a w := by
  subst hn
  exact own_stRow hO hw ho hx hy ht hu hl h1 h
end
end Go.Proofs.YtnhjcbmlplfpmaaDoor
