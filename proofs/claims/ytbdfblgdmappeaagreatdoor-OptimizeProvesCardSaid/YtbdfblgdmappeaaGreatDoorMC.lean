/- clear on a part of a slice of the call's own. For any program. -/
import Derived.Lib.SliceRun
import Derived.Laws.MakeOwn
import Derived.Test.YtbdfblgdmappeaaGreatDoorMB
import Derived.Test.YtbdfblgdmappeaaGreatDoorMF
namespace Go.Proofs.YtbdfblgdmappeaaGreatDoor
open Go.RowKit
section
variable {P : Program} {ops : Array Oper} {rest : List Oper} {o : Oper} {a : Act} {w w0 w' : World} {Q : Exit → Act → World → Prop} {M : List Nat} {X X' : List Chunk} {R R' : List Row} {S : List Ro}
theorem own_setRow {A B : List Row} {g k cap size : Nat} {e : TypeId} : ∀ (vs : List Value) (j : Nat) (xs : List Value) (w : World), Own M w0 X (A ++ ⟨.slice (some ⟨g, 0, none⟩) k cap, k, xs, e, size⟩ :: B) S w →
  Own M w0 X (A ++ ⟨.slice (some ⟨g, 0, none⟩) k cap, k, putAt xs j vs, e, size⟩ :: B) S (w.setCells g j vs)
 | [], _, _, _, hO => hO
 | v :: vs, j, xs, w, hO => by
  have hr := hO.row ⟨.slice (some ⟨g, 0, none⟩) k cap, k, xs, e, size⟩ (List.mem_append.2 (.inr List.mem_cons_self))
  have hs := World.ownsRow.stored hr j v
  exact own_setRow vs (j + 1) (xs.set j v) _ (hO.grow (r' := ⟨.slice (some ⟨g, 0, none⟩) k cap, k, xs.set j v, e, size⟩) hs.2 hs.1 fun g' hg' => .inl hg')
theorem zeroCells_one {z : Array Value} {n : Nat} (h : z.all (·.oneCell') = true) : ∀ v ∈ (Builtin.zeroCells z n).toList, v.oneCell' = true := by
 intro v hv
 unfold Builtin.zeroCells at hv
 simp only [Array.toList_map, List.mem_map, Array.toList_range, List.mem_range] at hv
 obtain ⟨i, hi, rfl⟩ := hv
 have hz : 0 < z.size := by
  rcases Nat.eq_zero_or_pos z.size with h0 | h0
  ·rw [h0, Nat.mul_zero] at hi; omega
  ·exact h0
 have hm := Nat.mod_lt i hz
 rw [getElem!_pos z _ hm]
 exact Array.all_eq_true.1 h _ hm
def ZOne (P : Program) (e : TypeId) : Prop := ((P.info? e).bind (·.zero)).map (fun z => z.cells.all (·.oneCell')) = some true
theorem is_clear {d ty pos af g x y} (h : wpList P ops Q (⟨d, .call ⟨.builtin .clear, x, y⟩, ty, pos, af, g⟩ :: rest) a w) : wpList P ops Q (⟨d, .call ⟨.builtin .clear, x, y⟩, ty, pos, af, g⟩ :: rest) a w := h
theorem own_clear (hO : Own M w0 X R S w) (hgd : o.guard = none) {x : Operand} {t e : TypeId} (ho : o.op = .call { callee := .builtin .clear, args := #[x], argTypes := #[t] }) {size bytes : Nat} (ht : SliceT P t e size bytes) (hz1 : ZOne P e)
  {g j n c : Nat} (hx : a.eval x = .slice (some ⟨g, j, none⟩) n c) {k cap : Nat} {xs : List Value} {R1 : List Value → List Row}
  (hu : ∀ ys, UpdR R ⟨.slice (some ⟨g, 0, none⟩) k cap, k, xs, e, size⟩ ⟨.slice (some ⟨g, 0, none⟩) k cap, k, ys, e, size⟩ (R1 ys)) (hn : 0 < n) (hl : j + n * size ≤ xs.length)
  (h : ∀ ys w', ys.length = xs.length → ys.take j = xs.take j → Own M w0 X (R1 ys) S w' → wpList P ops Q rest (a.put o.dst (.tuple #[])) w') : wpList P ops Q (o :: rest) a w := by
 obtain ⟨hu1, hsz, i, z, hi, hz, hi1, hi2, hz1'⟩ := ht
 have h1 : z.cells.all (·.oneCell') = true := by
  unfold ZOne at hz1
  rw [hi] at hz1
  simpa [hz] using hz1
 obtain ⟨zs, hzs⟩ : ∃ zs, (Builtin.zeroCells z.cells n).toList = zs := ⟨_, rfl⟩
 have hzl : zs.length = n * size := by rw [← hzs]; simp [Builtin.zeroCells, hz1']
 have hzo : ∀ v ∈ zs, v.oneCell' = true := by rw [← hzs]; exact zeroCells_one h1
 obtain ⟨A, B, hR, hR1⟩ := (hu (putAt xs j zs)).split
 have hrow := hO.row ⟨.slice (some ⟨g, 0, none⟩) k cap, k, xs, e, size⟩ (by rw [hR]; exact List.mem_append.2 (.inr List.mem_cons_self))
 have hst := run_storeCells_cells (P := P) g j zs 0 w (fun q hq => by
  rw [Nat.add_zero, hO.rowCell (hm := by rw [hR]; exact List.mem_append.2 (.inr List.mem_cons_self)) (List.getElem?_eq_getElem (by omega))]; rfl) (fun q hq => hrow.frozenAt _) hzo
 rw [Nat.add_zero] at hst
 have r1 : (Builtin.clear_ #[t] o.type #[.slice (some ⟨g, j, none⟩) n c]).run P w = .ok (.tuple #[]) (w.setCells g j zs) := by
  obtain ⟨m, rfl⟩ : ∃ m, n = m + 1 := ⟨n - 1, by omega⟩
  simp [Builtin.clear_, run_underlying hu1, zeroValue, typeInfo, run_program, hi, hz, hzs, hst]
 refine wpList_plain hgd fun K hK => ?_
 unfold Oper.wp execOp
 simp only [ho, resolve, invoke, builtin, Sem.run_bind, Sem.run_pure, Result.andThen_ok, List.map_toArray, List.map_cons, List.map_nil, hx, r1]
 refine hK _ _ (h (putAt xs j zs) _ (putAt_length _ _ _) ?_ (by rw [hR1]; exact own_setRow zs j xs w (hR ▸ hO)))
 refine List.ext_getElem? fun q => ?_
 rw [List.getElem?_take, List.getElem?_take]
 split
 ·rw [putAt_getElem? _ _ _ _ (by omega), if_neg (by omega)]
 ·rfl
theorem own_stRw (hO : Own M w0 X R S w) (hw : Region.wanted o (yielded ops a.tmps) = true := by rfl) {t : TypeId} {x y : Operand} (ho : o.op = .store t x y := by rfl) {g off k cap size s : Nat} (hx : a.eval x = .pointer (some ⟨g, off, none⟩) := by rfl)
  {vs : List Value} (hy : a.eval y = .agg vs.toArray := by rfl) (ht : RowT P t s := by (with_reducible (first | exact row_Box | exact row_Range | exact row_Header | exact row_Five | exact row_Tape | exact row_Prefix | exact row_Truths | exact row_Packet | exact row_Group))) (hs : vs.length = s := by rfl) {xs ys : List Value} {e : TypeId} (hu : UpdR R ⟨.slice (some ⟨g, 0, none⟩) k cap, k, xs, e, size⟩ ⟨.slice (some ⟨g, 0, none⟩) k cap, k, ys, e, size⟩ R' := by (repeat (first | exact UpdR.here | apply UpdR.there)))
  (hn : putAt xs off vs = ys := by (first | assumption | rfl)) (hl : off + s ≤ xs.length := by (first | assumption | omega)) (h1 : vs.all (·.oneCell') = true := by rfl)
  (h : ∀ w', Own M w0 X R' S w' → wpList P ops Q rest (a.put o.dst undef) w') : wpList P ops Q (o :: rest) a w := by
 subst hn
 have hr := hO.row _ hu.mem
 have hm := hu.mem
 obtain ⟨A, B, hR, rfl⟩ := hu.split
 refine wpList_skp hw _ (rx_store ho hx hy ht hs (fun j hj => ⟨?_, hr.frozenAt _⟩) h1) (h _ (own_setRow vs off xs w (hR ▸ hO)))
 rw [hO.rowCell hm (List.getElem?_eq_getElem (show off + j < xs.length by omega))]; rfl
theorem own_stRo (hO : Own M w0 X R S w) (hw : Region.wanted o (yielded ops a.tmps) = true := by rfl) {t : TypeId} {x y : Operand} (ho : o.op = .store t x y := by rfl) {g off k cap size : Nat} (hx : a.eval x = .pointer (some ⟨g, off, none⟩) := by rfl)
  {v : Value} (hy : a.eval y = v := by (first | exact (rfl : _ = Value.int _ _) | exact (rfl : _ = Value.bool _) | exact (rfl : _ = Value.slice _ _ _))) (ht : OneT P t := by (with_reducible (first | exact one_u32 | exact one_int | exact one_u16 | exact one_u8 | exact one_ints | exact one_bool | exact one_bytes | exact one_u64 | exact one_set | exact one_boxes))) {xs ys : List Value} {e : TypeId} (hu : UpdR R ⟨.slice (some ⟨g, 0, none⟩) k cap, k, xs, e, size⟩ ⟨.slice (some ⟨g, 0, none⟩) k cap, k, ys, e, size⟩ R' := by (repeat (first | exact UpdR.here | apply UpdR.there)))
  (hn : xs.set off v = ys := by (first | assumption | rfl)) (hl : off < xs.length := by (first | assumption | omega)) (h1 : v.oneCell' = true := by rfl)
  (h : ∀ w', Own M w0 X R' S w' → wpList P ops Q rest (a.put o.dst undef) w') : wpList P ops Q (o :: rest) a w := by
 subst hn
 exact own_stRow hO hw ho hx hy ht hu hl h1 h
end
set_option maxRecDepth 100000
theorem cellsB_one' (l : List Bx) : (cellsB l).all (·.oneCell') = true := by
 induction l with
 | nil => rfl
 | cons b l ih => simp only [cellsB, List.all_append, ih, Bool.and_true]; rfl
theorem Own.rowT {M : List Nat} {w0 w w' : World} {X X' : List Chunk} {R : List Row} {S : List Ro} (hO : Own M w0 X R S w) (hO' : Own M w0 X' R S w') (hX : excl X' R = excl X R) {v : Value} {k size : Nat} {xs : List Value} {e : TypeId} (hn : NewFrom w v) (hr : w'.ownsRow 0 e size v k xs) : Own M w0 X' (⟨v, k, xs, e, size⟩ :: R) S w' := by
 have hmem : ∀ n, n ∈ excl X' (⟨v, k, xs, e, size⟩ :: R) ↔ n ∈ excl X' R ∨ v.ownBlock = some n := fun n => by
  have := mem_blocks (X := X') (A := []) (B := R) (r := ⟨v, k, xs, e, size⟩) (g := n)
  simpa [excl] using this
 refine ⟨hO'.keep, hO'.chunk, fun r hr' => ?_, hO'.ro, ?_, fun n hn' => ?_, fun s hs hne hm => ?_⟩
 ·rcases List.mem_cons.1 hr' with rfl | hr'
  ·exact hr
  ·exact hO'.row r hr'
 ·have := (nodup_blocks (X := X') (A := []) (B := R) (r := ⟨v, k, xs, e, size⟩)).2 ⟨by simpa [excl] using hO'.nd, fun g hg hm => by
   have h2 := hO.lt g (hX ▸ (by simpa [excl] using hm))
   have := hn g hg
   omega⟩
  simpa using this
 ·rcases (hmem n).1 hn' with h | h
  ·exact hO'.free n h
  ·exact .inr (Nat.le_trans hO.keep.size (hn n h))
 ·rcases (hmem s.g).1 hm with hm | hm
  ·exact hO'.apart s hs hne hm
  ·have h2 := ro_lt (hO.ro s hs) hne
   have := hn _ hm
   omega
theorem src_boxes {w : World} {a : Option Addr} {c m : Nat} {l : List Bx} (h : IsBoxes w (.slice a l.length c) l) (hm : m ≤ l.length) : SrcAt w 10 a m (cellsB (l.take m)) := by
 refine ⟨by rw [cellsB_length]; simp; omega, fun h0 => ?_⟩
 rcases h with ⟨h1, h2⟩ | ⟨g, o, c', h1, _, hr⟩
 ·subst h2; simp at hm; omega
 ·cases h1
  refine ⟨g, o, rfl, fun j u hj => hr j u ?_⟩
  have hl : cellsB l = cellsB (l.take m) ++ cellsB (l.drop m) := by rw [← cellsB_append, List.take_append_drop]
  rw [hl, List.getElem?_append_left (List.getElem?_eq_some_iff.1 hj).1]
  exact hj
theorem zone_box : ZOne Tryz.prog 98 := by unfold ZOne; kernel_rfl
theorem isCells_boxes {w : World} {v : Value} {l : List Bx} : IsBoxes w v l ↔ IsCells w v l.length (cellsB l) := by
 constructor
 ·rintro (⟨rfl, rfl⟩ | ⟨g, o, c, rfl, h, hr⟩)
  ·exact .inl ⟨rfl, rfl, rfl⟩
  ·exact .inr ⟨g, o, c, rfl, h, hr⟩
 ·rintro (⟨rfl, h, _⟩ | ⟨g, o, c, rfl, h, hr⟩)
  ·exact .inl ⟨rfl, List.length_eq_zero_iff.1 h⟩
  ·exact .inr ⟨g, o, c, rfl, h, hr⟩
theorem cellsB_set {l : List Bx} {k : Nat} (h : k < l.length) (b : Bx) : putAt (cellsB l) (k * 10) (bcs b) = cellsB (l.set k b) := by
 induction l generalizing k with
 | nil => simp at h
 | cons c l ih =>
  cases k with
  | zero =>
   simp only [cellsB, List.set_cons_zero, Nat.zero_mul]
   rfl
  | succ k =>
   simp only [cellsB, List.set_cons_succ]
   rw [← ih (by simpa using h)]
   have h10 : (k + 1) * 10 = (bcs c).length + k * 10 := by rw [bcs_length]; omega
   rw [h10]
   generalize bcs c = xs
   generalize cellsB l = ys
   generalize bcs b = vs
   generalize k * 10 = q
   clear h10 ih h
   induction xs with
   | nil => simp
   | cons x xs ih => rw [List.cons_append, List.cons_append, ← ih, List.length_cons, show xs.length + 1 + q = (xs.length + q) + 1 by omega, putAt_cons]
theorem cellsB_take (l : List Bx) (k : Nat) : cellsB (l.take k) = (cellsB l).take (k * 10) := by
 induction l generalizing k with
 | nil => simp [cellsB]
 | cons b l ih =>
  cases k with
  | zero => simp [cellsB]
  | succ k =>
   simp only [List.take_succ_cons, cellsB, ih]
   rw [show (k + 1) * 10 = (bcs b).length + k * 10 by rw [bcs_length]; omega, List.take_length_add_append]
theorem cellsB_drop (l : List Bx) (k : Nat) : cellsB (l.drop k) = (cellsB l).drop (k * 10) := by
 induction l generalizing k with
 | nil => simp [cellsB]
 | cons b l ih =>
  cases k with
  | zero => simp [cellsB]
  | succ k =>
   simp only [List.drop_succ_cons, cellsB, ih]
   rw [show (k + 1) * 10 = (bcs b).length + k * 10 by rw [bcs_length]; omega, List.drop_length_add_append]
theorem IsBoxes.part {w : World} {g o k c : Nat} {l : List Bx} (h : IsBoxes w (.slice (some ⟨g, o, none⟩) k c) l) (i n c' : Nat) (hi : i + n ≤ l.length) (hc : n ≤ c') : IsBoxes w (.slice (some ⟨g, o + i * 10, none⟩) n c') ((l.drop i).take n) := by
 have hl : ((l.drop i).take n).length = n := by simp; omega
 rcases h with ⟨h, _⟩ | ⟨g', o', c1, h1, h2, h3⟩
 ·cases h
 ·cases h1
  refine .inr ⟨g, o + i * 10, c', by rw [hl], by rw [hl]; exact hc, fun j u hj => ?_⟩
  rw [cellsB_take, cellsB_drop, List.getElem?_take] at hj
  split at hj
  ·rw [List.getElem?_drop] at hj
   rw [Nat.add_assoc]; exact h3 _ _ hj
  ·cases hj
def MkBoxes (w : World) (l : List Bx) (e : Ending) (w' : World) : Prop := ∃ v, e = .returned v ∧ w'.ownsRow w.heap.size 98 10 v l.length (cellsB l) ∧ Below w.heap.size w w'
theorem row_form {w : World} {base size k : Nat} {v : Value} {xs : List Value} {e : TypeId} (h : w.ownsRow base e size v k xs) : (v = .slice none 0 0 ∧ k = 0) ∨ ∃ g c, v = .slice (some ⟨g, 0, none⟩) k c ∧ k ≤ c ∧ base ≤ g := by
 rcases h.2 with ⟨h1, h2⟩ | ⟨g, cap, cur, h1, hb, _, hc, _⟩
 ·exact .inl ⟨h1, h2⟩
 ·exact .inr ⟨g, cap, h1, hc, hb⟩
theorem filter_take {α : Type} {p : α → Bool} {l : List α} {k : Nat} (h : k < l.length) : (l.take (k + 1)).filter p = (l.take k).filter p ++ if p l[k] then [l[k]] else [] := by
 rw [List.take_succ_eq_append_getElem h, List.filter_append]
 cases hp : p l[k] <;> simp [hp]
theorem filter_take_le {α : Type} (p : α → Bool) (l : List α) (k : Nat) : ((l.take k).filter p).length ≤ k := Nat.le_trans (List.length_filter_le _ _) (by simp; omega)
def ul (l : List Int) : List Value := l.map (Value.int .u64)
theorem ul_length (l : List Int) : (ul l).length = l.length := by simp [ul]
theorem ul_at {l : List Int} {k : Nat} (h : k < l.length) : (ul l)[k]? = some (.int .u64 l[k]) := by simp [ul, h]
theorem ul_set (l : List Int) (k : Nat) (v : Int) : (ul l).set k (.int .u64 v) = ul (l.set k v) := by simp [ul, List.map_set]
theorem ul_take (l : List Int) (k : Nat) : ul (l.take k) = (ul l).take k := by simp [ul]
theorem ul_one (l : List Int) : (ul l).all (·.oneCell') = true := by
 induction l with
 | nil => rfl
 | cons x l ih => simp only [ul, List.map_cons, List.all_cons]; exact Bool.and_eq_true_iff.2 ⟨rfl, ih⟩
theorem uc_ul (l : List Int) : uc l.toArray = ul l := by simp [uc, ul]
theorem slice_u64 : SliceT Tryz.prog 216 200 1 8 := ⟨Tryz.underlying216, by omega, by
 obtain ⟨i, h1, h2, h3, h4⟩ := info_parts (show (Tryz.prog.info? 200).map (fun i => (i.zero, i.size, i.bytes)) = some (some (.int .u64 0), 1, 8) by kernel_rfl)
 exact ⟨i, _, h1, h2, h3, h4, rfl⟩⟩
theorem zone_u64 : ZOne Tryz.prog 200 := by unfold ZOne; kernel_rfl
section
variable {P : Program} {ops : Array Oper} {rest : List Oper} {o : Oper} {a : Act} {w w0 w' : World} {Q : Exit → Act → World → Prop} {M : List Nat} {X X' : List Chunk} {R R' : List Row} {S : List Ro}
theorem Own.addOld (hO : Own [] w0 X R S w) (s : Ro) (hs : w0.rangeAt s.g s.o s.xs) : Own [] w0 X R (s :: S) w := by
 refine hO.addRo s (fun j v hj => ?_) (fun hne hm => ?_)
 ·have h4 := hs j v hj
  rw [World.cell?_of_block (w := w0) (hO.keep.block _ (World.block_lt_of_cell? w0 _ h4) (by simp))]; exact h4
 ·have h1 := ro_lt hs hne
  rcases hO.free _ hm with h | h
  ·cases h
  ·omega
theorem Own.addBoxes (hO : Own [] w0 X R S w) {v : Value} {l : List Bx} (h : IsBoxes w0 v l) : Own [] w0 X R (roS v (cellsB l) ++ S) w := by
 rcases h with ⟨rfl, rfl⟩ | ⟨g, o, c, rfl, _, hr⟩
 ·exact hO
 ·exact hO.addOld ⟨g, o, cellsB l⟩ hr
theorem IsBoxes.keep0 {v : Value} {l : List Bx} (h : IsBoxes w0 v l) (hO : Own [] w0 X R S w) : IsBoxes w v l := h.keep hO.keep
theorem Own.chunkRow {n : Nat} {cs : List Value} {t : TypeId} (hO : Own M w0 (⟨n, cs, t⟩ :: X) R S w) {k size : Nat} (hl : cs.length = k * size) (hk : k ≤ maxLen) : Own M w0 X (⟨.slice (some ⟨n, 0, none⟩) k k, k, cs, t, size⟩ :: R) S w := by
 have hb := hO.chunk _ List.mem_cons_self
 have hr : w.ownsRow 0 t size (.slice (some ⟨n, 0, none⟩) k k) k cs := ⟨hl, .inr ⟨n, k, cs.toArray, rfl, Nat.zero_le _, hb, Nat.le_refl _, hk, by simpa using hl, by simp [← hl]⟩⟩
 have hmem : ∀ m, m ∈ excl X (⟨.slice (some ⟨n, 0, none⟩) k k, k, cs, t, size⟩ :: R) ↔ m ∈ excl (⟨n, cs, t⟩ :: X) R := fun m => by
  simp only [excl, List.map_cons, List.filterMap_cons, Value.ownBlock, List.mem_append, List.mem_cons]
  constructor
  ·rintro (h | h | h)
   ·exact .inl (.inr h)
   ·exact .inl (.inl h)
   ·exact .inr h
  ·rintro ((h | h) | h)
   ·exact .inr (.inl h)
   ·exact .inl h
   ·exact .inr (.inr h)
 refine ⟨hO.keep, fun c hc => hO.chunk c (List.mem_cons_of_mem _ hc), fun r hr' => ?_, hO.ro, ?_, fun m hm => hO.free m ((hmem m).1 hm), fun s hs hne hm => hO.apart s hs hne ((hmem _).1 hm)⟩
 ·rcases List.mem_cons.1 hr' with rfl | hr'
  ·exact hr
  ·exact hO.row r hr'
 ·have hp : (excl X (⟨.slice (some ⟨n, 0, none⟩) k k, k, cs, t, size⟩ :: R)).Perm (excl (⟨n, cs, t⟩ :: X) R) := by
   simp only [excl, List.map_cons, List.filterMap_cons, Value.ownBlock, List.cons_append]
   exact List.perm_middle
  exact hp.nodup_iff.2 hO.nd
theorem is_makeA {d ty pos af g t x y} (h : wpList P ops Q (⟨d, .makeSlice t x y, ty, pos, af, g⟩ :: rest) a w) : wpList P ops Q (⟨d, .makeSlice t x y, ty, pos, af, g⟩ :: rest) a w := h
theorem own_make0 (hO : Own M w0 X R S w) (hw : Region.wanted o (yielded ops a.tmps) = true) {t e size bytes : Nat} {x y : Operand} (ho : o.op = .makeSlice t x y) (ht : SliceT P t e size bytes) {k1 k2 : IntKind} (hx : a.eval x = .int k1 0) {c : Nat} (hy : a.eval y = .int k2 c) (hb : bytes * c ≤ 281474976710656) (hc : c ≤ maxLen)
  (h : ∀ g w', Own M w0 X (⟨.slice (some ⟨g, 0, none⟩) 0 c, 0, [], e, size⟩ :: R) S w' → wpList P ops Q rest (a.put o.dst (.slice (some ⟨g, 0, none⟩) 0 c)) w') : wpList P ops Q (o :: rest) a w := by
 obtain ⟨hu, _, i, z', hi, hz', hi1, hi2, _⟩ := ht
 obtain ⟨w1, h1, h2, h3⟩ := run_make_own (P := P) w w.heap.size t e i z' size hu hi hz' hi1 k1 k2 c (by rw [hi2]; exact hb) hc (Nat.le_refl _)
 refine wpList_val hw _ _ (by unfold execOp; simp only [ho, hx, hy, Sem.run_bind, h1, Result.andThen_ok, Sem.run_pure]) (h _ _ (hO.gainRow ⟨h3.os, h3.tape, h3.output, h3.size, fun k hk => h3.block k hk (by simp)⟩ h2))
end
theorem set_frontA {α : Type} {m x : List α} {i : Nat} {b : α} (h1 : m.take i = x) (hi : i < m.length) : (m.set i b).take (i + 1) = x ++ [b] := by
 rw [List.take_succ_eq_append_getElem (by simpa using hi), List.getElem_set_self, List.take_set_of_le (Nat.le_refl _), h1]
theorem get_drop {α : Type} {m l : List α} {j : Nat} (h : m.drop j = l.drop j) {k : Nat} (hj : j ≤ k) (hk : k < m.length) (hk' : k < l.length) : m[k] = l[k] := by
 have e : (m.drop j)[k - j]? = (l.drop j)[k - j]? := by rw [h]
 rw [List.getElem?_drop, List.getElem?_drop, show j + (k - j) = k by omega, List.getElem?_eq_getElem hk, List.getElem?_eq_getElem hk'] at e
 exact Option.some.inj e
theorem drop_more {α : Type} {m l : List α} {j : Nat} (h : m.drop j = l.drop j) : m.drop (j + 1) = l.drop (j + 1) := by
 have := congrArg (List.drop 1) h
 rwa [List.drop_drop, List.drop_drop] at this
def cstep (o : List Int) (x : Int) : List Int := if o.getLast? = some x then o else o ++ [x]
def cpt (l : List Int) : List Int := l.foldl cstep []
theorem cpt_snoc (l : List Int) (x : Int) : cpt (l ++ [x]) = cstep (cpt l) x := by simp [cpt]
theorem cstep_last (o : List Int) (x : Int) : (cstep o x).getLast? = some x := by
 unfold cstep; split
 ·assumption
 ·simp
theorem foldl_cstep_last : ∀ (l : List Int) (o : List Int), l ≠ [] → (l.foldl cstep o).getLast? = l.getLast?
 | [], _, h => absurd rfl h
 | [x], o, _ => by simp [cstep_last]
 | x :: y :: l, o, _ => by rw [List.foldl_cons, foldl_cstep_last (y :: l) _ (by simp), List.getLast?_cons_cons]
theorem cpt_last (l : List Int) : (cpt l).getLast? = l.getLast? := by
 cases l with
 | nil => rfl
 | cons x l => exact foldl_cstep_last _ _ (by simp)
theorem cpt_take {l : List Int} {k : Nat} (h : k + 1 < l.length) : cpt (l.take (k + 2)) = if l[k] = l[k + 1] then cpt (l.take (k + 1)) else cpt (l.take (k + 1)) ++ [l[k + 1]] := by
 rw [List.take_succ_eq_append_getElem h, cpt_snoc, cstep, cpt_last]
 have e : (l.take (k + 1)).getLast? = some l[k] := by rw [List.take_succ_eq_append_getElem (by omega : k < l.length), List.getLast?_concat]
 rw [e]
 simp only [Option.some.injEq]
theorem cpt_le : ∀ (l o : List Int), (l.foldl cstep o).length ≤ o.length + l.length
 | [], o => by simp
 | x :: l, o => by
  have := cpt_le l (cstep o x)
  rw [List.foldl_cons]
  have h2 : (cstep o x).length ≤ o.length + 1 := by unfold cstep; split <;> simp
  simp only [List.length_cons]; omega
theorem foldl_cstep_spec : ∀ (l o : List Int), o.Pairwise (· < ·) → (∀ x ∈ o, ∀ y ∈ l, x ≤ y) → l.Pairwise (· ≤ ·) → (l.foldl cstep o).Pairwise (· < ·) ∧ ∀ x, x ∈ l.foldl cstep o ↔ x ∈ o ∨ x ∈ l
 | [], o, ho, _, _ => ⟨ho, fun x => by simp⟩
 | y :: l, o, ho, hol, hl => by
  have hl1 := List.pairwise_cons.1 hl
  have key : (cstep o y).Pairwise (· < ·) ∧ (∀ x, x ∈ cstep o y ↔ x ∈ o ∨ x = y) := by
   unfold cstep; split
   ·rename_i h
    refine ⟨ho, fun x => ⟨.inl, ?_⟩⟩
    rintro (h' | rfl)
    ·exact h'
    ·exact List.mem_of_getLast? h
   ·rename_i h
    refine ⟨List.pairwise_append.2 ⟨ho, by simp, fun a ha b hb => ?_⟩, fun x => by simp⟩
    obtain rfl := List.mem_singleton.1 hb
    have h1 := hol a ha b (by simp)
    rcases Int.lt_or_eq_of_le h1 with h2 | rfl
    ·exact h2
    ·exfalso
     -- a is in o, and everything in o is at most a: so it is the last one
     apply h
     obtain ⟨p, q, rfl⟩ := List.append_of_mem ha
     cases q with
     | nil => simp
     | cons z q =>
      have hz : a < z := (List.pairwise_append.1 ho).2.1 |> fun h => (List.pairwise_cons.1 h).1 z (by simp)
      have := hol z (by simp) a (by simp)
      omega
  obtain ⟨k1, k2⟩ := key
  obtain ⟨r1, r2⟩ := foldl_cstep_spec l (cstep o y) k1 (fun x hx z hz => by
   rcases (k2 x).1 hx with hx | rfl
   ·exact hol x hx z (by simp [hz])
   ·exact hl1.1 z hz) hl1.2
  refine ⟨r1, fun x => ?_⟩
  rw [List.foldl_cons, r2, k2, List.mem_cons, or_assoc]
theorem cpt_spec {l : List Int} (h : l.Pairwise (· ≤ ·)) : (cpt l).Pairwise (· < ·) ∧ ∀ x, x ∈ cpt l ↔ x ∈ l := by
 have := foldl_cstep_spec l [] (by simp) (by simp) h
 exact ⟨this.1, fun x => by rw [show cpt l = l.foldl cstep [] from rfl, this.2]; simp⟩
end Go.Proofs.YtbdfblgdmappeaaGreatDoor
