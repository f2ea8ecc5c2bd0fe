/- The laws of the operations on memory, over what a call owns (Sep): lists of operations, quiet and still walks, results. For any program. -/
import Derived.Test.YtnhjcbmlplfpmaaDoorSep
import Derived.Deep.AppendLies
import Derived.Great.BuildSlice
import Derived.Great.Walk
import Derived.Great.Ranges
namespace Go.Proofs.YtnhjcbmlplfpmaaDoor
open Go.RowKit

/-- which chunk turns into what -/
inductive Upd : List Chunk → Chunk → Chunk → List Chunk → Prop
  | here {c c' : Chunk} {X : List Chunk} : Upd (c :: X) c c' (c' :: X)
  | there {c c' d : Chunk} {X X' : List Chunk} : Upd X c c' X' → Upd (d :: X) c c' (d :: X')
theorem Upd.at {X X' : List Chunk} {c c' : Chunk} (h : Upd X c c' X') : ∃ i, X[i]? = some c ∧ X' = X.set i c' := by
  induction h with
  | here => exact ⟨0, rfl, rfl⟩
  | there _ ih => obtain ⟨i, h1, h2⟩ := ih; exact ⟨i + 1, by simpa using h1, by simp [h2]⟩
inductive UpdR : List Row → Row → Row → List Row → Prop
  | here {c c' : Row} {X : List Row} : UpdR (c :: X) c c' (c' :: X)
  | there {c c' d : Row} {X X' : List Row} : UpdR X c c' X' → UpdR (d :: X) c c' (d :: X')
theorem UpdR.at {X X' : List Row} {c c' : Row} (h : UpdR X c c' X') : ∃ i, X[i]? = some c ∧ X' = X.set i c' := by
  induction h with
  | here => exact ⟨0, rfl, rfl⟩
  | there _ ih => obtain ⟨i, h1, h2⟩ := ih; exact ⟨i + 1, by simpa using h1, by simp [h2]⟩

/-- a struct's or an array's type, of so many cells; a type of one cell -/
def RowT (P : Program) (t : TypeId) (s : Nat) : Prop := ∃ d, P.underlying t = some d ∧ d.isRow = true ∧ (P.info? t).map (·.size) = some s
theorem row_len {P : Program} {t : TypeId} {s n : Nat} (h : RowT P t s) (e : s = n) : RowT P t n := e ▸ h
def OneT (P : Program) (t : TypeId) : Prop := ∃ d, P.underlying t = some d ∧ d.isRow = false ∧ (P.info? t).map (·.size) = some 1
/-- what a zero of the type is made of -/
def ZeroT (P : Program) (t : TypeId) (cs : List Value) : Prop := ((P.info? t).bind (·.zero)).map (·.cells) = some cs.toArray
/-- a slice type, its element's type, size in cells and bytes -/
def SliceT (P : Program) (t e : TypeId) (size bytes : Nat) : Prop := P.underlying t = some (.slice e) ∧ 0 < size ∧ ∃ i z, P.info? e = some i ∧ i.zero = some z ∧ i.size = size ∧ i.bytes = bytes ∧ z.cells.size = size

section
variable {P : Program} {ops : Array Oper} {rest : List Oper} {o : Oper} {a : Act} {Q : Exit → Act → World → Prop} {M : List Nat} {w0 w : World} {X X' : List Chunk} {R R' : List Row} {S : List Ro}

theorem wpList_val (hw : Region.wanted o (yielded ops a.tmps) = true) (v : Value) (w' : World) (hrun : (execOp a.eval o).run P w = .ok (.value v) w')
    (h : wpList P ops Q rest (a.put o.dst v) w') : wpList P ops Q (o :: rest) a w :=
  wpList_step fun K hK => by
    rw [if_pos hw]
    unfold Oper.wp
    rw [hrun, Oper.upon_value]
    exact hK _ _ h
theorem wpList_skp (hw : Region.wanted o (yielded ops a.tmps) = true) (w' : World) (hrun : (execOp a.eval o).run P w = .ok .skip w')
    (h : wpList P ops Q rest (a.put o.dst undef) w') : wpList P ops Q (o :: rest) a w :=
  wpList_step fun K hK => by
    rw [if_pos hw]
    unfold Oper.wp
    rw [hrun, Oper.upon_skip]
    exact hK _ _ h

/-! ### which kind of operation stands next: cheap guards -/
theorem is_load {d ty pos af g t x} (h : wpList P ops Q (⟨d, .load t x, ty, pos, af, g⟩ :: rest) a w) : wpList P ops Q (⟨d, .load t x, ty, pos, af, g⟩ :: rest) a w := h
theorem is_store {d ty pos af g t x y} (h : wpList P ops Q (⟨d, .store t x y, ty, pos, af, g⟩ :: rest) a w) : wpList P ops Q (⟨d, .store t x y, ty, pos, af, g⟩ :: rest) a w := h
theorem is_box {d ty pos af g t x} (h : wpList P ops Q (⟨d, .box t x, ty, pos, af, g⟩ :: rest) a w) : wpList P ops Q (⟨d, .box t x, ty, pos, af, g⟩ :: rest) a w := h
theorem is_alloc {d ty pos af g t} (h : wpList P ops Q (⟨d, .alloc t, ty, pos, af, g⟩ :: rest) a w) : wpList P ops Q (⟨d, .alloc t, ty, pos, af, g⟩ :: rest) a w := h
theorem is_build {d ty pos af g t l x} (h : wpList P ops Q (⟨d, .buildSlice t l x, ty, pos, af, g⟩ :: rest) a w) : wpList P ops Q (⟨d, .buildSlice t l x, ty, pos, af, g⟩ :: rest) a w := h
theorem is_append {d ty pos af g x y} (h : wpList P ops Q (⟨d, .call ⟨.builtin .append, x, y⟩, ty, pos, af, g⟩ :: rest) a w) : wpList P ops Q (⟨d, .call ⟨.builtin .append, x, y⟩, ty, pos, af, g⟩ :: rest) a w := h
theorem is_loadQ {C : World → Prop} {K : Act → Prop} {d ty pos af g t x} (h : Oper.quiet P ⟨d, .load t x, ty, pos, af, g⟩ a C K) : Oper.quiet P ⟨d, .load t x, ty, pos, af, g⟩ a C K := h
theorem is_loadS {K : Act → Prop} {d ty pos af g t x} (h : Oper.still P ⟨d, .load t x, ty, pos, af, g⟩ a w K) : Oper.still P ⟨d, .load t x, ty, pos, af, g⟩ a w K := h

/-! ### what the operations come to -/
theorem rx_box {t : TypeId} {x : Operand} (ho : o.op = .box t x) : (execOp a.eval o).run P w = .ok (.value (.pointer (some ⟨w.heap.size, 0, none⟩))) (w.alloc (.cells (a.eval x).cells t (0, 0))) := by
  unfold execOp
  simp only [ho, Sem.run_bind, Instr.box, newVar, newRow, run_newObj_alloc, Sem.run_pure, Result.andThen_ok]
theorem rx_alloc {t : TypeId} {cs : List Value} (ho : o.op = .alloc t) (hz : ZeroT P t cs) : (execOp a.eval o).run P w = .ok (.value (.pointer (some ⟨w.heap.size, 0, none⟩))) (w.alloc (.cells cs.toArray t (0, 0))) := by
  unfold ZeroT at hz
  cases hi : P.info? t with
  | none => simp [hi] at hz
  | some i =>
    cases hzz : i.zero with
    | none => simp [hi, hzz] at hz
    | some z =>
      have hc : z.cells = cs.toArray := by simpa [hi, hzz] using hz
      unfold execOp
      simp only [ho, Sem.run_bind, Instr.alloc, zeroValue, typeInfo, run_program, hi, hzz, newVar, newRow, run_newObj_alloc, Sem.run_pure, Result.andThen_ok, hc]
theorem rx_load {t : TypeId} {x : Operand} {b off s : Nat} {vs : List Value} (ho : o.op = .load t x) (hx : a.eval x = .pointer (some ⟨b, off, none⟩)) (ht : RowT P t s) (hs : vs.length = s) (hr : w.rangeAt b off vs) :
    (execOp a.eval o).run P w = .ok (.value (.agg vs.toArray)) w := by
  obtain ⟨d, hu, hd, hi⟩ := ht
  unfold execOp
  simp only [ho, hx, Sem.run_bind, run_loadAt_mid w b off t vs d hr hu hd (by rw [hs]; exact hi), Sem.run_pure, Result.andThen_ok]
theorem rx_load1 {t : TypeId} {x : Operand} {b off : Nat} {v : Value} (ho : o.op = .load t x) (hx : a.eval x = .pointer (some ⟨b, off, none⟩)) (ht : OneT P t) (hr : w.cell? ⟨b, off, none⟩ = some v) :
    (execOp a.eval o).run P w = .ok (.value v) w := by
  obtain ⟨d, hu, hd, hi⟩ := ht
  have hagg : (isAgg t).run P w = .ok false w := by
    unfold isAgg
    rw [Sem.run_bind, run_underlying hu w]
    cases d <;> first | rfl | cases hd
  unfold execOp
  simp only [ho, hx, Sem.run_bind, Instr.loadAt, Instr.sureAddr, loadVar, hagg, Sem.run_pure, Result.andThen_ok, Bool.false_eq_true, if_false]
  simp [load, Sem.run, hr]
theorem rx_store {t : TypeId} {x y : Operand} {b off s : Nat} {vs : List Value} (ho : o.op = .store t x y) (hx : a.eval x = .pointer (some ⟨b, off, none⟩)) (hy : a.eval y = .agg vs.toArray) (ht : RowT P t s) (hs : vs.length = s)
    (hth : w.there b off s) (h1 : vs.all (·.oneCell') = true) : (execOp a.eval o).run P w = .ok .skip (w.setCells b off vs) := by
  obtain ⟨d, hu, hd, hi⟩ := ht
  unfold execOp
  simp only [ho, hx, hy, Sem.run_bind, run_storeAt_mid w b off t vs.toArray (by simpa [hs] using hth) (by simpa [hs] using hi) (by simpa using h1), Sem.run_pure, Result.andThen_ok]
theorem rx_store1 {t : TypeId} {x y : Operand} {b off : Nat} {v : Value} (ho : o.op = .store t x y) (hx : a.eval x = .pointer (some ⟨b, off, none⟩)) (hy : a.eval y = v) (ht : OneT P t)
    (hc : (w.cell? ⟨b, off, none⟩).isSome = true) (hf : w.frozen? ⟨b, off, none⟩ = false) (h1 : v.oneCell' = true) : (execOp a.eval o).run P w = .ok .skip (w.setCell ⟨b, off, none⟩ v) := by
  obtain ⟨d, hu, hd, hi⟩ := ht
  obtain ⟨u, hu'⟩ := Option.isSome_iff_exists.1 hc
  have hcs : v.cells = #[v] := by cases v <;> first | rfl | cases h1
  cases hq : P.info? t with
  | none => simp [hq] at hi
  | some i =>
    have hsz : i.size = 1 := by simpa [hq] using hi
    unfold execOp
    simp only [ho, hx, hy, Sem.run_bind, Instr.storeAt, Instr.sureAddr, storeVar, sizeOf, typeInfo, run_program, hq, hcs, hsz, Sem.run_pure, Result.andThen_ok, storeCells, store]
    cases v <;> first | (cases h1; done) | simp [Sem.run, Addr.add, hu', hf]

/-! ### the same over 'Own' -/
theorem Own.range (h : Own M w0 X R S w) {n off : Nat} {cs vs : List Value} {t : TypeId} (hm : (⟨n, cs, t⟩ : Chunk) ∈ X) (hv : (cs.drop off).take vs.length = vs) : w.rangeAt n off vs := by
  intro j v hj
  have hb := h.chunk _ hm
  rw [hb.cell (off + j)]
  have hjl := (List.getElem?_eq_some_iff.1 hj).1
  rw [← hv] at hj
  rw [List.getElem?_take, if_pos hjl, List.getElem?_drop] at hj
  exact hj
theorem Own.roRange (h : Own M w0 X R S w) {g off j : Nat} {xs vs : List Value} (hm : (⟨g, off, xs⟩ : Ro) ∈ S) (hv : (xs.drop j).take vs.length = vs) : w.rangeAt g (off + j) vs := by
  intro i v hi
  have hil := (List.getElem?_eq_some_iff.1 hi).1
  rw [← hv] at hi
  rw [List.getElem?_take, if_pos hil, List.getElem?_drop] at hi
  have := h.ro _ hm (j + i) v hi
  rw [Nat.add_assoc]
  exact this
theorem Own.cellAt (h : Own M w0 X R S w) {n off : Nat} {cs : List Value} {t : TypeId} {v : Value} (hm : (⟨n, cs, t⟩ : Chunk) ∈ X) (hv : cs[off]? = some v) : w.cell? ⟨n, off, none⟩ = some v := by
  rw [(h.chunk _ hm).cell off]; exact hv
theorem Own.roCell (h : Own M w0 X R S w) {g off j : Nat} {xs : List Value} {v : Value} (hm : (⟨g, off, xs⟩ : Ro) ∈ S) (hv : xs[j]? = some v) : w.cell? ⟨g, off + j, none⟩ = some v := h.ro _ hm j v hv

theorem own_box (hO : Own M w0 X R S w) (hw : Region.wanted o (yielded ops a.tmps) = true) {t : TypeId} {x : Operand} (ho : o.op = .box t x) {cs : List Value} (hx : (a.eval x).cells = cs.toArray)
    (h : ∀ n w', Own M w0 (⟨n, cs, t⟩ :: X) R S w' → wpList P ops Q rest (a.put o.dst (.pointer (some ⟨n, 0, none⟩))) w') : wpList P ops Q (o :: rest) a w :=
  wpList_val hw _ _ (rx_box ho) (h _ _ (by rw [hx]; exact hO.alloc cs t))
theorem own_alloc (hO : Own M w0 X R S w) (hw : Region.wanted o (yielded ops a.tmps) = true) {t : TypeId} (ho : o.op = .alloc t) {cs : List Value} (hz : ZeroT P t cs)
    (h : ∀ n w', Own M w0 (⟨n, cs, t⟩ :: X) R S w' → wpList P ops Q rest (a.put o.dst (.pointer (some ⟨n, 0, none⟩))) w') : wpList P ops Q (o :: rest) a w :=
  wpList_val hw _ _ (rx_alloc ho hz) (h _ _ (hO.alloc cs t))
theorem own_load (hO : Own M w0 X R S w) (hw : Region.wanted o (yielded ops a.tmps) = true) {t : TypeId} {x : Operand} (ho : o.op = .load t x) {n off s : Nat} (hx : a.eval x = .pointer (some ⟨n, off, none⟩))
    (ht : RowT P t s) {cs vs : List Value} {t' : TypeId} (hm : (⟨n, cs, t'⟩ : Chunk) ∈ X) (hv : (cs.drop off).take vs.length = vs) (hs : vs.length = s)
    (h : wpList P ops Q rest (a.put o.dst (.agg vs.toArray)) w) : wpList P ops Q (o :: rest) a w :=
  wpList_val hw _ _ (rx_load ho hx ht hs (hO.range hm hv)) h
theorem own_load1 (hO : Own M w0 X R S w) (hw : Region.wanted o (yielded ops a.tmps) = true) {t : TypeId} {x : Operand} (ho : o.op = .load t x) {n off : Nat} (hx : a.eval x = .pointer (some ⟨n, off, none⟩))
    (ht : OneT P t) {cs : List Value} {t' : TypeId} (hm : (⟨n, cs, t'⟩ : Chunk) ∈ X) {v : Value} (hv : cs[off]? = some v)
    (h : wpList P ops Q rest (a.put o.dst v) w) : wpList P ops Q (o :: rest) a w :=
  wpList_val hw _ _ (rx_load1 ho hx ht (hO.cellAt hm hv)) h
theorem own_loadR (hO : Own M w0 X R S w) (hw : Region.wanted o (yielded ops a.tmps) = true) {t : TypeId} {x : Operand} (ho : o.op = .load t x) {g off j s : Nat} (hx : a.eval x = .pointer (some ⟨g, off + j, none⟩))
    (ht : RowT P t s) {xs vs : List Value} (hm : (⟨g, off, xs⟩ : Ro) ∈ S) (hv : (xs.drop j).take vs.length = vs) (hs : vs.length = s)
    (h : wpList P ops Q rest (a.put o.dst (.agg vs.toArray)) w) : wpList P ops Q (o :: rest) a w :=
  wpList_val hw _ _ (rx_load ho hx ht hs (hO.roRange hm hv)) h
theorem own_loadRR (hO : Own M w0 X R S w) (hw : Region.wanted o (yielded ops a.tmps) = true) {t : TypeId} {x : Operand} (ho : o.op = .load t x) {g off i j s : Nat} (hx : a.eval x = .pointer (some ⟨g, off + i + j, none⟩))
    (ht : RowT P t s) {xs vs : List Value} (hm : (⟨g, off, xs⟩ : Ro) ∈ S) (hv : (xs.drop (i + j)).take vs.length = vs) (hs : vs.length = s)
    (h : wpList P ops Q rest (a.put o.dst (.agg vs.toArray)) w) : wpList P ops Q (o :: rest) a w := wpList_val hw _ _ (rx_load ho hx ht hs (by rw [Nat.add_assoc]; exact hO.roRange hm hv)) h
theorem own_loadR1 (hO : Own M w0 X R S w) (hw : Region.wanted o (yielded ops a.tmps) = true) {t : TypeId} {x : Operand} (ho : o.op = .load t x) {g off j : Nat} (hx : a.eval x = .pointer (some ⟨g, off + j, none⟩))
    (ht : OneT P t) {xs : List Value} (hm : (⟨g, off, xs⟩ : Ro) ∈ S) {v : Value} (hv : xs[j]? = some v)
    (h : wpList P ops Q rest (a.put o.dst v) w) : wpList P ops Q (o :: rest) a w :=
  wpList_val hw _ _ (rx_load1 ho hx ht (hO.roCell hm hv)) h

theorem own_loadG (hO : Own M w0 X R S w) (hw : Region.wanted o (yielded ops a.tmps) = true) {t : TypeId} {x : Operand} (ho : o.op = .load t x) {g j s : Nat} (hx : a.eval x = .pointer (some ⟨g, j, none⟩))
    (ht : RowT P t s) {xs vs : List Value} (hm : (⟨g, 0, xs⟩ : Ro) ∈ S) (hv : (xs.drop j).take vs.length = vs) (hs : vs.length = s)
    (h : wpList P ops Q rest (a.put o.dst (.agg vs.toArray)) w) : wpList P ops Q (o :: rest) a w :=
  wpList_val hw _ _ (rx_load ho hx ht hs (Nat.zero_add j ▸ hO.roRange hm hv)) h
theorem own_loadG1 (hO : Own M w0 X R S w) (hw : Region.wanted o (yielded ops a.tmps) = true) {t : TypeId} {x : Operand} (ho : o.op = .load t x) {g j : Nat} (hx : a.eval x = .pointer (some ⟨g, j, none⟩))
    (ht : OneT P t) {xs : List Value} (hm : (⟨g, 0, xs⟩ : Ro) ∈ S) {v : Value} (hv : xs[j]? = some v)
    (h : wpList P ops Q rest (a.put o.dst v) w) : wpList P ops Q (o :: rest) a w :=
  wpList_val hw _ _ (rx_load1 ho hx ht (Nat.zero_add j ▸ hO.roCell hm hv)) h

/-- a list with some cells overwritten -/
def putAt (cs : List Value) (off : Nat) : List Value → List Value
  | [] => cs
  | v :: vs => putAt (cs.set off v) (off + 1) vs
theorem putAt_length (vs : List Value) : ∀ (cs : List Value) (off : Nat), (putAt cs off vs).length = cs.length := by
  induction vs with
  | nil => intro cs off; rfl
  | cons v vs ih => intro cs off; rw [putAt, ih]; simp
theorem putAt_getElem? (vs : List Value) : ∀ (cs : List Value) (off k : Nat), off + vs.length ≤ cs.length → (putAt cs off vs)[k]? = if off ≤ k ∧ k < off + vs.length then vs[k - off]? else cs[k]? := by
  induction vs with
  | nil => intro cs off k _; simp [putAt]; omega
  | cons v vs ih =>
    intro cs off k hl
    simp only [List.length_cons] at hl
    rw [putAt, ih _ _ _ (by simp; omega)]
    by_cases h1 : off + 1 ≤ k ∧ k < off + 1 + vs.length
    · rw [if_pos h1, if_pos (by simp; omega)]
      rw [show k - off = (k - (off + 1)) + 1 by omega]; simp
    · rw [if_neg h1]
      by_cases h2 : k = off
      · subst h2
        rw [if_pos (by simp)]
        simp only [Nat.sub_self, List.getElem?_cons_zero]
        rw [List.getElem?_set_self (by omega)]
      · rw [if_neg (by simp; omega), List.getElem?_set_ne (fun e => h2 e.symm)]
theorem putAt_all (cs vs : List Value) (h : vs.length = cs.length) : putAt cs 0 vs = vs := by
  apply List.ext_getElem?
  intro k
  rw [putAt_getElem? _ _ _ _ (by omega)]
  by_cases hk : k < vs.length
  · rw [if_pos (by omega)]; rfl
  · rw [if_neg (by omega), List.getElem?_eq_none (by omega), List.getElem?_eq_none (by omega)]

theorem blk_setCells {n : Nat} {t : TypeId} (vs : List Value) : ∀ (w : World) (cs : List Value) (off : Nat), Blk w n cs t → Blk (w.setCells n off vs) n (putAt cs off vs) t := by
  induction vs with
  | nil => intro w cs off h; exact h
  | cons v vs ih => intro w cs off h; exact ih _ _ _ (h.set off v)
theorem heap_setCells_other {n : Nat} (vs : List Value) : ∀ (w : World) (off k : Nat), k ≠ n → (w.setCells n off vs).heap[k]? = w.heap[k]? := by
  induction vs with
  | nil => intro w off k _; rfl
  | cons v vs ih => intro w off k hk; exact (ih _ _ _ hk).trans (heap_setCell_other w _ k v hk)
theorem same_setCells {n : Nat} (vs : List Value) : ∀ (w : World) (off : Nat), (w.setCells n off vs).os = w.os ∧ (w.setCells n off vs).tape = w.tape ∧ (w.setCells n off vs).output = w.output ∧ (w.setCells n off vs).heap.size = w.heap.size := by
  induction vs with
  | nil => intro w off; exact ⟨rfl, rfl, rfl, rfl⟩
  | cons v vs ih =>
    intro w off
    obtain ⟨h1, h2, h3, h4⟩ := ih (w.setCell ⟨n, off, none⟩ v) (off + 1)
    exact ⟨h1, h2, h3, h4.trans (by simp)⟩

theorem Own.put (hO : Own M w0 X R S w) {n off : Nat} {cs vs : List Value} {t' : TypeId} (hu : Upd X ⟨n, cs, t'⟩ ⟨n, putAt cs off vs, t'⟩ X') : Own M w0 X' R S (w.setCells n off vs) := by
  obtain ⟨i, hi, rfl⟩ := hu.at
  obtain ⟨h1, h2, h3, h4⟩ := same_setCells (n := n) vs w off
  exact hO.setChunk hi _ h1 h2 h3 h4 (fun k hk => heap_setCells_other vs w off k hk) (blk_setCells vs w cs off (hO.chunk _ (List.mem_of_getElem? hi)))
theorem Own.put1 (hO : Own M w0 X R S w) {n off : Nat} {cs : List Value} {v : Value} {t' : TypeId} (hu : Upd X ⟨n, cs, t'⟩ ⟨n, cs.set off v, t'⟩ X') : Own M w0 X' R S (w.setCell ⟨n, off, none⟩ v) :=
  Own.put (vs := [v]) hO hu
theorem Upd.mem {X X' : List Chunk} {c c' : Chunk} (h : Upd X c c' X') : c ∈ X := by
  obtain ⟨i, hi, _⟩ := h.at; exact List.mem_of_getElem? hi

theorem own_store (hO : Own M w0 X R S w) (hw : Region.wanted o (yielded ops a.tmps) = true) {t : TypeId} {x y : Operand} (ho : o.op = .store t x y) {n off s : Nat} (hx : a.eval x = .pointer (some ⟨n, off, none⟩))
    {vs : List Value} (hy : a.eval y = .agg vs.toArray) (ht : RowT P t s) (hs : vs.length = s) {cs : List Value} {t' : TypeId} (hu : Upd X ⟨n, cs, t'⟩ ⟨n, putAt cs off vs, t'⟩ X') (hl : off + s ≤ cs.length) (h1 : vs.all (·.oneCell') = true)
    (h : ∀ w', Own M w0 X' R S w' → wpList P ops Q rest (a.put o.dst undef) w') : wpList P ops Q (o :: rest) a w := by
  have hb := hO.chunk _ hu.mem
  refine wpList_skp hw _ (rx_store ho hx hy ht hs (fun j hj => ⟨?_, hb.free _⟩) h1) (h _ (hO.put hu))
  rw [hb.cell (off + j), Option.isSome_iff_exists]
  exact ⟨cs[off + j]'(by omega), List.getElem?_eq_getElem _⟩
theorem own_store1 (hO : Own M w0 X R S w) (hw : Region.wanted o (yielded ops a.tmps) = true) {t : TypeId} {x y : Operand} (ho : o.op = .store t x y) {n off : Nat} (hx : a.eval x = .pointer (some ⟨n, off, none⟩))
    {v : Value} (hy : a.eval y = v) (ht : OneT P t) {cs : List Value} {t' : TypeId} (hu : Upd X ⟨n, cs, t'⟩ ⟨n, cs.set off v, t'⟩ X') (hl : off < cs.length) (h1 : v.oneCell' = true)
    (h : ∀ w', Own M w0 X' R S w' → wpList P ops Q rest (a.put o.dst undef) w') : wpList P ops Q (o :: rest) a w := by
  have hb := hO.chunk _ hu.mem
  refine wpList_skp hw _ (rx_store1 ho hx hy ht ?_ (hb.free _) h1) (h _ (hO.put1 hu))
  rw [hb.cell off, Option.isSome_iff_exists]
  exact ⟨cs[off]'hl, List.getElem?_eq_getElem _⟩

/-- less is owned too -/
theorem Own.sub {X' : List Chunk} {R' : List Row} {S' : List Ro} (hO : Own M w0 X R S w) (hX : X'.Sublist X) (hR : R'.Sublist R) (hS : ∀ s ∈ S', s ∈ S) : Own M w0 X' R' S' w := by
  have he : (excl X' R').Sublist (excl X R) := (hX.map _).append (hR.filterMap _)
  exact ⟨hO.keep, fun c hc => hO.chunk c (hX.subset hc), fun r hr => hO.row r (hR.subset hr), fun s hs => hO.ro s (hS s hs), hO.nd.sublist he, fun n hn => hO.free n (he.subset hn),
    fun s hs hne hm => hO.apart s (hS s hs) hne (he.subset hm)⟩
/-- a slice of the call's own that is still nil -/
theorem Own.nilRow (hO : Own M w0 X R S w) (e : TypeId) (size : Nat) : Own M w0 X (⟨.slice none 0 0, 0, [], e, size⟩ :: R) S w :=
  ⟨hO.keep, hO.chunk, fun r hr => by
    rcases List.mem_cons.1 hr with rfl | hr
    · exact World.ownsRow_nil w 0 e size
    · exact hO.row r hr, hO.ro, hO.nd, hO.free, hO.apart⟩
/-- a slice that is read and lies in none of the call's own blocks -/
theorem Own.addRo (hO : Own M w0 X R S w) (s : Ro) (hs : w.rangeAt s.g s.o s.xs) (ha : s.xs ≠ [] → s.g ∉ excl X R) : Own M w0 X R (s :: S) w :=
  ⟨hO.keep, hO.chunk, hO.row, fun s' h' => by
    rcases List.mem_cons.1 h' with rfl | h'
    · exact hs
    · exact hO.ro s' h', hO.nd, hO.free, fun s' h' => by
    rcases List.mem_cons.1 h' with rfl | h'
    · exact ha
    · exact hO.apart s' h'⟩

/-! ### quiet and still walks -/
theorem q_val {C : World → Prop} {K : Act → Prop} (v : Value) (hrun : ∀ w, C w → (execOp a.eval o).run P w = .ok (.value v) w) (h : K (a.put o.dst v)) : o.quiet P a C K :=
  ⟨v, fun w hw => by unfold Oper.quietAt; rw [hrun w hw]; exact ⟨rfl, rfl⟩, h⟩
theorem q_load {K : Act → Prop} {t : TypeId} {x : Operand} (ho : o.op = .load t x) {n off s : Nat} (hx : a.eval x = .pointer (some ⟨n, off, none⟩))
    (ht : RowT P t s) {cs vs : List Value} {t' : TypeId} (hm : (⟨n, cs, t'⟩ : Chunk) ∈ X) (hv : (cs.drop off).take vs.length = vs) (hs : vs.length = s)
    (h : K (a.put o.dst (.agg vs.toArray))) : o.quiet P a (Own M w0 X R S) K := q_val _ (fun _ hO => rx_load ho hx ht hs (hO.range hm hv)) h
theorem q_load1 {K : Act → Prop} {t : TypeId} {x : Operand} (ho : o.op = .load t x) {n off : Nat} (hx : a.eval x = .pointer (some ⟨n, off, none⟩))
    (ht : OneT P t) {cs : List Value} {t' : TypeId} (hm : (⟨n, cs, t'⟩ : Chunk) ∈ X) {v : Value} (hv : cs[off]? = some v)
    (h : K (a.put o.dst v)) : o.quiet P a (Own M w0 X R S) K := q_val _ (fun _ hO => rx_load1 ho hx ht (hO.cellAt hm hv)) h
theorem q_loadR {K : Act → Prop} {t : TypeId} {x : Operand} (ho : o.op = .load t x) {g off j s : Nat} (hx : a.eval x = .pointer (some ⟨g, off + j, none⟩))
    (ht : RowT P t s) {xs vs : List Value} (hm : (⟨g, off, xs⟩ : Ro) ∈ S) (hv : (xs.drop j).take vs.length = vs) (hs : vs.length = s)
    (h : K (a.put o.dst (.agg vs.toArray))) : o.quiet P a (Own M w0 X R S) K := q_val _ (fun _ hO => rx_load ho hx ht hs (hO.roRange hm hv)) h
theorem q_loadR1 {K : Act → Prop} {t : TypeId} {x : Operand} (ho : o.op = .load t x) {g off j : Nat} (hx : a.eval x = .pointer (some ⟨g, off + j, none⟩))
    (ht : OneT P t) {xs : List Value} (hm : (⟨g, off, xs⟩ : Ro) ∈ S) {v : Value} (hv : xs[j]? = some v)
    (h : K (a.put o.dst v)) : o.quiet P a (Own M w0 X R S) K := q_val _ (fun _ hO => rx_load1 ho hx ht (hO.roCell hm hv)) h
theorem q_loadG {K : Act → Prop} {t : TypeId} {x : Operand} (ho : o.op = .load t x) {g j s : Nat} (hx : a.eval x = .pointer (some ⟨g, j, none⟩))
    (ht : RowT P t s) {xs vs : List Value} (hm : (⟨g, 0, xs⟩ : Ro) ∈ S) (hv : (xs.drop j).take vs.length = vs) (hs : vs.length = s)
    (h : K (a.put o.dst (.agg vs.toArray))) : o.quiet P a (Own M w0 X R S) K := q_val _ (fun _ hO => rx_load ho hx ht hs (Nat.zero_add j ▸ hO.roRange hm hv)) h
theorem q_loadG1 {K : Act → Prop} {t : TypeId} {x : Operand} (ho : o.op = .load t x) {g j : Nat} (hx : a.eval x = .pointer (some ⟨g, j, none⟩))
    (ht : OneT P t) {xs : List Value} (hm : (⟨g, 0, xs⟩ : Ro) ∈ S) {v : Value} (hv : xs[j]? = some v)
    (h : K (a.put o.dst v)) : o.quiet P a (Own M w0 X R S) K := q_val _ (fun _ hO => rx_load1 ho hx ht (Nat.zero_add j ▸ hO.roCell hm hv)) h
/-- a callee that leaves old memory alone and hands back one value -/
theorem q_call {f : FuncId} {args : Array Value} {v : Value} (hc : Calls P f args w fun e w' => e = .returned v ∧ Below w.heap.size w w') (hO : Own M w0 X R S w) :
    Calls P f args w fun e w' => e = .returned v ∧ Own M w0 X R S w' := hc.mono fun _ _ ⟨h1, h2⟩ => ⟨h1, hO.call h2⟩
theorem q_same {f : FuncId} {args : Array Value} {v : Value} (hc : Calls P f args w fun e w' => e = .returned v ∧ w = w') (hO : Own M w0 X R S w) :
    Calls P f args w fun e w' => e = .returned v ∧ Own M w0 X R S w' := hc.mono fun _ _ ⟨h1, h2⟩ => ⟨h1, h2 ▸ hO⟩
theorem own_quiet {id : Nat} {l : List Oper} (hO : Own M w0 X R S w) (hm : P.follows .mixedOrders = true) (hB : Region.lexB .any l.toArray = true)
    (h : wpQuiet P l.toArray (Own M w0 X R S) (fun a' => ∀ w', Own M w0 X R S w' → Q .normal a' w') l a) : (Code.region id l.toArray true).wp P Q a w :=
  wp_region_quiet (C := Own M w0 X R S) hm hB hO.drew (by simpa using h)

theorem s_val {K : Act → Prop} (v : Value) (hrun : (execOp a.eval o).run P w = .ok (.value v) w) (h : K (a.put o.dst v)) : o.still P a w K := by
  unfold Oper.still; rw [hrun, Oper.stillUpon_value]; exact h
theorem s_load {K : Act → Prop} (hO : Own M w0 X R S w) {t : TypeId} {x : Operand} (ho : o.op = .load t x) {n off s : Nat} (hx : a.eval x = .pointer (some ⟨n, off, none⟩))
    (ht : RowT P t s) {cs vs : List Value} {t' : TypeId} (hm : (⟨n, cs, t'⟩ : Chunk) ∈ X) (hv : (cs.drop off).take vs.length = vs) (hs : vs.length = s)
    (h : K (a.put o.dst (.agg vs.toArray))) : o.still P a w K := s_val _ (rx_load ho hx ht hs (hO.range hm hv)) h
theorem s_load1 {K : Act → Prop} (hO : Own M w0 X R S w) {t : TypeId} {x : Operand} (ho : o.op = .load t x) {n off : Nat} (hx : a.eval x = .pointer (some ⟨n, off, none⟩))
    (ht : OneT P t) {cs : List Value} {t' : TypeId} (hm : (⟨n, cs, t'⟩ : Chunk) ∈ X) {v : Value} (hv : cs[off]? = some v)
    (h : K (a.put o.dst v)) : o.still P a w K := s_val _ (rx_load1 ho hx ht (hO.cellAt hm hv)) h
theorem s_loadR {K : Act → Prop} (hO : Own M w0 X R S w) {t : TypeId} {x : Operand} (ho : o.op = .load t x) {g off j s : Nat} (hx : a.eval x = .pointer (some ⟨g, off + j, none⟩))
    (ht : RowT P t s) {xs vs : List Value} (hm : (⟨g, off, xs⟩ : Ro) ∈ S) (hv : (xs.drop j).take vs.length = vs) (hs : vs.length = s)
    (h : K (a.put o.dst (.agg vs.toArray))) : o.still P a w K := s_val _ (rx_load ho hx ht hs (hO.roRange hm hv)) h
theorem s_loadR1 {K : Act → Prop} (hO : Own M w0 X R S w) {t : TypeId} {x : Operand} (ho : o.op = .load t x) {g off j : Nat} (hx : a.eval x = .pointer (some ⟨g, off + j, none⟩))
    (ht : OneT P t) {xs : List Value} (hm : (⟨g, off, xs⟩ : Ro) ∈ S) {v : Value} (hv : xs[j]? = some v)
    (h : K (a.put o.dst v)) : o.still P a w K := s_val _ (rx_load1 ho hx ht (hO.roCell hm hv)) h
theorem s_loadG {K : Act → Prop} (hO : Own M w0 X R S w) {t : TypeId} {x : Operand} (ho : o.op = .load t x) {g j s : Nat} (hx : a.eval x = .pointer (some ⟨g, j, none⟩))
    (ht : RowT P t s) {xs vs : List Value} (hm : (⟨g, 0, xs⟩ : Ro) ∈ S) (hv : (xs.drop j).take vs.length = vs) (hs : vs.length = s)
    (h : K (a.put o.dst (.agg vs.toArray))) : o.still P a w K := s_val _ (rx_load ho hx ht hs (Nat.zero_add j ▸ hO.roRange hm hv)) h
theorem s_loadG1 {K : Act → Prop} (hO : Own M w0 X R S w) {t : TypeId} {x : Operand} (ho : o.op = .load t x) {g j : Nat} (hx : a.eval x = .pointer (some ⟨g, j, none⟩))
    (ht : OneT P t) {xs : List Value} (hm : (⟨g, 0, xs⟩ : Ro) ∈ S) {v : Value} (hv : xs[j]? = some v)
    (h : K (a.put o.dst v)) : o.still P a w K := s_val _ (rx_load1 ho hx ht (Nat.zero_add j ▸ hO.roCell hm hv)) h
/-- a list parted behind its first n -/
inductive Split {α : Type} : Nat → List α → List α → List α → Prop
  | zero (l : List α) : Split 0 l [] l
  | succ {n : Nat} {x : α} {l a b : List α} (h : Split n l a b) : Split (n + 1) (x :: l) (x :: a) b
theorem Split.eq {α : Type} {n : Nat} {l a b : List α} (h : Split n l a b) : a = l.take n ∧ b = l.drop n := by
  induction h with
  | zero l => exact ⟨rfl, rfl⟩
  | succ h ih => exact ⟨by rw [ih.1]; rfl, by rw [ih.2]; rfl⟩
theorem own_tail {id : Nat} {l l1 l2 : List Oper} (n : Nat) (hO : Own M w0 X R S w) (hm : P.follows .mixedOrders = true) (hB : Region.lexTailB .any l.toArray n = true) (hs : Split n l l1 l2)
    (h : ∀ w', Own M w0 X R S w' → wpStill P l.toArray w' (fun a' => wpList P l.toArray Q l2 a' w') l1 a) : (Code.region id l.toArray true).wp P Q a w := by
  obtain ⟨rfl, rfl⟩ := hs.eq
  exact wp_region_still_tail n hm hB (h _ hO.drew)

/-! ### results that lie in blocks -/
theorem own_res_cell {fn : Func} {p n : Nat} {ty : TypeId} (hO : Own M w0 X R S w) (h : fn.results = #[.cell p ty]) {tmps : Array Value} (hp : tmps.getD p undef = .pointer (some ⟨n, 0, none⟩)) {cs : List Value} {t' : TypeId}
    (hm : (⟨n, cs, t'⟩ : Chunk) ∈ X) {s : Nat} (ht : RowT P ty s) (hs : cs.length = s) : (results fn tmps).run P w = .ok (.agg cs.toArray) w := by
  obtain ⟨d, hu, hd, hi⟩ := ht
  exact results_cell_row h tmps w n t' cs.toArray (0, 0) d hp (hO.chunk _ hm) hu (by cases d <;> simp_all) (by simpa [hs] using hi)
theorem own_res_cell_tmp {fn : Func} {p u n : Nat} {ty : TypeId} (hO : Own M w0 X R S w) (h : fn.results = #[.cell p ty, .tmp u]) {tmps : Array Value} (hp : tmps.getD p undef = .pointer (some ⟨n, 0, none⟩)) {cs : List Value} {t' : TypeId}
    (hm : (⟨n, cs, t'⟩ : Chunk) ∈ X) {s : Nat} (ht : RowT P ty s) (hs : cs.length = s) {v : Value} (hv : tmps.getD u undef = v) : (results fn tmps).run P w = .ok (.tuple #[.agg cs.toArray, v]) w := by
  obtain ⟨d, hu, hd, hi⟩ := ht
  rw [results_cell_tmp h, hp]
  simp only [asAddr, Sem.run_pure, Result.andThen_ok]
  rw [run_loadVar_row w n t' ty cs.toArray (0, 0) d (hO.chunk _ hm) hu (by cases d <;> simp_all) (by simpa [hs] using hi), hv]
  rfl

/-! ### a slice literal -/
theorem rx_build {t e : TypeId} {len : Nat} {parts : Array (Nat × Operand)} {cs : List Value} (ho : o.op = .buildSlice t len parts) (hu : P.underlying t = some (.slice e))
    (hf : Program.builtSlice P e len (parts.map fun (i, x) => (i, a.eval x)).toList = some cs.toArray) :
    (execOp a.eval o).run P w = .ok (.value (.slice (some ⟨w.heap.size, 0, none⟩) len len)) (w.alloc (.cells cs.toArray e (0, 0))) := by
  unfold Program.builtSlice at hf
  cases hie : P.info? e with
  | none => simp [hie] at hf
  | some i =>
    simp only [hie] at hf
    cases hz : i.zero with
    | none => simp [hz] at hf
    | some z =>
      simp only [hz] at hf
      split at hf
      · cases hf
      · rename_i hn
        have h1 : ¬ len * i.size > 2 ^ 24 := fun h => hn (.inl h)
        have h2 : ¬ len * i.size = 0 := fun h => hn (.inr h)
        unfold execOp
        simp only [ho, Sem.run_bind, Instr.buildSlice, underlying, run_program, hu, Sem.run_pure, Result.andThen_ok, sizeOf, typeInfo, hie, h1, if_false, h2, zeroValue, hz, hf, newRow, run_newObj_alloc]
theorem own_build1 (hO : Own M w0 X R S w) (hw : Region.wanted o (yielded ops a.tmps) = true) {t e : TypeId} {x : Operand} (ho : o.op = .buildSlice t 1 #[(0, x)]) {vs : List Value} (hx : a.eval x = .agg vs.toArray)
    (hu : P.underlying t = some (.slice e)) (hf : Program.builtSlice P e 1 [(0, .agg vs.toArray)] = some vs.toArray)
    (h : ∀ n w', Own M w0 (⟨n, vs, e⟩ :: X) R S w' → wpList P ops Q rest (a.put o.dst (.slice (some ⟨n, 0, none⟩) 1 1)) w') : wpList P ops Q (o :: rest) a w :=
  wpList_val hw _ _ (rx_build ho hu (by simp only [List.map_toArray, List.map_cons, List.map_nil, hx]; exact hf)) (h _ _ (hO.alloc vs e))

/-- two integers -/
theorem own_build2 (hO : Own M w0 X R S w) (hw : Region.wanted o (yielded ops a.tmps) = true) {t e : TypeId} {x y : Operand} (ho : o.op = .buildSlice t 2 #[(0, x), (1, y)]) {k1 k2 : IntKind} {u v : Int} (hx : a.eval x = .int k1 u) (hy : a.eval y = .int k2 v)
    (hu : P.underlying t = some (.slice e)) (hf : Program.builtSlice P e 2 [(0, .int k1 u), (1, .int k2 v)] = some #[.int k1 u, .int k2 v])
    (h : ∀ n w', Own M w0 (⟨n, [.int k1 u, .int k2 v], e⟩ :: X) R S w' → wpList P ops Q rest (a.put o.dst (.slice (some ⟨n, 0, none⟩) 2 2)) w') : wpList P ops Q (o :: rest) a w :=
  wpList_val hw _ _ (rx_build (cs := [.int k1 u, .int k2 v]) ho hu (by simp only [List.map_toArray, List.map_cons, List.map_nil, hx, hy]; exact hf)) (h _ _ (hO.alloc _ e))
theorem s_enter {K : Act → Prop} {f : FuncId} {args : Array Value} {v : Value} (hrun : (execOp a.eval o).run P w = .ok (.enter f args) w) (hc : Calls P f args w fun e w' => e = .returned v ∧ w = w') (h : K (a.put o.dst v)) : o.still P a w K := by
  unfold Oper.still; rw [hrun]; exact ⟨rfl, v, hc.mono fun _ _ ⟨h1, h2⟩ => ⟨h1, h2.symm⟩, h⟩

/-! ### append to a slice of the call's own -/
theorem mem_blocks {A B : List Row} {r : Row} {g : Nat} : g ∈ excl X (A ++ r :: B) ↔ g ∈ X.map (·.n) ++ (A.filterMap (·.v.ownBlock) ++ B.filterMap (·.v.ownBlock)) ∨ r.v.ownBlock = some g := by
  unfold excl
  simp only [List.filterMap_append, List.filterMap_cons, List.mem_append]
  cases e : r.v.ownBlock with
  | none => simp
  | some b =>
    have e2 : (b = g) ↔ (g = b) := eq_comm
    simp only [List.mem_cons, Option.some.injEq, e2]
    constructor
    · rintro (h | h | h | h)
      · exact .inl (.inl h)
      · exact .inl (.inr (.inl h))
      · exact .inr h
      · exact .inl (.inr (.inr h))
    · rintro ((h | h | h) | h)
      · exact .inl h
      · exact .inr (.inl h)
      · exact .inr (.inr (.inr h))
      · exact .inr (.inr (.inl h))
theorem nodup_blocks {A B : List Row} {r : Row} : (excl X (A ++ r :: B)).Nodup ↔ (X.map (·.n) ++ (A.filterMap (·.v.ownBlock) ++ B.filterMap (·.v.ownBlock))).Nodup ∧ ∀ g, r.v.ownBlock = some g → g ∉ X.map (·.n) ++ (A.filterMap (·.v.ownBlock) ++ B.filterMap (·.v.ownBlock)) := by
  unfold excl
  simp only [List.filterMap_append, List.filterMap_cons]
  cases e : r.v.ownBlock with
  | none => simp
  | some b =>
    have hp : (X.map (·.n) ++ (A.filterMap (·.v.ownBlock) ++ b :: B.filterMap (·.v.ownBlock))).Perm (b :: (X.map (·.n) ++ (A.filterMap (·.v.ownBlock) ++ B.filterMap (·.v.ownBlock)))) := by
      rw [← List.append_assoc, ← List.append_assoc]; exact List.perm_middle
    rw [hp.nodup_iff, List.nodup_cons]
    simp [and_comm]
theorem Own.grow {w' : World} {A B : List Row} {r r' : Row} (hO : Own M w0 X (A ++ r :: B) S w) (hg : w.grownBy w' r.v.ownBlock) (hr : w'.ownsRow 0 r'.e r'.size r'.v r'.k r'.xs)
    (hb : ∀ g, r'.v.ownBlock = some g → r.v.ownBlock = some g ∨ g = w.heap.size) : Own M w0 X (A ++ r' :: B) S w' := by
  have hnd0 := nodup_blocks.1 hO.nd
  have hmem : ∀ g, r.v.ownBlock = some g → g ∈ excl X (A ++ r :: B) := fun g hg => mem_blocks.2 (.inr hg)
  have hin : ∀ g, g ∈ excl X (A ++ r' :: B) → g ∈ excl X (A ++ r :: B) ∨ g = w.heap.size := by
    intro g hg'
    rcases mem_blocks.1 hg' with h | h
    · exact .inl (mem_blocks.2 (.inl h))
    · rcases hb g h with h1 | h1
      · exact .inl (hmem g h1)
      · exact .inr h1
  have hnd : (excl X (A ++ r' :: B)).Nodup := by
    refine nodup_blocks.2 ⟨hnd0.1, fun g e hm => ?_⟩
    rcases hb g e with h1 | h1
    · exact hnd0.2 g h1 hm
    · have := hO.lt g (mem_blocks.2 (.inl hm)); omega
  have hapart : ∀ q, q ∈ A ∨ q ∈ B → q.v.ownBlock = none ∨ q.v.ownBlock ≠ r.v.ownBlock := by
    intro q hq
    cases e1 : q.v.ownBlock with
    | none => exact .inl rfl
    | some b =>
      right
      intro e2
      refine hnd0.2 b e2.symm (List.mem_append.2 (.inr (List.mem_append.2 ?_)))
      exact hq.imp (fun h => List.mem_filterMap.2 ⟨q, h, e1⟩) (fun h => List.mem_filterMap.2 ⟨q, h, e1⟩)
  refine ⟨?_, fun c hc => ?_, fun q hq => ?_, fun s hs => ?_, hnd, fun n hn => ?_, fun s hs hne hm => ?_⟩
  · refine ⟨hg.os.trans hO.keep.os, hg.tape.trans hO.keep.tape, hg.output.trans hO.keep.output, Nat.le_trans hO.keep.size hg.size, fun k hk hm => ?_⟩
    by_cases e : r.v.ownBlock = some k
    · rcases hO.free k (hmem k e) with hf | hf
      · exact absurd hf hm
      · omega
    · rw [hg.block k (Nat.lt_of_lt_of_le hk hO.keep.size) (fun e' => e e'.symm)]; exact hO.keep.block k hk hm
  · refine (hO.chunk c hc).grown hg fun e => ?_
    exact hnd0.2 c.n e (List.mem_append.2 (.inl (List.mem_map.2 ⟨c, hc, rfl⟩)))
  · rcases List.mem_append.1 hq with h | h
    · exact (hO.row q (List.mem_append.2 (.inl h))).kept hg (hapart q (.inl h))
    · rcases List.mem_cons.1 h with rfl | h
      · exact hr
      · exact (hO.row q (List.mem_append.2 (.inr (List.mem_cons_of_mem _ h)))).kept hg (hapart q (.inr h))
  · intro j v hv
    have h1 := hO.ro s hs j v hv
    have hne : r.v.ownBlock ≠ some s.g := fun e => hO.apart s hs (fun e0 => by rw [e0] at hv; cases hv) (hmem _ e)
    rw [World.cell?_of_block (w := w) (hg.block _ (World.block_lt_of_cell? w _ h1) (fun e => hne e.symm))]; exact h1
  · rcases hin n hn with h | h
    · exact hO.free n h
    · exact .inr (by rw [h]; exact hO.keep.size)
  · rcases hin _ hm with h | h
    · exact hO.apart s hs hne h
    · have := ro_lt (hO.ro s hs) hne
      omega
theorem UpdR.split {X X' : List Row} {c c' : Row} (h : UpdR X c c' X') : ∃ A B, X = A ++ c :: B ∧ X' = A ++ c' :: B := by
  induction h with
  | @here _ _ X => exact ⟨[], X, rfl, rfl⟩
  | @there _ _ d _ _ _ ih => obtain ⟨A, B, h1, h2⟩ := ih; exact ⟨d :: A, B, by simp [h1], by simp [h2]⟩

/-- append of m elements that lie in a chunk of the call's own (a slice literal that was just laid) -/
theorem own_append (hO : Own M w0 X R S w) (hgd : o.guard = none) {s x : Operand} {t e : TypeId} (ho : o.op = .call { callee := .builtin .append, args := #[s, x], argTypes := #[t, t] }) {size bytes : Nat} (ht : SliceT P t e size bytes)
    {v : Value} (hs : a.eval s = v) {b m c : Nat} (hx : a.eval x = .slice (some ⟨b, 0, none⟩) m c) {news : List Value} {t' : TypeId} (hm : (⟨b, news, t'⟩ : Chunk) ∈ X) (hl : news.length = m * size) (hm0 : 0 < m) (h1 : news.all (·.oneCell') = true)
    {k : Nat} {xs : List Value} {R1 : Nat → Nat → List Row} (hu : ∀ g cap, UpdR R ⟨v, k, xs, e, size⟩ ⟨.slice (some ⟨g, 0, none⟩) (k + m) cap, k + m, xs ++ news, e, size⟩ (R1 g cap)) (hbytes : (k + m) * bytes ≤ 140737488355328) (hk : k + m ≤ maxLen)
    (h : ∀ g cap w', Own M w0 X (R1 g cap) S w' → wpList P ops Q rest (a.put o.dst (.slice (some ⟨g, 0, none⟩) (k + m) cap)) w') : wpList P ops Q (o :: rest) a w := by
  obtain ⟨hu1, hsz, i, z, hi, hz, hi1, hi2, hz1⟩ := ht
  obtain ⟨A0, B0, hR0, _⟩ := (hu 0 0).split
  have hrow := hO.row ⟨v, k, xs, e, size⟩ (by rw [hR0]; exact List.mem_append.2 (.inr List.mem_cons_self))
  refine wpList_append_lies (P := P) w hgd s x t ho 0 e i z size bytes hu1 hi hz hi1 hi2 hz1 hsz v k xs hs hrow ⟨b, 0, none⟩ m c news hx hl ?_ ?_ hm0 hk hbytes (Nat.zero_le _) _ rfl ?_
  · intro q u hq
    have hadd : (⟨b, 0, none⟩ : Addr).add q = ⟨b, q, none⟩ := by unfold Addr.add; split <;> simp_all
    rw [hadd]; exact hO.cellAt hm hq
  · intro u hu'; exact (List.all_eq_true.1 h1) u hu'
  · intro g cap w' h2 h3 h4 _
    refine h g cap w' ?_
    obtain ⟨A, B, hR, hR'⟩ := (hu g cap).split
    rw [hR']
    refine Own.grow (r := ⟨v, k, xs, e, size⟩) (hR ▸ hO) h3 h2 fun g' hg' => ?_
    have : g' = g := by simpa [Value.ownBlock] using hg'.symm
    subst this; exact h4
end
end Go.Proofs.YtnhjcbmlplfpmaaDoor
