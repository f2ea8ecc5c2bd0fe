/- Slice literals of any length; an element of a chunk at an index of which only the bounds are known; what a call leaves that changes one chunk. For any program. -/
import Derived.Test.YtnhjcbmlplfpmaaDoorLooseW
namespace Go.Proofs.YtnhjcbmlplfpmaaDoor
open Go.RowKit
/-- the cells of some values, one behind the other -/
def flat : List Value → List Value
  | [] => []
  | v :: vs => v.cells.toList ++ flat vs
theorem putAt_append (xs ys : List Value) : ∀ (cs : List Value) (off : Nat), putAt cs off (xs ++ ys) = putAt (putAt cs off xs) (off + xs.length) ys := by
  induction xs with
  | nil => intro cs off; simp [putAt]
  | cons x xs ih => intro cs off; simp only [List.cons_append, putAt, ih, List.length_cons]; rw [show off + 1 + xs.length = off + (xs.length + 1) by omega]
theorem foldl_putAt (off : Nat) : ∀ (xs : List Value) (k : Nat) (cells : Array Value), ((xs.zipIdx k).foldl (fun cs (c, j) => cs.setIfInBounds (off + j) c) cells) = (putAt cells.toList (off + k) xs).toArray := by
  intro xs
  induction xs with
  | nil => intro k cells; simp [putAt]
  | cons x xs ih =>
    intro k cells
    simp only [List.zipIdx_cons, List.foldl_cons, ih, putAt]
    rw [show off + (k + 1) = off + k + 1 by omega]
    simp
theorem flat_length {s : Nat} : ∀ {vals : List Value}, (∀ v ∈ vals, v.cells.size = s) → (flat vals).length = vals.length * s
  | [], _ => by simp [flat]
  | v :: vs, h => by
    have h1 := h v (by simp)
    have h2 := flat_length (vals := vs) (fun u hu => h u (by simp [hu]))
    simp only [flat, List.length_append, h2, List.length_cons, Array.length_toList, h1, Nat.add_mul]; omega
theorem fill_seq {s : Nat} : ∀ (vals : List Value) (k : Nat) (cells : Array Value), (∀ v ∈ vals, v.cells.size = s) → (k + vals.length) * s ≤ cells.size →
    Instr.fill (fun i => some (i * s, s)) cells ((List.range' k vals.length).zip vals) = some (putAt cells.toList (k * s) (flat vals)).toArray := by
  intro vals
  induction vals with
  | nil => intro k cells _ _; simp [Instr.fill, flat, putAt]
  | cons v vs ih =>
    intro k cells hv hl
    have h1 := hv v (by simp)
    simp only [List.length_cons] at hl
    have h2 : k * s + s ≤ cells.size := by
      have : (k + (vs.length + 1)) * s = k * s + s + vs.length * s := by rw [Nat.add_mul, Nat.add_mul]; omega
      omega
    simp only [List.length_cons, List.range'_succ, List.zip_cons_cons, Instr.fill, h1]
    rw [if_neg (show ¬ ((decide (s ≠ s) || decide (k * s + s > cells.size)) = true) by simp; omega)]
    have e : v.cells.zipIdx.foldl (fun cs (c, j) => cs.setIfInBounds (k * s + j) c) cells = (putAt cells.toList (k * s) v.cells.toList).toArray := by
      rw [← Array.foldl_toList, Array.toList_zipIdx]
      exact foldl_putAt (k * s) v.cells.toList 0 cells
    rw [e, ih (k + 1) _ (fun u hu => hv u (by simp [hu])) (by simp only [List.size_toArray, putAt_length, Array.length_toList]; rw [show k + 1 + vs.length = k + (vs.length + 1) by omega]; exact hl)]
    simp only [flat, putAt_append, Array.length_toList, h1, Nat.add_mul, Nat.one_mul]

section
variable {P : Program} {ops : Array Oper} {rest : List Oper} {o : Oper} {a : Act} {Q : Exit → Act → World → Prop} {M : List Nat} {w0 w w' : World} {X X' : List Chunk} {R R' : List Row} {S : List Ro}
theorem built_seq {e len s : Nat} {vals : List Value} {i : TypeInfo} {z : Value} (hi : P.info? e = some i) (hz : i.zero = some z) (hs : i.size = s) (hs0 : 0 < s) (hv : ∀ v ∈ vals, v.cells.size = s) (hl : vals.length = len) (h0 : 0 < len) (h24 : len * s ≤ 16777216) :
    Program.builtSlice P e len ((List.range len).zip vals) = some (flat vals).toArray := by
  unfold Program.builtSlice
  simp only [hi, hz, hs]
  have hne : ¬ (len * s > 2 ^ 24 ∨ len * s = 0) := by
    have : 0 < len * s := Nat.mul_pos h0 hs0
    omega
  rw [if_neg hne]
  have := fill_seq (s := s) vals 0 (((Array.range (len * s)).map (z.cells[· % z.cells.size]!))) hv (by simp [hl])
  rw [hl, ← List.range_eq_range'] at this
  rw [this]
  congr 2
  rw [Nat.zero_mul]
  exact putAt_all _ _ (by rw [flat_length hv, hl]; simp)
theorem rx_buildN {t e len bytes s : Nat} {parts : Array (Nat × Operand)} (ho : o.op = .buildSlice t len parts) (ht : SliceT P t e s bytes) {vals : List Value} (hx : parts.toList.map (fun p => a.eval p.2) = vals) (hi : parts.toList.map (·.1) = List.range len)
    (hv : vals.all (fun v => v.cells.size == s) = true) (h0 : 0 < len) (h24 : len * s ≤ 16777216) :
    (execOp a.eval o).run P w = .ok (.value (.slice (some ⟨w.heap.size, 0, none⟩) len len)) (w.alloc (.cells (flat vals).toArray e (0, 0))) := by
  obtain ⟨hu, hs0, i, z, hie, hz, hsz, _, _⟩ := ht
  refine rx_build ho hu ?_
  have hl : vals.length = len := by
    have := congrArg List.length hi
    rw [← hx]; simpa using this
  have e : (parts.map fun (i, x) => (i, a.eval x)).toList = (List.range len).zip vals := by
    rw [← hi, ← hx, Array.toList_map]
    generalize parts.toList = l
    induction l with
    | nil => rfl
    | cons p l ih => simp [ih]
  rw [e]
  exact built_seq hie hz hsz hs0 (fun v hv' => by simpa using List.all_eq_true.1 hv v hv') hl h0 h24
theorem own_buildN (vals : List Value) (hO : Own M w0 X R S w) (hw : Region.wanted o (yielded ops a.tmps) = true) {t e len bytes s : Nat} {parts : Array (Nat × Operand)} (ho : o.op = .buildSlice t len parts) (ht : SliceT P t e s bytes) (hx : parts.toList.map (fun p => a.eval p.2) = vals) (hi : parts.toList.map (·.1) = List.range len)
    (hv : vals.all (fun v => v.cells.size == s) = true) (h0 : 0 < len) (h24 : len * s ≤ 16777216) (h : ∀ n w', Own M w0 (⟨n, flat vals, e⟩ :: X) R S w' → wpList P ops Q rest (a.put o.dst (.slice (some ⟨n, 0, none⟩) len len)) w') : wpList P ops Q (o :: rest) a w :=
  wpList_val hw _ _ (rx_buildN ho ht hx hi hv h0 h24) (h _ _ (hO.alloc _ e))
theorem flat_one : ∀ {vals : List Value}, vals.all (·.oneCell') = true → flat vals = vals ∧ (vals.all (fun v => v.cells.size == 1) = true)
  | [], _ => ⟨rfl, rfl⟩
  | v :: vs, h => by
    simp only [List.all_cons, Bool.and_eq_true] at h
    have ih := flat_one h.2
    have e : v.cells = #[v] := by have h1 := h.1; cases v <;> first | rfl | cases h1
    simp [flat, e, ih.1, ih.2]
theorem own_buildP (vals : List Value) (hO : Own M w0 X R S w) (hw : Region.wanted o (yielded ops a.tmps) = true) {t e len bytes : Nat} {parts : Array (Nat × Operand)} (ho : o.op = .buildSlice t len parts) (ht : SliceT P t e 1 bytes) (hx : parts.toList.map (fun p => a.eval p.2) = vals) (hi : parts.toList.map (·.1) = List.range len)
    (hv : vals.all (·.oneCell') = true) (h0 : 0 < len) (h24 : len * 1 ≤ 16777216) (h : ∀ n w', Own M w0 (⟨n, vals, e⟩ :: X) R S w' → wpList P ops Q rest (a.put o.dst (.slice (some ⟨n, 0, none⟩) len len)) w') : wpList P ops Q (o :: rest) a w := by
  obtain ⟨e1, e2⟩ := flat_one hv
  exact own_buildN vals hO hw ho ht hx hi e2 h0 h24 (by rw [e1]; exact h)
theorem all_cons {p : Value → Prop} {v : Value} {vs : List Value} (h : p v) (hs : ∀ u ∈ vs, p u) : ∀ u ∈ v :: vs, p u := fun u hu => by
  rcases List.mem_cons.1 hu with rfl | hu
  · exact h
  · exact hs u hu
theorem all_nil {p : Value → Prop} : ∀ u ∈ ([] : List Value), p u := fun u hu => by cases hu
/-- an element of one cell, at an index of which the bounds are known -/
theorem own_loadE (hO : Own M w0 X R S w) (hw : Region.wanted o (yielded ops a.tmps) = true) {t : TypeId} {x : Operand} (ho : o.op = .load t x) {n off : Nat} (hx : a.eval x = .pointer (some ⟨n, off, none⟩))
    (ht : OneT P t) {cs : List Value} {t' : TypeId} (hm : (⟨n, cs, t'⟩ : Chunk) ∈ X) (hl : off < cs.length)
    (h : ∀ v, v ∈ cs → wpList P ops Q rest (a.put o.dst v) w) : wpList P ops Q (o :: rest) a w :=
  own_load1 hO hw ho hx ht hm (List.getElem?_eq_getElem hl) (h _ (List.getElem_mem hl))
/-- an element of several cells, of a literal, at an index of which the bounds are known -/
theorem flat_at {s : Nat} : ∀ {vals : List Value} {k : Nat}, (∀ v ∈ vals, v.cells.size = s) → (hk : k < vals.length) → ((flat vals).drop (k * s)).take s = vals[k].cells.toList
  | v :: vs, 0, h, _ => by
    have h1 := h v (by simp)
    simp only [Nat.zero_mul, List.drop_zero, flat, List.getElem_cons_zero]
    exact List.take_left' (by simpa using h1)
  | v :: vs, k + 1, h, hk => by
    have h1 := h v (by simp)
    have ih := flat_at (vals := vs) (k := k) (fun u hu => h u (by simp [hu])) (by simpa using hk)
    simp only [flat, List.getElem_cons_succ]
    rw [show (k + 1) * s = v.cells.toList.length + k * s by rw [Array.length_toList, h1, Nat.add_mul]; omega, List.drop_append, List.drop_of_length_le (by omega), List.nil_append, Nat.add_sub_cancel_left]
    exact ih
theorem own_loadF (hO : Own M w0 X R S w) (hw : Region.wanted o (yielded ops a.tmps) = true) {t : TypeId} {x : Operand} (ho : o.op = .load t x) {n k s : Nat} (hx : a.eval x = .pointer (some ⟨n, k * s, none⟩))
    (ht : RowT P t s) {vals : List Value} {t' : TypeId} (hm : (⟨n, flat vals, t'⟩ : Chunk) ∈ X) (hl : k < vals.length) (hv : vals.all (fun v => (v matches .agg _) && v.cells.size == s) = true)
    (h : ∀ v, v ∈ vals → wpList P ops Q rest (a.put o.dst v) w) : wpList P ops Q (o :: rest) a w := by
  have hv' : ∀ v ∈ vals, v.cells.size = s := fun v hm => by have := List.all_eq_true.1 hv v hm; simp at this; exact this.2
  have hf := flat_at hv' hl
  have hm' := List.getElem_mem hl
  have h2 := List.all_eq_true.1 hv _ hm'
  have hsz := hv' _ hm'
  generalize vals[k] = v at *
  cases v with
  | agg cs =>
    simp only [Value.cells] at hf hsz
    refine own_load (vs := cs.toList) hO hw ho hx ht hm (by rw [Array.length_toList, hsz]; exact hf) (by simpa using hsz) ?_
    simpa using h _ hm'
  | _ => simp at h2

/-- a call that changes one chunk of ours, and nothing else that is old -/
theorem Own.after (hO : Own M w0 X R S w) {n : Nat} {cs cs' : List Value} {t : TypeId} (hu : Upd X ⟨n, cs, t⟩ ⟨n, cs', t⟩ X') (hk : Keep [n] w w') (hb : Blk w' n cs' t) : Own M w0 X' R S w' := by
  obtain ⟨i, hi, rfl⟩ := hu.at
  have he : excl (X.set i ⟨n, cs', t⟩) R = excl X R := by unfold excl; rw [map_set_n hi cs']
  have hmem : n ∈ excl X R := List.mem_append.2 (.inl (List.mem_map.2 ⟨_, List.mem_of_getElem? hi, rfl⟩))
  have hnX : n ∈ X.map (·.n) := List.mem_map.2 ⟨_, List.mem_of_getElem? hi, rfl⟩
  have hnd := List.nodup_append.1 hO.nd
  refine ⟨⟨hk.os.trans hO.keep.os, hk.tape.trans hO.keep.tape, hk.output.trans hO.keep.output, Nat.le_trans hO.keep.size hk.size, fun k hk0 hm => ?_⟩, fun c hc => ?_, fun r hr => ?_, fun s hs' => ?_, he ▸ hO.nd, he ▸ hO.free, he ▸ hO.apart⟩
  · by_cases e : k = n
    · subst e
      rcases hO.free k hmem with hf | hf
      · exact absurd hf hm
      · omega
    · rw [hk.block k (Nat.lt_of_lt_of_le hk0 hO.keep.size) (by simpa using e)]; exact hO.keep.block k hk0 hm
  · obtain ⟨j, hj⟩ := List.getElem?_of_mem hc
    by_cases e : j = i
    · subst e
      have hl := (List.getElem?_eq_some_iff.1 hi).1
      rw [List.getElem?_set_self hl] at hj
      cases hj; exact hb
    · rw [List.getElem?_set_ne (fun h => e h.symm)] at hj
      have hc' := hO.chunk c (List.mem_of_getElem? hj)
      have hne : c.n ≠ n := by
        intro heq
        have h1 : (X.map (·.n))[j]? = some n := by simp [hj, heq]
        have h2 : (X.map (·.n))[i]? = some n := by simp [hi]
        exact e ((List.getElem?_inj (List.getElem?_eq_some_iff.1 h1).1 hnd.1).1 (h1.trans h2.symm))
      unfold Blk; rw [hk.block c.n hc'.lt (by simpa using hne)]; exact hc'
  · refine (hO.row r hr).kept (row := some n) ⟨hk.os, hk.tape, hk.output, hk.size, fun k hk0 hkn => hk.block k hk0 (by simp; intro e; exact hkn (by rw [e]))⟩ ?_
    cases e : r.v.ownBlock with
    | none => simp
    | some b =>
      right
      intro heq
      have hb : b = n := by simpa using heq
      exact hnd.2.2 n hnX b (List.mem_filterMap.2 ⟨r, hr, e⟩) hb.symm
  · intro j v hv
    have h1 := hO.ro s hs' j v hv
    have hne : s.g ≠ n := fun e => hO.apart s hs' (fun e0 => by rw [e0] at hv; cases hv) (e ▸ hmem)
    rw [World.cell?_of_block (w := w) (hk.block _ (World.block_lt_of_cell? w _ h1) (by simpa using hne))]; exact h1
theorem keep_alloc (w : World) (o : Obj) (M : List Nat) : Keep M w (w.alloc o) := ⟨rfl, rfl, rfl, by simp, fun k hk _ => Below.heap_alloc _ _ _ hk⟩
/-- a slice literal whose cells are known -/
def IsLit (L : List Nat) (len : Nat) (cs : List Value) : Fact := fun v w => ∃ b, v = .slice (some ⟨b, 0, none⟩) len len ∧ w.rangeAt b 0 cs ∧ (b ∉ L) ∧ b < w.heap.size
theorem IsLit.keep {L M : List Nat} {len : Nat} {cs : List Value} {v : Value} (h : IsLit L len cs v w) (hk : Keep M w w') (hM : ∀ x ∈ M, x ∈ L) : IsLit L len cs v w' := by
  obtain ⟨b, h1, h2, h3, h4⟩ := h
  refine ⟨b, h1, fun j u hj => ?_, h3, Nat.lt_of_lt_of_le h4 hk.size⟩
  rw [World.cell?_of_block (w := w) (hk.block b h4 (fun hm => h3 (hM b hm)))]; exact h2 j u hj
theorem own_lit (hO : Own M w0 X R S w) {len : Nat} {cs : List Value} {v : Value} (h : IsLit (excl X R) len cs v w) : ∃ b, v = .slice (some ⟨b, 0, none⟩) len len ∧ Own M w0 X R (⟨b, 0, cs⟩ :: S) w := by
  obtain ⟨b, h1, h2, h3, _⟩ := h
  exact ⟨b, h1, hO.addRo ⟨b, 0, cs⟩ h2 fun _ => h3⟩
theorem own_loadRE (hO : Own M w0 X R S w) (hw : Region.wanted o (yielded ops a.tmps) = true) {t : TypeId} {x : Operand} (ho : o.op = .load t x) {n off : Nat} (hx : a.eval x = .pointer (some ⟨n, off, none⟩))
    (ht : OneT P t) {cs : List Value} (hm : (⟨n, 0, cs⟩ : Ro) ∈ S) (hl : off < cs.length)
    (h : ∀ v, v ∈ cs → wpList P ops Q rest (a.put o.dst v) w) : wpList P ops Q (o :: rest) a w :=
  own_loadG1 hO hw ho hx ht hm (List.getElem?_eq_getElem hl) (h _ (List.getElem_mem hl))
end
end Go.Proofs.YtnhjcbmlplfpmaaDoor
