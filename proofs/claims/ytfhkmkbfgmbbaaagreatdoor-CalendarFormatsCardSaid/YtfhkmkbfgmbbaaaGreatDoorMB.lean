/- Walks of the law functions over the package box alone: sane. -/
import Derived.Test.YtfhkmkbfgmbbaaaGreatDoorRows
import Derived.WalkKit
import Derived.ProofKit
import Derived.OpenShut
import Derived.ChangeStays
import Derived.ReadAgain
import Derived.Deep.DeepHandedRow
import Derived.Lib.LaidTab
import Derived.ChangeSlices
import Derived.Laws.OwnMore
import Derived.Maps.AppendAt
import Derived.Lib.SliceRun
import Derived.IntWalk
import Derived.Sort.LotD3
import Derived.Sort.LotA
import Derived.Sort.LotB
import Derived.Sort.LotC
import Derived.Sort.LotD4
import Derived.Laws.MakeOwn
import Derived.Test.YtfhkmkbfgmbbaaaGreatDoorMA
namespace Go.Proofs.YtfhkmkbfgmbbaaaGreatDoor
open Go.RowKit
set_option maxRecDepth 100000

theorem IsBoxes.keep {w w' : World} {v : Value} {l : List Bx} (h : IsBoxes w v l) (hk : Keep [] w w') : IsBoxes w' v l := by
  rcases h with h | ⟨g, o, c, h1, h2, h3⟩
  · exact .inl h
  · refine .inr ⟨g, o, c, h1, h2, fun j u hj => ?_⟩
    have h4 := h3 j u hj
    rw [World.cell?_of_block (w := w) (hk.block _ (World.block_lt_of_cell? w _ h4) (by simp))]; exact h4
/-- boxes outside some blocks -/
def IsOff (L : List Nat) (w : World) (v : Value) (l : List Bx) : Prop := IsBoxes w v l ∧ ∀ g, v.ownBlock = some g → g ∉ L
theorem IsOff.keep {L : List Nat} {w w' : World} {v : Value} {l : List Bx} (h : IsOff L w v l) (hk : Keep [] w w') : IsOff L w' v l := ⟨h.1.keep hk, h.2⟩
theorem off_of_new {M : List Nat} {w0 w : World} {X : List Chunk} {R : List Row} {S : List Ro} (hO : Own M w0 X R S w) {v : Value} (h : NewFrom w v) : ∀ g, v.ownBlock = some g → g ∉ excl X R := fun g hg hm => by
  have h1 := h g hg
  have h2 := hO.lt g hm
  omega
abbrev hcs (h : Hd) : List Value := [.int .u32 h.src, .int .u32 h.dst, .int .u8 h.proto, .int .u16 h.sport, .int .u16 h.dport]
end Go.Proofs.YtfhkmkbfgmbbaaaGreatDoor

/- BoxFields: With changes one field; the walk. Top, Value, With for every field. -/
namespace Go.Proofs.YtfhkmkbfgmbbaaaGreatDoor
open Go.RowKit
set_option maxRecDepth 100000

/-! ### the plain law -/
theorem Hd.at_of (p : Nat → Int) {k : Nat} (h : k < 5) : (Hd.of p).at k = p k := by rcases five h with rfl | rfl | rfl | rfl | rfl <;> rfl
theorem Hd.at_set (x : Hd) (k : Nat) (v : Int) {i : Nat} (h : i < 5) : (x.set k v).at i = if i = k then v else x.at i := Hd.at_of _ h
/-! ### the walk -/
end Go.Proofs.YtfhkmkbfgmbbaaaGreatDoor

/- Slice literals of any length; an element of a chunk at an index of which only the bounds are known; what a call leaves that changes one chunk. For any program. -/
namespace Go.Proofs.YtfhkmkbfgmbbaaaGreatDoor
open Go.RowKit
/-- the cells of some values, one behind the other -/
def flat : List Value → List Value
  | [] => []
  | v :: vs => v.cells.toList ++ flat vs
theorem putAt_append (xs ys : List Value) : ∀ (cs : List Value) (off : Nat), putAt cs off (xs ++ ys) = putAt (putAt cs off xs) (off + xs.length) ys := by
  induction xs with
  | nil => intro cs off; simp [putAt]
  | cons x xs ih => intro cs off; simp only [List.cons_append, putAt, ih, List.length_cons]; rw [show off + 1 + xs.length = off + (xs.length + 1) by omega]
theorem foldl_putAt (off : Nat) : ∀ (xs : List Value) (k : Nat) (cells : Array Value), ((xs.zipIdx k).foldl (fun cs (c, j) => cs.setIfInBounds (off + j) c) cells) = (putAt cells.toList (off + k) xs).toArray := by
  intro xs
  induction xs with
  | nil => intro k cells; simp [putAt]
  | cons x xs ih =>
    intro k cells
    simp only [List.zipIdx_cons, List.foldl_cons, ih, putAt]
    rw [show off + (k + 1) = off + k + 1 by omega]
    simp
theorem flat_length {s : Nat} : ∀ {vals : List Value}, (∀ v ∈ vals, v.cells.size = s) → (flat vals).length = vals.length * s
  | [], _ => by simp [flat]
  | v :: vs, h => by
    have h1 := h v (by simp)
    have h2 := flat_length (vals := vs) (fun u hu => h u (by simp [hu]))
    simp only [flat, List.length_append, h2, List.length_cons, Array.length_toList, h1, Nat.add_mul]; omega
theorem fill_seq {s : Nat} : ∀ (vals : List Value) (k : Nat) (cells : Array Value), (∀ v ∈ vals, v.cells.size = s) → (k + vals.length) * s ≤ cells.size →
    Instr.fill (fun i => some (i * s, s)) cells ((List.range' k vals.length).zip vals) = some (putAt cells.toList (k * s) (flat vals)).toArray := by
  intro vals
  induction vals with
  | nil => intro k cells _ _; simp [Instr.fill, flat, putAt]
  | cons v vs ih =>
    intro k cells hv hl
    have h1 := hv v (by simp)
    simp only [List.length_cons] at hl
    have h2 : k * s + s ≤ cells.size := by
      have : (k + (vs.length + 1)) * s = k * s + s + vs.length * s := by rw [Nat.add_mul, Nat.add_mul]; omega
      omega
    simp only [List.length_cons, List.range'_succ, List.zip_cons_cons, Instr.fill, h1]
    rw [if_neg (show ¬ ((decide (s ≠ s) || decide (k * s + s > cells.size)) = true) by simp; omega)]
    have e : v.cells.zipIdx.foldl (fun cs (c, j) => cs.setIfInBounds (k * s + j) c) cells = (putAt cells.toList (k * s) v.cells.toList).toArray := by
      rw [← Array.foldl_toList, Array.toList_zipIdx]
      exact foldl_putAt (k * s) v.cells.toList 0 cells
    rw [e, ih (k + 1) _ (fun u hu => hv u (by simp [hu])) (by simp only [List.size_toArray, putAt_length, Array.length_toList]; rw [show k + 1 + vs.length = k + (vs.length + 1) by omega]; exact hl)]
    simp only [flat, putAt_append, Array.length_toList, h1, Nat.add_mul, Nat.one_mul]

section
variable {P : Program} {ops : Array Oper} {rest : List Oper} {o : Oper} {a : Act} {Q : Exit → Act → World → Prop} {M : List Nat} {w0 w w' : World} {X X' : List Chunk} {R R' : List Row} {S : List Ro}
theorem built_seq {e len s : Nat} {vals : List Value} {i : TypeInfo} {z : Value} (hi : P.info? e = some i) (hz : i.zero = some z) (hs : i.size = s) (hs0 : 0 < s) (hv : ∀ v ∈ vals, v.cells.size = s) (hl : vals.length = len) (h0 : 0 < len) (h24 : len * s ≤ 16777216) :
    Program.builtSlice P e len ((List.range len).zip vals) = some (flat vals).toArray := by
  unfold Program.builtSlice
  simp only [hi, hz, hs]
  have hne : ¬ (len * s > 2 ^ 24 ∨ len * s = 0) := by
    have : 0 < len * s := Nat.mul_pos h0 hs0
    omega
  rw [if_neg hne]
  have := fill_seq (s := s) vals 0 (((Array.range (len * s)).map (z.cells[· % z.cells.size]!))) hv (by simp [hl])
  rw [hl, ← List.range_eq_range'] at this
  rw [this]
  congr 2
  rw [Nat.zero_mul]
  exact putAt_all _ _ (by rw [flat_length hv, hl]; simp)
theorem rx_buildN {t e len bytes s : Nat} {parts : Array (Nat × Operand)} (ho : o.op = .buildSlice t len parts) (ht : SliceT P t e s bytes) {vals : List Value} (hx : parts.toList.map (fun p => a.eval p.2) = vals) (hi : parts.toList.map (·.1) = List.range len)
    (hv : vals.all (fun v => v.cells.size == s) = true) (h0 : 0 < len) (h24 : len * s ≤ 16777216) :
    (execOp a.eval o).run P w = .ok (.value (.slice (some ⟨w.heap.size, 0, none⟩) len len)) (w.alloc (.cells (flat vals).toArray e (0, 0))) := by
  obtain ⟨hu, hs0, i, z, hie, hz, hsz, _, _⟩ := ht
  refine rx_build ho hu ?_
  have hl : vals.length = len := by
    have := congrArg List.length hi
    rw [← hx]; simpa using this
  have e : (parts.map fun (i, x) => (i, a.eval x)).toList = (List.range len).zip vals := by
    rw [← hi, ← hx, Array.toList_map]
    generalize parts.toList = l
    induction l with
    | nil => rfl
    | cons p l ih => simp [ih]
  rw [e]
  exact built_seq hie hz hsz hs0 (fun v hv' => by simpa using List.all_eq_true.1 hv v hv') hl h0 h24
theorem own_buildN (vals : List Value) (hO : Own M w0 X R S w) (hw : Region.wanted o (yielded ops a.tmps) = true) {t e len bytes s : Nat} {parts : Array (Nat × Operand)} (ho : o.op = .buildSlice t len parts) (ht : SliceT P t e s bytes) (hx : parts.toList.map (fun p => a.eval p.2) = vals) (hi : parts.toList.map (·.1) = List.range len)
    (hv : vals.all (fun v => v.cells.size == s) = true) (h0 : 0 < len) (h24 : len * s ≤ 16777216) (h : ∀ n w', Own M w0 (⟨n, flat vals, e⟩ :: X) R S w' → wpList P ops Q rest (a.put o.dst (.slice (some ⟨n, 0, none⟩) len len)) w') : wpList P ops Q (o :: rest) a w :=
  wpList_val hw _ _ (rx_buildN ho ht hx hi hv h0 h24) (h _ _ (hO.alloc _ e))
theorem flat_one : ∀ {vals : List Value}, vals.all (·.oneCell') = true → flat vals = vals ∧ (vals.all (fun v => v.cells.size == 1) = true)
  | [], _ => ⟨rfl, rfl⟩
  | v :: vs, h => by
    simp only [List.all_cons, Bool.and_eq_true] at h
    have ih := flat_one h.2
    have e : v.cells = #[v] := by have h1 := h.1; cases v <;> first | rfl | cases h1
    simp [flat, e, ih.1, ih.2]
theorem own_buildP (vals : List Value) (hO : Own M w0 X R S w) (hw : Region.wanted o (yielded ops a.tmps) = true) {t e len bytes : Nat} {parts : Array (Nat × Operand)} (ho : o.op = .buildSlice t len parts) (ht : SliceT P t e 1 bytes) (hx : parts.toList.map (fun p => a.eval p.2) = vals) (hi : parts.toList.map (·.1) = List.range len)
    (hv : vals.all (·.oneCell') = true) (h0 : 0 < len) (h24 : len * 1 ≤ 16777216) (h : ∀ n w', Own M w0 (⟨n, vals, e⟩ :: X) R S w' → wpList P ops Q rest (a.put o.dst (.slice (some ⟨n, 0, none⟩) len len)) w') : wpList P ops Q (o :: rest) a w := by
  obtain ⟨e1, e2⟩ := flat_one hv
  exact own_buildN vals hO hw ho ht hx hi e2 h0 h24 (by rw [e1]; exact h)
theorem all_cons {p : Value → Prop} {v : Value} {vs : List Value} (h : p v) (hs : ∀ u ∈ vs, p u) : ∀ u ∈ v :: vs, p u := fun u hu => by
  rcases List.mem_cons.1 hu with rfl | hu
  · exact h
  · exact hs u hu
theorem all_nil {p : Value → Prop} : ∀ u ∈ ([] : List Value), p u := fun u hu => by cases hu
/-- an element of one cell, at an index of which the bounds are known -/
theorem own_loadE (hO : Own M w0 X R S w) (hw : Region.wanted o (yielded ops a.tmps) = true) {t : TypeId} {x : Operand} (ho : o.op = .load t x) {n off : Nat} (hx : a.eval x = .pointer (some ⟨n, off, none⟩))
    (ht : OneT P t) {cs : List Value} {t' : TypeId} (hm : (⟨n, cs, t'⟩ : Chunk) ∈ X) (hl : off < cs.length)
    (h : ∀ v, v ∈ cs → wpList P ops Q rest (a.put o.dst v) w) : wpList P ops Q (o :: rest) a w :=
  own_load1 hO hw ho hx ht hm (List.getElem?_eq_getElem hl) (h _ (List.getElem_mem hl))
/-- a call that changes one chunk of ours, and nothing else that is old -/
theorem Own.after (hO : Own M w0 X R S w) {n : Nat} {cs cs' : List Value} {t : TypeId} (hu : Upd X ⟨n, cs, t⟩ ⟨n, cs', t⟩ X') (hk : Keep [n] w w') (hb : Blk w' n cs' t) : Own M w0 X' R S w' := by
  obtain ⟨i, hi, rfl⟩ := hu.at
  have he : excl (X.set i ⟨n, cs', t⟩) R = excl X R := by unfold excl; rw [map_set_n hi cs']
  have hmem : n ∈ excl X R := List.mem_append.2 (.inl (List.mem_map.2 ⟨_, List.mem_of_getElem? hi, rfl⟩))
  have hnX : n ∈ X.map (·.n) := List.mem_map.2 ⟨_, List.mem_of_getElem? hi, rfl⟩
  have hnd := List.nodup_append.1 hO.nd
  refine ⟨⟨hk.os.trans hO.keep.os, hk.tape.trans hO.keep.tape, hk.output.trans hO.keep.output, Nat.le_trans hO.keep.size hk.size, fun k hk0 hm => ?_⟩, fun c hc => ?_, fun r hr => ?_, fun s hs' => ?_, he ▸ hO.nd, he ▸ hO.free, he ▸ hO.apart⟩
  · by_cases e : k = n
    · subst e
      rcases hO.free k hmem with hf | hf
      · exact absurd hf hm
      · omega
    · rw [hk.block k (Nat.lt_of_lt_of_le hk0 hO.keep.size) (by simpa using e)]; exact hO.keep.block k hk0 hm
  · obtain ⟨j, hj⟩ := List.getElem?_of_mem hc
    by_cases e : j = i
    · subst e
      have hl := (List.getElem?_eq_some_iff.1 hi).1
      rw [List.getElem?_set_self hl] at hj
      cases hj; exact hb
    · rw [List.getElem?_set_ne (fun h => e h.symm)] at hj
      have hc' := hO.chunk c (List.mem_of_getElem? hj)
      have hne : c.n ≠ n := by
        intro heq
        have h1 : (X.map (·.n))[j]? = some n := by simp [hj, heq]
        have h2 : (X.map (·.n))[i]? = some n := by simp [hi]
        exact e ((List.getElem?_inj (List.getElem?_eq_some_iff.1 h1).1 hnd.1).1 (h1.trans h2.symm))
      unfold Blk; rw [hk.block c.n hc'.lt (by simpa using hne)]; exact hc'
  · refine (hO.row r hr).kept (row := some n) ⟨hk.os, hk.tape, hk.output, hk.size, fun k hk0 hkn => hk.block k hk0 (by simp; intro e; exact hkn (by rw [e]))⟩ ?_
    cases e : r.v.ownBlock with
    | none => simp
    | some b =>
      right
      intro heq
      have hb : b = n := by simpa using heq
      exact hnd.2.2 n hnX b (List.mem_filterMap.2 ⟨r, hr, e⟩) hb.symm
  · intro j v hv
    have h1 := hO.ro s hs' j v hv
    have hne : s.g ≠ n := fun e => hO.apart s hs' (fun e0 => by rw [e0] at hv; cases hv) (e ▸ hmem)
    rw [World.cell?_of_block (w := w) (hk.block _ (World.block_lt_of_cell? w _ h1) (by simpa using hne))]; exact h1
/-- a slice literal whose cells are known -/
def IsLit (L : List Nat) (len : Nat) (cs : List Value) : Fact := fun v w => ∃ b, v = .slice (some ⟨b, 0, none⟩) len len ∧ w.rangeAt b 0 cs ∧ (b ∉ L) ∧ b < w.heap.size
theorem IsLit.keep {L M : List Nat} {len : Nat} {cs : List Value} {v : Value} (h : IsLit L len cs v w) (hk : Keep M w w') (hM : ∀ x ∈ M, x ∈ L) : IsLit L len cs v w' := by
  obtain ⟨b, h1, h2, h3, h4⟩ := h
  refine ⟨b, h1, fun j u hj => ?_, h3, Nat.lt_of_lt_of_le h4 hk.size⟩
  rw [World.cell?_of_block (w := w) (hk.block b h4 (fun hm => h3 (hM b hm)))]; exact h2 j u hj
end
end Go.Proofs.YtfhkmkbfgmbbaaaGreatDoor

/- Loads from what came in, at an address of several parts. For any program but for the cells of boxes. -/
namespace Go.Proofs.YtfhkmkbfgmbbaaaGreatDoor
open Go.RowKit
section
variable {P : Program} {ops : Array Oper} {rest : List Oper} {o : Oper} {a : Act} {w w0 : World} {Q : Exit → Act → World → Prop} {M : List Nat} {X : List Chunk} {R : List Row} {S : List Ro}
end
theorem cb_at (l : List Bx) {k j : Nat} (hk : k < l.length) (hj : j < 10) : (cellsB l)[k * 10 + j]? = (bcs l[k])[j]? := by
  have h := tk_box l hk
  rw [bcs_length] at h
  have h2 : ((List.take 10 (List.drop (k * 10) (cellsB l))))[j]? = (bcs l[k])[j]? := by rw [h]
  rw [List.getElem?_take, if_pos hj, List.getElem?_drop] at h2
  exact h2
theorem cb_lo (l : List Bx) {k f : Nat} (hk : k < l.length) (hf : f < 5) : (cellsB l)[k * 10 + f * 2]? = some (.int .u32 (l[k].at f).lo) := by
  rw [cb_at l hk (by omega)]; exact bcs_lo _ hf
theorem cb_hi (l : List Bx) {k f : Nat} (hk : k < l.length) (hf : f < 5) : (cellsB l)[k * 10 + f * 2 + 1]? = some (.int .u32 (l[k].at f).hi) := by
  rw [Nat.add_assoc, cb_at l hk (by omega)]; exact bcs_hi _ hf
end Go.Proofs.YtfhkmkbfgmbbaaaGreatDoor

/- The tape of the generators: what is known of it, its laws, Mod and Next. -/
namespace Go.Proofs.YtfhkmkbfgmbbaaaGreatDoor
open Go.RowKit
set_option maxRecDepth 100000

theorem row_Tape : RowT Tryz.prog 40 2 := ⟨_, Tryz.underlying40, rfl, by kernel_rfl⟩
theorem one_ints : OneT Tryz.prog 22 := ⟨_, Tryz.underlying22, rfl, by kernel_rfl⟩
abbrev ints (zs : List Int) : List Value := zs.map fun z => .int .i64 z
theorem ints_at {zs : List Int} {k : Nat} (h : k < zs.length) : (ints zs)[k]? = some (.int .i64 zs[k]) := by simp [h]
/-- the tape's two cells -/
abbrev tcs (sl : Value) (i : Nat) : List Value := [sl, .int .i64 i]
/-- the list of the tape, and its numbers -/
structure ZsOk (sl : Value) (zs : List Int) : Prop where
  view : ∃ a c, sl = .slice a zs.length c ∧ (0 < zs.length → ∃ g o, a = some ⟨g, o, none⟩)
  bd : ∀ z ∈ zs, -9223372036854775808 ≤ z ∧ z ≤ 9223372036854775807
  len : zs.length ≤ 9223372036854775807
/-- a tape in memory -/
structure TapeIn (w : World) (n : Nat) (sl : Value) (zs : List Int) (i : Nat) : Prop where
  blk : Blk w n (tcs sl i) 40
  le : i ≤ zs.length
  rd : ∀ s ∈ roS sl (ints zs), w.rangeAt s.g s.o s.xs ∧ (s.xs ≠ [] → s.g ≠ n)
def TPost (w : World) (n : Nat) (sl : Value) (zs : List Int) (Φ : Value → World → Prop) (e : Ending) (w' : World) : Prop :=
  ∃ v i', e = .returned v ∧ Φ v w' ∧ Keep [n] w w' ∧ TapeIn w' n sl zs i'
theorem Own.takeIn {w : World} {n : Nat} {cs : List Value} {t : TypeId} (hb : Blk w n cs t) (S : List Ro) (hS : ∀ s ∈ S, w.rangeAt s.g s.o s.xs ∧ (s.xs ≠ [] → s.g ≠ n)) : Own [n] w [⟨n, cs, t⟩] [] S w :=
  ⟨Keep.refl _ _, fun c hc => by obtain rfl := List.mem_singleton.1 hc; exact hb, fun r hr => (by cases hr), fun s hs => (hS s hs).1, by simp [excl], fun k hk => .inl (by simpa [excl] using hk), fun s hs hne => by simpa [excl] using (hS s hs).2 hne⟩
theorem own_tape {w : World} {n : Nat} {sl : Value} {zs : List Int} {i : Nat} (hT : TapeIn w n sl zs i) : Own [n] w [⟨n, tcs sl i, 40⟩] [] (roS sl (ints zs)) w :=
  Own.takeIn hT.blk _ hT.rd
section
variable {M : List Nat} {w0 w : World} {X : List Chunk} {R : List Row} {S : List Ro} {n : Nat} {sl : Value} {zs : List Int} {i : Nat}
theorem Own.tapeIn (hO : Own M w0 X R S w) (hm : (⟨n, tcs sl i, 40⟩ : Chunk) ∈ X) (hS : ∀ s ∈ roS sl (ints zs), s ∈ S) (hi : i ≤ zs.length) : TapeIn w n sl zs i :=
  ⟨hO.chunk _ hm, hi, fun s hs => ⟨hO.ro s (hS s hs), fun hne e => hO.apart s (hS s hs) hne (by rw [e]; exact List.mem_append.2 (.inl (List.mem_map.2 ⟨_, hm, rfl⟩)))⟩⟩
theorem tpost {Φ : Value → World → Prop} {v : Value} {X : List Chunk} (hO : Own [n] w0 X R S w) (hm : (⟨n, tcs sl i, 40⟩ : Chunk) ∈ X) (hS : ∀ s ∈ roS sl (ints zs), s ∈ S) (hi : i ≤ zs.length) (hv : Φ v w) : TPost w0 n sl zs Φ (.returned v) w :=
  ⟨v, i, rfl, hv, hO.keep, hO.tapeIn hm hS hi⟩
end
theorem TPost.mono {w : World} {n : Nat} {sl : Value} {zs : List Int} {Φ Ψ : Value → World → Prop} {e : Ending} {w' : World} (h : TPost w n sl zs Φ e w') (hi : ∀ v w, Φ v w → Ψ v w) : TPost w n sl zs Ψ e w' := by
  obtain ⟨v, i, h1, h2, h3, h4⟩ := h
  exact ⟨v, i, h1, hi _ _ h2, h3, h4⟩

def modI (v n : Int) : Int := (IntKind.u64.wrap v).tmod n
theorem modI_bd (v : Int) {n : Int} (h : 0 < n) : 0 ≤ modI v n ∧ modI v n < n := by
  have : 0 ≤ IntKind.u64.wrap v := by simp [IntKind.wrap, IntKind.signed, IntKind.bits]; omega
  exact ⟨Int.tmod_nonneg _ this, Int.tmod_lt_of_pos _ h⟩
theorem mod_is (v n : Int) (w : World) (h0 : 0 < n) (h1 : n ≤ 9223372036854775807) : Calls Tryz.prog 35 #[.int .i64 v, .int .i64 n] w fun e w' => e = .returned (.int .i64 (modI v n)) ∧ w = w' := by
  have hn : (n == 0) = false := by simp; omega
  have hn2 : n ≠ 0 := by omega
  have e1 : IntKind.u64.wrap n = n := by simp [IntKind.wrap, IntKind.signed, IntKind.bits]; omega
  have hb := modI_bd v h0
  have ⟨r, hr, hr0, hr1⟩ : ∃ r, (IntKind.u64.wrap v).tmod n = r ∧ 0 ≤ r ∧ r < n := ⟨_, rfl, hb.1, hb.2⟩
  have E := Lib.hid (show modI v n = r from hr)
  clear hb
  have e2 : IntKind.i64.wrap r = r := by simp [IntKind.wrap, IntKind.signed, IntKind.bits]; omega
  have e3 : IntKind.u64.wrap r = r := by simp [IntKind.wrap, IntKind.signed, IntKind.bits]; omega
  go_enter Tryz.func35, Tryz.ntmps35
  go_wp2
  go_ret
  exact ⟨ret_int E.out.symm, rfl⟩

/-- the next choice -/
def Small (m : Int) : Value → World → Prop := fun v _ => ∃ r, v = .int .i64 r ∧ 0 ≤ r ∧ (r < m ∨ r = 0)
set_option maxHeartbeats 1000000 in
theorem next_any {w : World} {n : Nat} {sl : Value} {zs : List Int} {i : Nat} (m : Int) (hZ : ZsOk sl zs) (hT : TapeIn w n sl zs i) (hm : m ≤ 9223372036854775807) :
    Calls Tryz.prog 17 #[.pointer (some ⟨n, 0, none⟩), .int .i64 m] w (TPost w n sl zs (Small m)) := by
  obtain ⟨a, c, rfl, ha⟩ := hZ.view
  have hO := own_tape hT
  have hle := hT.le
  have hlen := hZ.len
  clear hT
  by_cases h1 : m ≤ 1
  · have h1' : decide (m ≤ 1) = true := by simp [h1]
    go_enter Tryz.func17, Tryz.ntmps17
    go_wp2_with fail
    (refine own_quiet hO (by kernel_rfl) (by kernel_rfl) ?_; clear hO; (repeat (first | go_big_quiet_skip | (go_big_quiet_want; (go_big_quiet_op; (first | go_big_quiet_on | ((refine ⟨_, fun _ _ => rfl, ?_⟩); go_big_quiet_on)))))); (refine wpQuiet_nil ?_); intro wv hO)
    go_wp2_with fail
    go_ret
    exact tpost hO List.mem_cons_self (fun _ h => h) hle ⟨0, rfl, by omega, .inr rfl⟩
  · have h1' : decide (m ≤ 1) = false := by simp [h1]
    by_cases h2 : zs.length ≤ i
    · have h2' : decide (zs.length ≤ i) = true := by simp [h2]
      go_enter Tryz.func17, Tryz.ntmps17
      go_wp2_with fail
      (refine own_quiet hO (by kernel_rfl) (by kernel_rfl) ?_; clear hO; (repeat (go_big_quiet_want; (first | ((with_reducible refine is_loadQ ?_); (refine q_ld (h := ?_)); (try simp only [Act.put]); (try simp only [List.setIfInBounds_toArray, List.set_cons_zero, List.set_cons_succ]); go_big_quiet_on) | (go_big_quiet_op; (first | go_big_quiet_on | ((refine ⟨_, fun _ _ => rfl, ?_⟩); go_big_quiet_on)))))); (refine wpQuiet_nil ?_); intro wv hO)
      go_wp2_with fail
      go_ret
      exact tpost hO List.mem_cons_self (fun _ h => h) hle ⟨0, rfl, by omega, .inr rfl⟩
    · have h2' : decide (zs.length ≤ i) = false := by simp; omega
      have hlt : i < zs.length := by omega
      obtain ⟨g, o, rfl⟩ := ha (by omega)
      simp only [roS] at hO
      have hb := modI_bd zs[i] (show 0 < m by omega)
      go_enter Tryz.func17, Tryz.ntmps17
      go_wp2_with fail
      (refine own_quiet hO (by kernel_rfl) (by kernel_rfl) ?_; clear hO; (repeat (go_big_quiet_want; (first | ((with_reducible refine is_loadQ ?_); (refine q_ld (h := ?_)); (try simp only [Act.put]); (try simp only [List.setIfInBounds_toArray, List.set_cons_zero, List.set_cons_succ]); go_big_quiet_on) | (go_big_quiet_op; (first | go_big_quiet_on | ((refine ⟨_, fun _ _ => rfl, ?_⟩); go_big_quiet_on)))))); (refine wpQuiet_nil ?_); intro wv hO)
      go_wp2_with (first | ((with_reducible refine is_load ?_); refine own_ld (h := ?_)) | ((with_reducible refine is_store ?_); (refine own_st1 (hO := hO) (h := ?_); clear hO; intro wv hO)))
      (try simp only [Act.put]); (refine own_quiet hO (by kernel_rfl) (by kernel_rfl) ?_; clear hO; (repeat (go_big_quiet_want; (first | ((with_reducible refine is_loadQ ?_); (refine q_ld (h := ?_)); (try simp only [Act.put]); (try simp only [List.setIfInBounds_toArray, List.set_cons_zero, List.set_cons_succ]); go_big_quiet_on) | (go_big_quiet_op; (first | go_big_quiet_on | ((refine ⟨_, fun _ _ => rfl, ?_⟩); go_big_quiet_on) | go_big_quiet_call ((intro hq; go_at_call 35; exact q_same (mod_is _ _ _ (by omega) hm) hq))))))); (refine wpQuiet_nil ?_); intro wv hO)
      go_wp2_with fail
      go_ret
      exact tpost (i := i + 1) hO List.mem_cons_self (fun _ h => h) (by omega) ⟨_, rfl, hb.1, .inl hb.2⟩
theorem next_pos {w : World} {n : Nat} {sl : Value} {zs : List Int} {i : Nat} (m : Int) (hZ : ZsOk sl zs) (hT : TapeIn w n sl zs i) (h0 : 0 < m) (hm : m ≤ 9223372036854775807) :
    Calls Tryz.prog 17 #[.pointer (some ⟨n, 0, none⟩), .int .i64 m] w (TPost w n sl zs (fun v _ => ∃ r, v = .int .i64 r ∧ 0 ≤ r ∧ r < m)) :=
  (next_any m hZ hT hm).mono fun _ _ h => h.mono fun _ _ ⟨r, h1, h2, h3⟩ => ⟨r, h1, h2, by omega⟩
end Go.Proofs.YtfhkmkbfgmbbaaaGreatDoor

/- The tape's generators: numbers, ranges, addresses. -/
namespace Go.Proofs.YtfhkmkbfgmbbaaaGreatDoor
open Go.RowKit
set_option maxRecDepth 100000

theorem slice_u32 : SliceT Tryz.prog 78 28 1 4 := ⟨Tryz.underlying78, by omega, by
  obtain ⟨i, h1, h2, h3, h4⟩ := info_parts (show (Tryz.prog.info? 28).map (fun i => (i.zero, i.size, i.bytes)) = some (some (.int .u32 0), 1, 4) by kernel_rfl)
  exact ⟨i, _, h1, h2, h3, h4, rfl⟩⟩
def U32 (hi : Int) : Value → World → Prop := fun v _ => ∃ x, v = .int .u32 x ∧ 0 ≤ x ∧ x ≤ hi
theorem number_any {w : World} {n : Nat} {sl : Value} {zs : List Int} {i : Nat} (top : Int) (hZ : ZsOk sl zs) (hT : TapeIn w n sl zs i) (h0 : 0 ≤ top) (h1 : top ≤ 4294967295) :
    Calls Tryz.prog 39 #[.pointer (some ⟨n, 0, none⟩), .int .u32 top] w (TPost w n sl zs (U32 top)) := by
  have hO := own_tape hT
  have hP : ∀ v ∈ [Value.int .u32 0, .int .u32 1, .int .u32 2, .int .u32 5, .int .u32 7, .int .u32 8, .int .u32 9, .int .u32 15, .int .u32 16, .int .u32 80, .int .u32 255, .int .u32 256, .int .u32 1024, .int .u32 65535, .int .u32 (top / 2), .int .u32 ((top - 1) % 4294967296), .int .u32 top], ∃ x, v = .int .u32 x ∧ 0 ≤ x ∧ x ≤ 4294967295 := (by repeat (first | exact all_nil | refine all_cons ⟨_, rfl, by omega, by omega⟩ ?_))
  go_enter Tryz.func39, Tryz.ntmps39
  go_wp2_with (first | ((with_reducible refine is_build ?_); (refine' own_buildP (o := ⟨some 11, _, _, _, _, _⟩) [.int .u32 0, .int .u32 1, .int .u32 2, .int .u32 5, .int .u32 7, .int .u32 8, .int .u32 9, .int .u32 15, .int .u32 16, .int .u32 80, .int .u32 255, .int .u32 256, .int .u32 1024, .int .u32 65535, .int .u32 (top / 2), .int .u32 ((top - 1) % 4294967296), .int .u32 top] hO (by rfl) rfl slice_u32 rfl rfl (by rfl) (by decide) (by decide) ?_); clear hO; intro n11 wv hO) | (go_at_call 17; (with_reducible refine (next_pos _ hZ (hO.tapeIn (by (repeat (first | exact List.mem_cons_self | refine List.mem_cons_of_mem _ ?_))) (fun _ h => h) hT.le) (by omega) (by omega)).mono ?_); rintro e wv ⟨v, i1, rfl, hv, hk, hT1⟩; replace hO := hO.after (by (repeat (first | exact Upd.here | apply Upd.there))) hk hT1.blk; replace hT := hT1; clear hT1 hk; obtain ⟨r, rfl, hr0, hr1⟩ := hv) | ((with_reducible refine is_load ?_); (refine' own_loadE (o := ⟨some 15, _, _, _, _, _⟩) hO (by rfl) rfl rfl ?ht ?hm ?hl ?_); (case ht => (with_reducible (exact one_u32))); (case hm => (repeat (exact List.mem_cons_self))); (case hl => (simp; omega)); intro v hv; obtain ⟨x, rfl, hx, kx⟩ := hP v hv; clear hv))
  go_ret
  exact tpost hO (by (repeat (first | exact List.mem_cons_self | refine List.mem_cons_of_mem _ ?_))) (fun _ h => h) hT.le ⟨_, rfl, by omega, by omega⟩

def IsRg (hi : Int) : Value → World → Prop := fun v _ => ∃ a b, v = .agg #[.int .u32 a, .int .u32 b] ∧ 0 ≤ a ∧ a ≤ b ∧ b ≤ hi
theorem range_any {w : World} {n : Nat} {sl : Value} {zs : List Int} {i : Nat} (top : Int) (hZ : ZsOk sl zs) (hT : TapeIn w n sl zs i) (h0 : 0 ≤ top) (h1 : top ≤ 4294967295) :
    Calls Tryz.prog 19 #[.pointer (some ⟨n, 0, none⟩), .int .u32 top] w (TPost w n sl zs (IsRg top)) := by
  have hO := own_tape hT
  go_enter Tryz.func19, Tryz.ntmps19
  go_wp2_with (first | ((with_reducible refine is_store ?_); (refine own_stR (hO := hO) (h := ?_); clear hO; intro wv hO)) | ((with_reducible refine is_alloc ?_); (refine own_al (o := ⟨some 4, _, _, _, _, _⟩) (hO := hO) (h := ?_); clear hO; intro n4 wv hO)) | (go_at_call 39; (with_reducible refine (number_any _ hZ (hO.tapeIn (by (repeat (first | exact List.mem_cons_self | refine List.mem_cons_of_mem _ ?_))) (fun _ h => h) hT.le) h0 h1).mono ?_); rintro e wv ⟨v, i1, rfl, hv, hk, hT1⟩; replace hO := hO.after (by (repeat (first | exact Upd.here | apply Upd.there))) hk hT1.blk; replace hT := hT1; clear hT1 hk; obtain ⟨r, rfl, hr0, hr1⟩ := hv))
  exact bodyPost_ret (own_res_cell hO Tryz.results19 rfl List.mem_cons_self (by (exact row_len (by (with_reducible (exact row_Range))) (by rfl))) rfl) rfl (tpost hO (by (repeat (first | exact List.mem_cons_self | refine List.mem_cons_of_mem _ ?_))) (fun _ h => h) hT.le ⟨_, _, rfl, by omega, by omega, by omega⟩)

end Go.Proofs.YtfhkmkbfgmbbaaaGreatDoor

/- Contracts of the reference of layer 3 (boxes): the same values as the program's. -/
namespace Go.Proofs.YtfhkmkbfgmbbaaaGreatDoor
open Go.RowKit
set_option maxRecDepth 100000

end Go.Proofs.YtfhkmkbfgmbbaaaGreatDoor

/- Contracts of the reference of layer 3 (second part): With, Contains, Subset, Intersect, Subtract, Hull, Same, Compare. -/
namespace Go.Proofs.YtfhkmkbfgmbbaaaGreatDoor
open Go.RowKit
set_option maxRecDepth 100000

end Go.Proofs.YtfhkmkbfgmbbaaaGreatDoor

/- Regions that draw their order and read a tape: the laws; addresses, boxes, headers of a tape. -/
namespace Go.Proofs.YtfhkmkbfgmbbaaaGreatDoor
open Go.RowKit
set_option maxRecDepth 100000

/-- worlds in which the tape stands anywhere -/
def TC (M : List Nat) (w0 : World) (n : Nat) (sl : Value) (len : Nat) (X : List Chunk) (R : List Row) (S : List Ro) : World → Prop := fun w => ∃ i, i ≤ len ∧ Own M w0 (⟨n, tcs sl i, 40⟩ :: X) R S w
section
variable {P : Program} {ops : Array Oper} {rest : List Oper} {o : Oper} {a : Act} {Q : Exit → Act → World → Prop} {M : List Nat} {w0 w w' : World} {X X' : List Chunk} {R : List Row} {S : List Ro} {n : Nat} {sl : Value} {len : Nat}
theorem TC.own (h : TC M w0 n sl len X R S w) : Own M w0 X R S w := by
  obtain ⟨i, _, h⟩ := h
  exact h.sub (.cons _ (.refl _)) (.refl _) (fun _ h => h)
theorem TC.call (h : TC M w0 n sl len X R S w) (hb : Below w.heap.size w w') : TC M w0 n sl len X R S w' := by
  obtain ⟨i, hi, h⟩ := h
  exact ⟨i, hi, h.call hb⟩
theorem TC.alloc (h : TC M w0 n sl len X R S w) (cs : List Value) (t : TypeId) : TC M w0 n sl len X R S (w.alloc (.cells cs.toArray t (0, 0))) := by
  obtain ⟨i, hi, h⟩ := h
  exact ⟨i, hi, (h.alloc cs t).sub (.cons _ (.refl _)) (.refl _) (fun _ h => h)⟩
theorem TC.next {sl : Value} {zs : List Int} {i : Nat} (hO : Own M w0 (⟨n, tcs sl i, 40⟩ :: X) R S w) (hk : Keep [n] w w') {i' : Nat} (hT : TapeIn w' n sl zs i') : TC M w0 n sl zs.length X R S w' :=
  ⟨i', hT.le, hO.after .here hk hT.blk⟩
end

theorem Bx.ok_of {b : Bx} (h : vldTo b 5) (h0 : ∀ k, k < 5 → 0 ≤ (b.at k).lo) : b.ok := fun k hk => by
  have h1 := h k hk
  have h2 := h0 k hk
  have h3 : topOf k ≤ 4294967295 := by rcases five hk with rfl | rfl | rfl | rfl | rfl <;> decide
  omega
/-- a box that is valid and not negative -/
def Good (b : Bx) : Prop := ∀ k, k < 5 → 0 ≤ (b.at k).lo ∧ (b.at k).lo ≤ (b.at k).hi ∧ (b.at k).hi ≤ topOf k
theorem Good.vld {b : Bx} (h : Good b) : vldTo b 5 := fun k hk => (h k hk).2
theorem Good.ok {b : Bx} (h : Good b) : b.ok := Bx.ok_of h.vld fun k hk => (h k hk).1
theorem Good.full : Good fullBx := fun k hk => by rcases five hk with rfl | rfl | rfl | rfl | rfl <;> decide
theorem Good.set {b : Bx} (h : Good b) (k : Nat) {lo hi : Int} (h0 : 0 ≤ lo) (h1 : lo ≤ hi) (h2 : k < 5 → hi ≤ topOf k) : Good (b.set k ⟨lo, hi⟩) := fun i hi => by
  rw [Bx.at_set _ _ _ hi]
  split
  · rename_i e; subst e; exact ⟨h0, h1, h2 hi⟩
  · exact h i hi
end Go.Proofs.YtfhkmkbfgmbbaaaGreatDoor

/- Regions that draw their order, some moves of which may come late (behind stores): those are taken ahead. For any program. -/
namespace Go.Proofs.YtfhkmkbfgmbbaaaGreatDoor
open Go.RowKit
section
variable {P : Program} {M : List Nat} {w0 w : World} {X : List Chunk} {R : List Row} {S : List Ro} {Q : Exit → Act → World → Prop} {a : Act}
end
end Go.Proofs.YtfhkmkbfgmbbaaaGreatDoor

/- The tape's generators: spoilt boxes, lists of boxes, headers. -/
namespace Go.Proofs.YtfhkmkbfgmbbaaaGreatDoor
open Go.RowKit
set_option maxRecDepth 100000

end Go.Proofs.YtfhkmkbfgmbbaaaGreatDoor

/- The tape's generators: headers, also beside boxes; a new tape. -/
namespace Go.Proofs.YtfhkmkbfgmbbaaaGreatDoor
open Go.RowKit
set_option maxRecDepth 100000

/-- a place whose cell is known a little -/
def IsElt (L : List Nat) (p : Value → Prop) : Fact := fun v w => ∃ b off u, v = .pointer (some ⟨b, off, none⟩) ∧ w.cell? ⟨b, off, none⟩ = some u ∧ p u ∧ b ∉ L ∧ b < w.heap.size
theorem IsElt.keep {L M : List Nat} {p : Value → Prop} {v : Value} {w w' : World} (h : IsElt L p v w) (hk : Keep M w w') (hM : ∀ x ∈ M, x ∈ L) : IsElt L p v w' := by
  obtain ⟨b, off, u, h1, h2, h3, h4, h5⟩ := h
  refine ⟨b, off, u, h1, ?_, h3, h4, Nat.lt_of_lt_of_le h5 hk.size⟩
  rw [World.cell?_of_block (w := w) (hk.block b h5 (fun hm => h4 (hM b hm)))]; exact h2
theorem slice_u8 : SliceT Tryz.prog 82 5 1 1 := ⟨Tryz.underlying82, by omega, by
  obtain ⟨i, h1, h2, h3, h4⟩ := info_parts (show (Tryz.prog.info? 5).map (fun i => (i.zero, i.size, i.bytes)) = some (some (.int .u8 0), 1, 1) by kernel_rfl)
  exact ⟨i, _, h1, h2, h3, h4, rfl⟩⟩
/-- a new tape -/
theorem new_any {w : World} (a : Option Addr) (len c : Nat) : Calls Tryz.prog 4 #[.slice a len c] w fun e w' => ∃ n, e = .returned (.pointer (some ⟨n, 0, none⟩)) ∧ Blk w' n (tcs (.slice a len c) 0) 40 ∧ w.heap.size ≤ n ∧ Below w.heap.size w w' := by
  have hO := own_start [] w
  go_enter Tryz.func4, Tryz.ntmps4
  go_wp2_with ((with_reducible refine is_box ?_); (refine own_bx (o := ⟨some 5, _, _, _, _, _⟩) (hO := hO) (h := ?_); clear hO; intro n5 wv hO))
  go_ret
  exact ⟨_, rfl, hO.chunk _ List.mem_cons_self, by simpa [excl] using hO.free n5 (by simp [excl]), hO.keep.below⟩
end Go.Proofs.YtfhkmkbfgmbbaaaGreatDoor

/- Law functions that read a tape: what they begin with; loads from the very beginning of what came in. -/
namespace Go.Proofs.YtfhkmkbfgmbbaaaGreatDoor
open Go.RowKit
set_option maxRecDepth 100000
theorem own_law {w : World} {sl : Value} {zs : List Int} (hr : ∀ s ∈ roS sl (ints zs), w.rangeAt s.g s.o s.xs) : Own [] w [] [] (roS sl (ints zs)) w :=
  ⟨Keep.refl _ _, fun c hc => (by cases hc), fun r hr => (by cases hr), hr, by simp [excl], by simp [excl], by simp [excl]⟩
theorem Own.gain {M : List Nat} {w0 w w' : World} {X : List Chunk} {R : List Row} {S : List Ro} (hO : Own M w0 X R S w) (hb : Below w.heap.size w w') {n : Nat} {cs : List Value} {t : TypeId} (hB : Blk w' n cs t) (hn : w.heap.size ≤ n) : Own M w0 (⟨n, cs, t⟩ :: X) R S w' := by
  have h1 := hO.call hb
  refine ⟨h1.keep, fun c hc => ?_, h1.row, h1.ro, ?_, fun k hk => ?_, fun s hs hne hm => ?_⟩
  · rcases List.mem_cons.1 hc with rfl | hc
    · exact hB
    · exact h1.chunk c hc
  · show (n :: excl X R).Nodup
    exact List.nodup_cons.2 ⟨fun hm => by have := hO.lt n hm; omega, hO.nd⟩
  · rcases List.mem_cons.1 (show k ∈ n :: excl X R from hk) with rfl | hk
    · exact .inr (Nat.le_trans hO.keep.size hn)
    · exact hO.free k hk
  · rcases List.mem_cons.1 (show s.g ∈ n :: excl X R from hm) with e | hm
    · have := ro_lt (hO.ro s hs) hne
      omega
    · exact hO.apart s hs hne hm
theorem tk_box0 (l : List Bx) (h : 0 < l.length) : (cellsB l).take (bcs l[0]).length = bcs l[0] := by
  have := tk_box l h
  simpa using this
theorem tk_boxOne (x : Bx) : (cellsB [x]).take (bcs x).length = bcs x := by rw [cellsB_one]; exact List.take_length
end Go.Proofs.YtfhkmkbfgmbbaaaGreatDoor

/- Arguments read before and behind a call that leaves all old blocks alone; the statement 'true, and the arguments as they were'. For any program. -/
namespace Go.Proofs.YtfhkmkbfgmbbaaaGreatDoor
open Go.ChangeShapes Go.WideShapes Go.ChangeAt Go.RowKit

section
variable {H : Type} {enc : TypeId × Value → H} {P : Program} {w w' : World} {T : TypeId → Prop} {sp : Nat → Bool}
theorem sameAt_of_below {p : MemPlace} (hb : Below w.heap.size w w') (hp : p.block < w.heap.size) : w.sameAt w' p := by
  cases p with
  | cell b off => exact hb.cell (p := ⟨b, off, none⟩) hp
  | map b => exact hb.block b hp
theorem trodAll_stays (K : Kids P T) (hsz : ∀ {t e : TypeId}, T t → P.underlying t = some (.slice e) → 0 < P.cellsOf e) (hb : Below w.heap.size w w') :
    ∀ {ts : List TypeId} {vs : List Value} {ds : List (DataW H)} {ps : List MemPlace}, (∀ t ∈ ts, T t) → DataW.TrodAll enc P w 0 (fun _ => true) true ts vs ds ps → (∀ p ∈ ps, sp p.block = true) → DataW.TrodAll enc P w' 0 sp true ts vs ds ps
  | [], [], [], _, _, h, _ => h
  | _ :: _, _ :: _, _ :: _, _, hT, ⟨p, q, ⟨n, h1⟩, h2, e⟩, hs =>
    ⟨p, q, ⟨n, DataW.trod_stays K hsz (fun h => by cases h) (hT _ (List.mem_cons.2 (.inl rfl))) h1 (fun x hx => sameAt_of_below hb (DataW.trod_lt _ _ _ _ h1 x hx)) (fun x hx => hs x (by rw [e]; exact List.mem_append_left _ hx))⟩,
      trodAll_stays K hsz hb (fun t ht => hT t (List.mem_cons.2 (.inr ht))) h2 (fun x hx => hs x (by rw [e]; exact List.mem_append_right _ hx)), e⟩

/-- the call has left all old blocks alone, and returned true: what the law's row asks -/
theorem law_post {f : Func} {s : ChangeSpec} {W W' : World} {args : Array Value} {ds gs : List (DataW H)} {before : List MemPlace} {tb : TypeId} (K : Kids P T) (hsz : ∀ {t e : TypeId}, T t → P.underlying t = some (.slice e) → 0 < P.cellsOf e)
    (hT : ∀ t ∈ f.params.toList, T t) (hv : s.vars = []) (hrt : f.resultTypes = #[tb]) (htb : P.underlying tb = some .bool)
    (hW : DataW.Whole enc P f.params.toList s.vars false W args.toList ds gs before) (hb : Below W.heap.size W W')
    (hr : (s.fn H ds).results = [.lit (.bool true)]) (ha : (s.fn H ds).args = ds) (hvs : (s.fn H ds).vars = []) :
    s.post enc P f false true false false W args (.bool true) W' := by
  have hold : ∀ p ∈ before, (fun b => decide (b < W.heap.size)) p.block = true := fun p hp => by simpa using hW.lt p hp
  have hlt := hW.lt
  have hW' := hW
  obtain ⟨p, q, hA, hV, rfl, hz, hn⟩ := hW
  rw [hv] at hV
  obtain ⟨rfl, rfl⟩ := trodVars_none hV
  simp only [List.append_nil] at *
  have hargs : ∀ sp : Nat → Bool, (∀ x ∈ p, sp x.block = true) → DataW.TrodAll enc P W' 0 sp true f.params.toList args.toList (s.fn H (ds ++ [])).args p := fun sp hs => by
    rw [List.append_nil, ha]; exact trodAll_stays K hsz hb hT hA hs
  have hvars : ∀ sp : Nat → Bool, DataW.TrodVars enc P W' sp s.vars (s.fn H (ds ++ [])).vars [] := fun sp => by rw [List.append_nil, hvs, hv]; rfl
  have hres : ∀ (b : Nat) (sp : Nat → Bool) (hd : Bool), DataW.TrodAll enc P W' b sp hd f.resultTypes.toList ((Value.bool true).resultList f.resultTypes.size) (s.fn H (ds ++ [])).results [] := fun b sp hd => by
    rw [List.append_nil, hr, hrt]
    exact trodAll_cons_mk (shut_bool htb _) trodAll_mk0
  refine ⟨ds, [], p, [], p, [], hW', hres _ _ _, hargs _ hold, hvars _, World.keptBut_mono (fun x hx => ⟨hx, .inr (.inl hx)⟩) (hb.frame (· ∈ p)), fun _ => ?_⟩
  refine ⟨ok_one hrt rfl (okWide_bool_mk htb _), _, _, ([] ++ p) ++ [], ⟨[] ++ p, [], trodAll_append (hargs _ (fun _ _ => rfl)) (hres _ _ _), hvars _, rfl, ?_, ?_⟩, ?_⟩
  · intro b off hp
    have hp' : MemPlace.cell b off ∈ p := by simpa using hp
    rw [hb.frozen (p := ⟨b, off, none⟩) (hlt _ hp')]
    exact hz b off hp'
  · intro h; cases h
  · intro x hx _
    simpa using hx
end
end Go.Proofs.YtfhkmkbfgmbbaaaGreatDoor

/- Opening arguments of the types of the package api: a box, a header, a number; the table of the greatest values. -/
namespace Go.Proofs.YtfhkmkbfgmbbaaaGreatDoor
open Go.ChangeShapes Go.WideShapes Go.ChangeAt Go.RowKit
set_option maxRecDepth 100000

theorem kids : Kids Tryz.prog (· < (Tryz.prog).types.size) := kids_rows (by kernel_rfl) (by kernel_rfl)
theorem full : ∀ {t e : TypeId}, t < (Tryz.prog).types.size → (Tryz.prog).underlying t = some (.slice e) → 0 < (Tryz.prog).cellsOf e := fun {t e} => slices_full_of _ (by kernel_rfl) t e
theorem own : ownKnob (Tryz.prog).godebug = none := by kernel_rfl

section
variable {H : Type} {enc : TypeId × Value → H} {w : World} {base : Nat} {spare : Nat → Bool} {held : Bool}
theorem two_cells {k : IntKind} {n : Nat} {t : TypeId} {c : Value} {x : DataW H × List MemPlace} (ht : (Tryz.prog).underlying t = some (.int k)) (h : DataW.trod enc Tryz.prog w base spare held n t [c] = some x) : ∃ z, c = .int k z ∧ (Lit.int k z).wf = true := by
  obtain ⟨z, h1, _, h2⟩ := DataW.trod_int ht h
  simp only [List.cons.injEq, and_true] at h1
  exact ⟨z, h1, h2⟩
theorem open_range {n : Nat} {c d : Value} {x : DataW H × List MemPlace} (h : DataW.trod enc Tryz.prog w base spare held n 46 [c, d] = some x) :
    ∃ lo hi, c = .int .u32 lo ∧ d = .int .u32 hi ∧ (0 ≤ lo ∧ lo ≤ 4294967295) ∧ (0 ≤ hi ∧ hi ≤ 4294967295) := by
  obtain ⟨xs, m, _, _, _, _, hf⟩ := DataW.trod_struct Tryz.underlying46 h
  have h0 : DataW.trod enc Tryz.prog w base spare held m 28 (List.take ((Tryz.prog).cellsOf 28) (List.drop 0 [c, d])) = xs[0]? := hf 0 _ rfl
  have h1 : DataW.trod enc Tryz.prog w base spare held m 28 (List.take ((Tryz.prog).cellsOf 28) (List.drop 1 [c, d])) = xs[1]? := hf 1 _ rfl
  have c1 : (Tryz.prog).cellsOf 28 = 1 := by kernel_rfl
  simp only [c1, List.drop_zero, List.drop_succ_cons, List.take_succ_cons, List.take_zero] at h0 h1
  have hl : ∀ i, i < 2 → ∃ y, xs[i]? = some y := fun i hi => by
    have : xs.length = 2 := by assumption
    exact ⟨_, List.getElem?_eq_getElem (by omega)⟩
  obtain ⟨y0, e0⟩ := hl 0 (by omega)
  obtain ⟨y1, e1⟩ := hl 1 (by omega)
  rw [e0] at h0
  rw [e1] at h1
  obtain ⟨lo, rfl, w0⟩ := two_cells Tryz.underlying28 h0
  obtain ⟨hi, rfl, w1⟩ := two_cells Tryz.underlying28 h1
  exact ⟨lo, hi, rfl, rfl, bounds_u32 w0, bounds_u32 w1⟩
theorem ten {α : Type} (l : List α) (h : l.length = 10) : ∃ a b c d e f g i j k, l = [a, b, c, d, e, f, g, i, j, k] := by
  match l, h with
  | [a, b, c, d, e, f, g, i, j, k], _ => exact ⟨a, b, c, d, e, f, g, i, j, k, rfl⟩
end

end Go.Proofs.YtfhkmkbfgmbbaaaGreatDoor

/- Opening lists of numbers. -/
namespace Go.Proofs.YtfhkmkbfgmbbaaaGreatDoor
open Go.ChangeShapes Go.WideShapes Go.ChangeAt Go.RowKit
set_option maxRecDepth 100000
section
variable {H : Type} {enc : TypeId × Value → H} {w : World} {base : Nat} {spare : Nat → Bool} {held : Bool}
theorem addr_plain {a : Addr} {v : Value} (h : w.cell? a = some v) : a = ⟨a.block, a.off, none⟩ := by
  unfold World.cell? at h
  obtain ⟨b, o, s⟩ := a
  cases s with
  | none => rfl
  | some s => split at h <;> simp at h
theorem isInts_of {r : Reach} {b0 : Nat} {v : Value} {d : DataW H} {p : List MemPlace} (hv : Value.okWide Tryz.prog w r b0 22 v) (h : DataW.Trod enc Tryz.prog w base spare held 22 v d p) :
    ∃ zs, ZsOk v zs ∧ ∀ s ∈ roS v (ints zs), w.rangeAt s.g s.o s.xs := by
  obtain ⟨n, hn⟩ := h
  rcases open_ints (P := Tryz.prog) (k := .i64) Tryz.underlying22 Tryz.underlying3 (by kernel_rfl) hn with ⟨h1, _⟩ | ⟨a, len, cap, zs, h1, _, hlc, hcm, hzl, _, hcell, hwf⟩
  · have : v = .slice none 0 0 := by
      cases v with
      | slice a l c => simpa [Value.cells] using h1
      | agg cs => exfalso; simp only [Value.okWide, Tryz.underlying22] at hv; (try (obtain ⟨_, _, _, h, _⟩ := hv; cases h)); (try (cases hv))
      | _ => simp [Value.cells] at h1
    subst this
    exact ⟨[], ⟨⟨none, 0, rfl, by simp⟩, by simp, by simp⟩, by simp [roS]⟩
  · have hvs : v = .slice (some a) len cap := by
      cases v with
      | slice a' l c => simpa [Value.cells] using h1
      | agg cs => exfalso; simp only [Value.okWide, Tryz.underlying22] at hv; (try (obtain ⟨_, _, _, h, _⟩ := hv; cases h)); (try (cases hv))
      | _ => simp [Value.cells] at h1
    have hle : len ≤ zs.length := by rw [hzl]; split <;> omega
    have hlen : (zs.take len).length = len := by simp; omega
    have hpl : 0 < len → a = ⟨a.block, a.off, none⟩ := fun h0 => by
      have := hcell 0 (by omega)
      exact addr_plain (by simpa [Addr.add] using this)
    subst hvs
    refine ⟨zs.take len, ⟨⟨some a, cap, by rw [hlen], fun h0 => ⟨a.block, a.off, by rw [← hpl (by omega)]⟩⟩, fun z hz => bounds_i64 (hwf z (List.mem_of_mem_take hz)), by rw [hlen]; unfold maxLen at hcm; omega⟩, ?_⟩
    intro s hs
    obtain rfl : s = ⟨a.block, a.off, ints (zs.take len)⟩ := by simpa [roS] using hs
    intro j u hj
    have hjl := (List.getElem?_eq_some_iff.1 hj).1
    simp only [List.length_map, hlen] at hjl
    have hz : j < zs.length := by omega
    have h2 := hcell j hz
    rw [hpl (by omega)] at h2
    have e : (⟨a.block, a.off, none⟩ : Addr).add j = ⟨a.block, a.off + j, none⟩ := by
      unfold Addr.add
      by_cases h0 : j = 0
      · rw [if_pos h0, h0]; rfl
      · rw [if_neg h0]
    rw [e] at h2
    rw [h2, ← hj]
    simp [hjl, hz, List.getD]
end
end Go.Proofs.YtfhkmkbfgmbbaaaGreatDoor

/- Growable slices of the call's own: loads from them, stores into them, calls that change them; what a slice reads as. For any program. -/
namespace Go.Proofs.YtfhkmkbfgmbbaaaGreatDoor
open Go.RowKit
/-- a slice that reads as these cells (n elements) -/
def IsCells (w : World) (v : Value) (n : Nat) (xs : List Value) : Prop :=
  (v = .slice none 0 0 ∧ n = 0 ∧ xs = []) ∨ ∃ g o c, v = .slice (some ⟨g, o, none⟩) n c ∧ n ≤ c ∧ w.rangeAt g o xs
def roC (v : Value) (xs : List Value) : List Ro := match v with
  | .slice (some ⟨g, o, none⟩) _ _ => [⟨g, o, xs⟩]
  | _ => []
theorem IsCells.view {w : World} {v : Value} {n : Nat} {xs : List Value} (h : IsCells w v n xs) : ∃ a c, v = .slice a n c ∧ n ≤ c ∧ (∀ s ∈ roC v xs, w.rangeAt s.g s.o s.xs) ∧ (a = none → n = 0 ∧ c = 0 ∧ xs = []) ∧ (a ≠ none → ∃ g o, a = some ⟨g, o, none⟩) := by
  rcases h with ⟨rfl, rfl, rfl⟩ | ⟨g, o, c, rfl, hc, h⟩
  · exact ⟨none, 0, rfl, Nat.le_refl _, by simp [roC], fun _ => ⟨rfl, rfl, rfl⟩, fun h => absurd rfl h⟩
  · exact ⟨_, c, rfl, hc, by simpa [roC] using h, (fun h => by cases h), fun _ => ⟨g, o, rfl⟩⟩
theorem IsCells.keepB {w w' : World} {v : Value} {n : Nat} {xs : List Value} {M : List Nat} (h : IsCells w v n xs) (hk : Keep M w w') (hM : ∀ g, v.ownBlock = some g → g ∉ M) : IsCells w' v n xs := by
  rcases h with h | ⟨g, o, c, rfl, hc, h⟩
  · exact .inl h
  · refine .inr ⟨g, o, c, rfl, hc, fun j u hj => ?_⟩
    have h4 := h j u hj
    rw [World.cell?_of_block (w := w) (hk.block _ (World.block_lt_of_cell? w _ h4) (hM g rfl))]; exact h4
theorem IsCells.below {w w' : World} {v : Value} {n : Nat} {xs : List Value} (h : IsCells w v n xs) (hb : Below w.heap.size w w') : IsCells w' v n xs := h.keepB (keep_of_below hb []) (by simp)
section
variable {P : Program} {ops : Array Oper} {rest : List Oper} {o : Oper} {a : Act} {w w0 w' : World} {Q : Exit → Act → World → Prop} {M : List Nat} {X X' : List Chunk} {R R' : List Row} {S : List Ro}
theorem UpdR.mem {r r' : Row} (h : UpdR R r r' R') : r ∈ R := by
  obtain ⟨i, h1, _⟩ := h.at
  exact List.mem_of_getElem? h1
theorem Own.rowIs (hO : Own M w0 X R S w) {v : Value} {k size : Nat} {xs : List Value} {e : TypeId} (hm : (⟨v, k, xs, e, size⟩ : Row) ∈ R) : IsCells w v k xs := by
  have h := hO.row _ hm
  rcases h.2 with ⟨h1, h2⟩ | ⟨g, cap, cur, h1, _, hg, hc, _, _, ht⟩
  · have h1' : v = .slice none 0 0 := h1
    have h2' : k = 0 := h2
    refine .inl ⟨h1', h2', List.eq_nil_of_length_eq_zero ?_⟩
    have := h.1
    simp only [h2', Nat.zero_mul] at this
    exact this
  · have h1' : v = .slice (some ⟨g, 0, none⟩) k cap := h1
    subst h1'
    exact .inr ⟨g, 0, cap, rfl, hc, fun j u hu => by rw [Nat.zero_add]; exact hO.rowCell hm hu⟩
/-- a part of a slice that reads as these cells -/
theorem IsCells.sub {g o k c : Nat} {xs : List Value} (h : IsCells w (.slice (some ⟨g, o, none⟩) k c) k xs) {i n c' : Nat} {ys : List Value} (hy : (xs.drop i).take ys.length = ys) (hc : n ≤ c') : IsCells w (.slice (some ⟨g, o + i, none⟩) n c') n ys := by
  rcases h with ⟨h, _⟩ | ⟨g', o', c1, h1, h2, h3⟩
  · cases h
  · cases h1
    refine .inr ⟨g, o + i, c', rfl, hc, fun j u hu => ?_⟩
    have hl := (List.getElem?_eq_some_iff.1 hu).1
    rw [← hy, List.getElem?_take, if_pos hl, List.getElem?_drop] at hu
    rw [Nat.add_assoc]
    exact h3 _ _ hu
theorem row_base {base size k : Nat} {v : Value} {xs : List Value} {e : TypeId} (h : w.ownsRow base e size v k xs) : w.ownsRow 0 e size v k xs :=
  ⟨h.1, h.2.imp id fun ⟨g, cap, cur, h1, _, h3⟩ => ⟨g, cap, cur, h1, Nat.zero_le _, h3⟩⟩
theorem own_stRow (hO : Own M w0 X R S w) (hw : Region.wanted o (yielded ops a.tmps) = true) {t : TypeId} {x y : Operand} (ho : o.op = .store t x y) {g j k cap size : Nat} (hx : a.eval x = .pointer (some ⟨g, j, none⟩))
    {v : Value} (hy : a.eval y = v) (ht : OneT P t) {xs : List Value} {e : TypeId} (hu : UpdR R ⟨.slice (some ⟨g, 0, none⟩) k cap, k, xs, e, size⟩ ⟨.slice (some ⟨g, 0, none⟩) k cap, k, xs.set j v, e, size⟩ R') (hl : j < xs.length) (h1 : v.oneCell' = true)
    (h : ∀ w', Own M w0 X R' S w' → wpList P ops Q rest (a.put o.dst undef) w') : wpList P ops Q (o :: rest) a w := by
  have hr := hO.row _ hu.mem
  have hc := hO.rowCell hu.mem (List.getElem?_eq_getElem hl)
  obtain ⟨A, B, rfl, rfl⟩ := hu.split
  have hs := hr.stored j v
  exact wpList_skp hw _ (rx_store1 ho hx hy ht (Option.isSome_iff_exists.2 ⟨_, hc⟩) (hr.frozenAt j) h1) (h _ (hO.grow hs.2 hs.1 fun g' hg' => .inl hg'))
theorem grown_of_keep {row : Option Nat} (hk : Keep row.toList w w') : w.grownBy w' row :=
  ⟨hk.os, hk.tape, hk.output, hk.size, fun k hl hne => hk.block k hl (by cases row with
    | none => simp
    | some b => simpa using fun e => hne (by rw [e]))⟩
/-- a call that changes one row of ours -/
theorem Own.afterRow (hO : Own M w0 X R S w) {v : Value} {k size : Nat} {xs ys : List Value} {e : TypeId} (hu : UpdR R ⟨v, k, xs, e, size⟩ ⟨v, k, ys, e, size⟩ R') (hk : Keep v.ownBlock.toList w w') (hr : w'.ownsRow 0 e size v k ys) : Own M w0 X R' S w' := by
  obtain ⟨A, B, rfl, rfl⟩ := hu.split
  exact hO.grow (r := ⟨v, k, xs, e, size⟩) (r' := ⟨v, k, ys, e, size⟩) (grown_of_keep hk) hr fun g hg => .inl hg
/-- a call that hands back a row of its own -/
theorem Own.gainRow (hO : Own M w0 X R S w) (hb : Below w.heap.size w w') {v : Value} {k size : Nat} {xs : List Value} {e : TypeId} (hr : w'.ownsRow w.heap.size e size v k xs) : Own M w0 X (⟨v, k, xs, e, size⟩ :: R) S w' := by
  have h1 := hO.call hb
  have hmem : ∀ n, n ∈ excl X (⟨v, k, xs, e, size⟩ :: R) ↔ n ∈ excl X R ∨ v.ownBlock = some n := fun n => by
    have := mem_blocks (X := X) (A := []) (B := R) (r := ⟨v, k, xs, e, size⟩) (g := n)
    simpa [excl] using this
  have hnew : ∀ n, v.ownBlock = some n → w.heap.size ≤ n := fun n hn => (hr.lt n hn).1
  refine ⟨h1.keep, h1.chunk, fun r hr' => ?_, h1.ro, ?_, fun n hn => ?_, fun s hs hne hm => ?_⟩
  · rcases List.mem_cons.1 hr' with rfl | hr'
    · exact row_base hr
    · exact h1.row r hr'
  · have := (nodup_blocks (X := X) (A := []) (B := R) (r := ⟨v, k, xs, e, size⟩)).2 ⟨by simpa [excl] using hO.nd, fun g hg hm => by
      have h2 := hO.lt g (by simpa [excl] using hm)
      have := hnew g hg
      omega⟩
    simpa using this
  · rcases (hmem n).1 hn with hn | hn
    · exact h1.free n hn
    · exact .inr (Nat.le_trans hO.keep.size (hnew n hn))
  · rcases (hmem s.g).1 hm with hm | hm
    · exact h1.apart s hs hne hm
    · have h2 := ro_lt (hO.ro s hs) hne
      have := hnew _ hm
      omega
theorem own_takeRow {v : Value} {k size : Nat} {xs : List Value} {e : TypeId} (h : w.ownsRow 0 e size v k xs) (S : List Ro) (hS : ∀ s ∈ S, w.rangeAt s.g s.o s.xs ∧ (s.xs ≠ [] → v.ownBlock ≠ some s.g)) : Own v.ownBlock.toList w [] [⟨v, k, xs, e, size⟩] S w :=
  ⟨Keep.refl _ _, fun c hc => (by cases hc), fun r hr => by obtain rfl := List.mem_singleton.1 hr; exact h, fun s hs => (hS s hs).1, by cases hv : v.ownBlock <;> simp [excl, hv], fun n hn => .inl (by cases hv : v.ownBlock <;> simp [excl, hv] at hn ⊢; exact hn), fun s hs hne hm => (hS s hs).2 hne (by cases hv : v.ownBlock <;> simp [excl, hv] at hm ⊢; exact hm.symm)⟩
theorem Own.newRow {v : Value} {k size : Nat} {ys : List Value} {e : TypeId} (hO : Own [] w0 X R S w) (hm : (⟨v, k, ys, e, size⟩ : Row) ∈ R) : w.ownsRow w0.heap.size e size v k ys := by
  have h := hO.row _ hm
  refine ⟨h.1, ?_⟩
  rcases h.2 with h2 | ⟨g, cap, cur, h1, _, h3⟩
  · exact .inl h2
  · refine .inr ⟨g, cap, cur, h1, ?_, h3⟩
    have h1' : v = .slice (some ⟨g, 0, none⟩) k cap := h1
    rcases hO.free g (List.mem_append.2 (.inr (List.mem_filterMap.2 ⟨_, hm, by simp [h1', Value.ownBlock]⟩))) with hf | hf
    · cases hf
    · exact hf
theorem own_stW (hO : Own M w0 X R S w) (hw : Region.wanted o (yielded ops a.tmps) = true := by rfl) {t : TypeId} {x y : Operand} (ho : o.op = .store t x y := by rfl) {g j k cap size : Nat} (hx : a.eval x = .pointer (some ⟨g, j, none⟩) := by rfl)
    {v : Value} (hy : a.eval y = v := by (first | exact (rfl : _ = Value.int _ _) | exact (rfl : _ = Value.bool _))) (ht : OneT P t := by (with_reducible (first | exact one_u32 | exact one_int | exact one_u16 | exact one_u8 | exact one_ints | exact one_bool | exact one_bytes | exact one_u64 | exact one_set | exact one_boxes))) {xs ys : List Value} {e : TypeId} (hu : UpdR R ⟨.slice (some ⟨g, 0, none⟩) k cap, k, xs, e, size⟩ ⟨.slice (some ⟨g, 0, none⟩) k cap, k, ys, e, size⟩ R' := by (repeat (first | exact UpdR.here | apply UpdR.there))) (hn : xs.set j v = ys := by (first | exact bc_set _ _ _ | rfl)) (hl : j < xs.length := by (first | (simp [bc_length]; done) | (simp [bc_length]; omega) | (rw [bc_length]; omega))) (h1 : v.oneCell' = true := by rfl)
    (h : ∀ w', Own M w0 X R' S w' → wpList P ops Q rest (a.put o.dst undef) w') : wpList P ops Q (o :: rest) a w := by
  subst hn
  exact own_stRow hO hw ho hx hy ht hu hl h1 h
end
end Go.Proofs.YtfhkmkbfgmbbaaaGreatDoor

/- append to a slice of the call's own, of a part of what came in; a call that makes a slice of ours. For any program. -/
namespace Go.Proofs.YtfhkmkbfgmbbaaaGreatDoor
open Go.RowKit
section
variable {P : Program} {ops : Array Oper} {rest : List Oper} {o : Oper} {a : Act} {Q : Exit → Act → World → Prop} {M : List Nat} {w0 w w' : World} {X : List Chunk} {R : List Row} {S : List Ro}
/-- the source of an append: nothing, or cells that lie there -/
def SrcAt (w : World) (size : Nat) (A : Option Addr) (m : Nat) (news : List Value) : Prop :=
  news.length = m * size ∧ (0 < m → ∃ g off, A = some ⟨g, off, none⟩ ∧ w.rangeAt g off news)
theorem src_of_cells {w : World} {A : Option Addr} {m c size : Nat} {news : List Value} (h : IsCells w (.slice A m c) m news) (hl : news.length = m * size) : SrcAt w size A m news := by
  refine ⟨hl, fun hm => ?_⟩
  rcases h with ⟨_, h0, _⟩ | ⟨g, o, c', h1, _, h2⟩
  · omega
  · cases h1
    exact ⟨g, o, rfl, h2⟩
theorem own_appendS (hO : Own M w0 X R S w) (hgd : o.guard = none) {s x : Operand} {t e : TypeId} (ho : o.op = .call { callee := .builtin .append, args := #[s, x], argTypes := #[t, t] }) {size bytes : Nat} (ht : SliceT P t e size bytes)
    {v : Value} (hs : a.eval s = v) {A : Option Addr} {m c : Nat} (hx : a.eval x = .slice A m c) {news : List Value} (hr : SrcAt w size A m news) (h1 : news.all (·.oneCell') = true)
    {k : Nat} {xs : List Value} {R1 : Value → List Row} (hu : ∀ v', UpdR R ⟨v, k, xs, e, size⟩ ⟨v', k + m, xs ++ news, e, size⟩ (R1 v')) (hbytes : (k + m) * bytes ≤ 140737488355328) (hk : k + m ≤ maxLen)
    (h : ∀ v' w', Own M w0 X (R1 v') S w' → wpList P ops Q rest (a.put o.dst v') w') : wpList P ops Q (o :: rest) a w := by
  obtain ⟨hu1, hsz, i, z, hi, hz, hi1, hi2, hz1⟩ := ht
  obtain ⟨A0, B0, hR0, _⟩ := (hu .nilIface).split
  have hrow := hO.row ⟨v, k, xs, e, size⟩ (by rw [hR0]; exact List.mem_append.2 (.inr List.mem_cons_self))
  have run : ∃ v' w', (Builtin.append_ #[t, t] o.type #[v, .slice A m c]).run P w = .ok v' w' ∧ w'.ownsRow 0 e size v' (k + m) (xs ++ news) ∧ w.grownBy w' v.ownBlock ∧ (v'.ownBlock = v.ownBlock ∨ v'.ownBlock = some w.heap.size) := by
    by_cases h0 : 0 < m
    · obtain ⟨g, off, rfl, hm⟩ := hr.2 h0
      obtain ⟨v', w', r1, r2, r3, _, r5⟩ := run_append_own_at (P := P) w 0 t o.type e i z size bytes hu1 hi hz hi1 hi2 hz1 hsz v k xs hrow ⟨g, off, none⟩ m c news hr.1 (fun j u hj => by
        have hadd : (⟨g, off, none⟩ : Addr).add j = ⟨g, off + j, none⟩ := by
          unfold Addr.add
          by_cases h : j = 0
          · rw [if_pos h, h]; rfl
          · rw [if_neg h]
        rw [hadd]
        exact hm j u hj) (fun u hu => List.all_eq_true.1 h1 u hu) hk hbytes (Nat.zero_le _)
      exact ⟨v', w', r1, r2, r3, r5⟩
    · have hm : m = 0 := by omega
      subst hm
      have hn : news = [] := List.eq_nil_of_length_eq_zero (by simpa using hr.1)
      subst hn
      cases A with
      | none =>
        refine ⟨v, w, ?_, by simpa using hrow, World.grownBy.refl w _, .inl rfl⟩
        rcases hrow.2 with ⟨h2, h3⟩ | ⟨g, cap, cur, h2, _, _, hnc, _⟩
        · have h2' : v = .slice none 0 0 := h2
          simp [Builtin.append_, run_underlying hu1, sizeOf, typeInfo, hi, Builtin.lenOf, Builtin.firstCells, h2']
        · have h2' : v = .slice (some ⟨g, 0, none⟩) k cap := h2
          simp [Builtin.append_, run_underlying hu1, sizeOf, typeInfo, hi, Builtin.lenOf, Builtin.firstCells, h2', show k ≤ cap from hnc, storeCells]
      | some ad =>
        obtain ⟨v', w', r1, r2, r3, _, r5⟩ := run_append_own_at (P := P) w 0 t o.type e i z size bytes hu1 hi hz hi1 hi2 hz1 hsz v k xs hrow ad 0 c [] (by simp) (fun j u hj => by simp at hj) (fun u hu => by cases hu) hk hbytes (Nat.zero_le _)
        exact ⟨v', w', r1, r2, r3, r5⟩
  obtain ⟨v', w', r1, r2, r3, r4⟩ := run
  refine wpList_plain hgd fun K hK => ?_
  unfold Oper.wp execOp
  simp only [ho, resolve, invoke, builtin, Sem.run_bind, Sem.run_pure, Result.andThen_ok, List.map_toArray, List.map_cons, List.map_nil, hs, hx, r1]
  refine hK _ _ (h v' w' ?_)
  obtain ⟨A1, B1, hR, hR'⟩ := (hu v').split
  rw [hR']
  refine Own.grow (r := ⟨v, k, xs, e, size⟩) (hR ▸ hO) r3 r2 fun g' hg' => ?_
  rcases r4 with h4 | h4
  · exact .inl (h4 ▸ hg')
  · rw [h4] at hg'; exact .inr (Option.some.inj hg').symm
/-- a literal of no elements -/
theorem rx_build0 {t e : TypeId} {size bytes : Nat} (ho : o.op = .buildSlice t 0 #[]) (ht : SliceT P t e size bytes) :
    (execOp a.eval o).run P w = .ok (.value (.slice (some ⟨w.heap.size, 0, none⟩) 0 0)) (w.alloc (.cells #[] e (0, 0))) := by
  obtain ⟨hu, _, i, z, hie, _, _, _, _⟩ := ht
  unfold execOp
  simp [ho, Instr.buildSlice, underlying, run_program, hu, sizeOf, typeInfo, hie, newRow, Instr.fill]
  refine congrArg (fun x => w.alloc (Obj.cells x e)) (Array.eq_empty_of_size_eq_zero (by simp))
theorem own_build0 (hO : Own M w0 X R S w) (hw : Region.wanted o (yielded ops a.tmps) = true) {t e : TypeId} {size bytes : Nat} (ho : o.op = .buildSlice t 0 #[]) (ht : SliceT P t e size bytes)
    (h : ∀ n w', Own M w0 X (⟨.slice (some ⟨n, 0, none⟩) 0 0, 0, [], e, size⟩ :: R) S w' → wpList P ops Q rest (a.put o.dst (.slice (some ⟨n, 0, none⟩) 0 0)) w') : wpList P ops Q (o :: rest) a w := by
  refine wpList_val hw _ _ (rx_build0 ho ht) (h _ _ (hO.gainRow ((Below.refl _ _).alloc (Nat.le_refl _) _) ?_))
  exact World.ownsRow_made w #[] 0 (Nat.le_refl _) (Nat.zero_le _) (by simp)
end
end Go.Proofs.YtfhkmkbfgmbbaaaGreatDoor

/- More laws of ownership: new blocks in drawn regions, append with a form, blocks that come in. For any program. -/
namespace Go.Proofs.YtfhkmkbfgmbbaaaGreatDoor
open Go.RowKit
section
variable {P : Program} {ops : Array Oper} {rest : List Oper} {o : Oper} {a : Act} {Q : Exit → Act → World → Prop} {M : List Nat} {w0 w w' : World} {X : List Chunk} {R : List Row} {S : List Ro}
/-- a new block -/
def IsNew (B : Nat) (X : List Chunk) (R : List Row) (S : List Ro) (cs : List Value) (t : TypeId) : Fact := fun v w => ∃ b, v = .pointer (some ⟨b, 0, none⟩) ∧ Blk w b cs t ∧ B ≤ b ∧ b ∉ excl X R ∧ ∀ s ∈ S, s.xs ≠ [] → s.g ≠ b
theorem IsNew.keep {B : Nat} {cs : List Value} {t : TypeId} {v : Value} (h : IsNew B X R S cs t v w) (hk : Keep [] w w') : IsNew B X R S cs t v w' := by
  obtain ⟨b, h1, h2, h3⟩ := h
  exact ⟨b, h1, h2.below hk.below h2.lt, h3⟩
/-- append, where the result is a slice: its form -/
theorem own_appendA (hO : Own M w0 X R S w) (hgd : o.guard = none) {s x : Operand} {t e : TypeId} (ho : o.op = .call { callee := .builtin .append, args := #[s, x], argTypes := #[t, t] }) {size bytes : Nat} (ht : SliceT P t e size bytes)
    {v : Value} (hs : a.eval s = v) {A : Option Addr} {m c : Nat} (hx : a.eval x = .slice A m c) {news : List Value} (hr : SrcAt w size A m news) (h1 : news.all (·.oneCell') = true)
    {k : Nat} {xs : List Value} {R1 : Value → List Row} (hu : ∀ v', UpdR R ⟨v, k, xs, e, size⟩ ⟨v', k + m, xs ++ news, e, size⟩ (R1 v')) (hbytes : (k + m) * bytes ≤ 140737488355328) (hk : k + m ≤ maxLen)
    (h : ∀ A cap w', Own M w0 X (R1 (.slice A (k + m) cap)) S w' → wpList P ops Q rest (a.put o.dst (.slice A (k + m) cap)) w') : wpList P ops Q (o :: rest) a w := by
  refine own_appendS hO hgd ho ht hs hx hr h1 hu hbytes hk fun v' w' hO' => ?_
  obtain ⟨A0, B0, _, hR⟩ := (hu v').split
  have hrow := hO'.row ⟨v', k + m, xs ++ news, e, size⟩ (by rw [hR]; exact List.mem_append.2 (.inr List.mem_cons_self))
  rcases hrow.2 with ⟨h2, h3⟩ | ⟨g, cap, cur, h2, _⟩
  · have h2' : v' = .slice none 0 0 := h2
    have h3' : k + m = 0 := h3
    subst h2'
    have h4 := h none 0 w'
    rw [h3'] at h4
    exact h4 hO'
  · have h2' : v' = .slice (some ⟨g, 0, none⟩) (k + m) cap := h2
    subst h2'
    exact h _ cap w' hO'
end
section
variable {P : Program} {ops : Array Oper} {rest : List Oper} {o : Oper} {a : Act} {w w0 w' : World} {Q : Exit → Act → World → Prop} {M : List Nat} {X X' : List Chunk} {R : List Row} {S : List Ro}
end
section
variable {P : Program} {ops : Array Oper} {rest : List Oper} {o : Oper} {a : Act} {w w0 w' : World} {Q : Exit → Act → World → Prop} {M : List Nat} {X X' : List Chunk} {R : List Row} {S : List Ro}
end
end Go.Proofs.YtfhkmkbfgmbbaaaGreatDoor

/- clear on a part of a slice of the call's own. For any program. -/
namespace Go.Proofs.YtfhkmkbfgmbbaaaGreatDoor
open Go.RowKit
section
variable {P : Program} {ops : Array Oper} {rest : List Oper} {o : Oper} {a : Act} {w w0 w' : World} {Q : Exit → Act → World → Prop} {M : List Nat} {X X' : List Chunk} {R R' : List Row} {S : List Ro}
end
end Go.Proofs.YtfhkmkbfgmbbaaaGreatDoor

/- Regions that draw their order, walked in each order. For any program. -/
namespace Go.Proofs.YtfhkmkbfgmbbaaaGreatDoor
open Go.RowKit
/-- what follows an operation, or what it ends in -/
def QK (K : Act → World → Prop) (Q : Exit → Act → World → Prop) : Exit → Act → World → Prop
  | .normal, a, w => K a w
  | .exit i, a, w => Q (.exit i) a w
  | .ret, a, w => Q .ret a w
  | .goto l, a, w => Q (.goto l) a w
  | .panic c, a, w => Q (.panic c) a w
  | .outgrown, a, w => Q .outgrown a w
theorem noSkip {P : Program} {ρ : Operand → Value} {o : Oper} (h : noEnterB o.op = true) (w w' : World) : (execOp ρ o).run P w ≠ .ok .skip w' := by
  have val : ∀ {s : Sem Value}, (s >>= fun x => pure (Next.value x) : Sem Next).run P w ≠ .ok .skip w' := by
    intro s
    simp only [Sem.run_bind]
    cases s.run P w with
    | halt x w' => intro h; cases h
    | ok v w' => simp only [Result.andThen_ok, Sem.run_pure]; intro h; cases h
  have val' : ∀ {r : Result Value}, (r.andThen fun a w => Result.ok (Next.value a) w) ≠ .ok .skip w' := by
    intro r
    cases r with
    | halt x w' => intro h; cases h
    | ok v w' => simp only [Result.andThen_ok]; intro h; cases h
  unfold execOp
  cases ho : o.op <;> rw [ho] at h <;> simp only [noEnterB, Bool.false_eq_true] at h <;> first
    | exact val
    | (simp only [Sem.run_pure]; intro h; cases h; done)
    | (simp only [Sem.run_bind]; generalize (asBool _).run P w = r; cases r <;> simp [Result.andThen_ok]; done)
    | skip
  case call c =>
    cases hc : c.callee with
    | builtin b =>
      rw [hc] at h
      cases b <;> first
        | exact absurd h (by decide)
        | (unfold resolve; simp only [hc, Sem.run_bind, Sem.run_pure, Result.andThen_ok, invoke, builtin]; exact val')
    | value f => rw [hc] at h; exact absurd h (by simp)
    | invoke r n => rw [hc] at h; exact absurd h (by simp)

section
variable {P : Program} {ops : Array Oper} {Q : Exit → Act → World → Prop} {K : Act → World → Prop} {i : Nat} {o : Oper} {a : Act} {w : World}
theorem qk_intro (h : K a w) : QK K Q .normal a w := h
theorem wpOp_of_list (hi : ops[i]? = some o) (h : wpList P ops (QK K Q) [o] a w) : wpOp P ops Q i K a w := by
  unfold wpOp
  simp only [hi]
  unfold wpList at h
  split
  · rename_i hw
    rw [if_pos hw] at h
    rcases h with h | ⟨h, hl⟩
    · left
      unfold Oper.wp at h ⊢
      generalize (execOp a.eval o).run P w = r at *
      cases r with
      | ok n w' =>
        cases n <;> simp only [Oper.upon] at h ⊢ <;>
          first
            | exact h
            | exact h.mono (fun e w'' he => by cases e <;> exact he)
            | exact h.mono (fun _ _ he => he)
      | halt x w' => cases x <;> simp only [Oper.upon] at h ⊢ <;> exact h
    · exact .inr ⟨h, hl⟩
  · rename_i hw
    rw [if_neg hw] at h
    exact h
theorem wpOp_of_listL {l : List Oper} (hi : l[i]? = some o) (h : wpList P l.toArray (QK K Q) [o] a w) : wpOp P l.toArray Q i K a w := wpOp_of_list (by simpa using hi) h
theorem wpAny_takeP {md : Region.Mode} {oi : Oper} {fuel : Nat} {listed : Array Bool} (hi : ops[i]? = some oi)
    (hs : Region.noSelect ops = true) (hf : Region.free md ops listed i = true) (hr : (Region.ready md ops listed).contains i = true)
    (hQ : ∀ c d v a w, Q (.panic c) (Act.put a d v) w → Q (.panic c) a w) (hn : noEnterB oi.op = true)
    (h : wpQuiet P ops (fun _ => True) (fun a' => wpAny P md ops Q fuel (listed.setIfInBounds i true) a' w) [oi] a) : wpAny P md ops Q (fuel + 1) listed a w := by
  unfold wpQuiet at h
  by_cases hw : Region.wanted oi (yielded ops a.tmps) = true
  · simp only [hw, if_true] at h
    obtain ⟨v, h1, h2⟩ := h
    have hcases : (∀ w', (execOp a.eval oi).run P w' = .ok (.value v) w') ∨ (∀ w', (execOp a.eval oi).run P w' = .ok (.value v) w' ∨ ((execOp a.eval oi).run P w' = .ok .skip w' ∧ v = undef)) := by
      right
      intro w'
      have h3 := h1 w' trivial
      unfold Oper.quietAt at h3
      have hne := fun w'' f args => noEnter (P := P) (ρ := a.eval) hn w' w'' f args
      generalize (execOp a.eval oi).run P w' = r at *
      cases r with
      | halt x w'' => exact h3.elim
      | ok n w'' =>
        cases n <;> simp only [Oper.quietUpon] at h3
        case value u => obtain ⟨rfl, rfl⟩ := h3; exact .inl rfl
        case skip => obtain ⟨rfl, rfl⟩ := h3; exact .inr ⟨rfl, rfl⟩
        case enter f args => exact absurd rfl (hne w'' f args)
    have hval : ∀ w', (execOp a.eval oi).run P w' = .ok (.value v) w' := by
      intro w'
      rcases hcases with hc | hc
      · exact hc w'
      · rcases hc w' with h4 | ⟨h4, _⟩
        · exact h4
        · exact absurd h4 (noSkip hn _ _)
    exact wpAny_take hi hs hf hr (fun c a w => hQ c _ _ a w) (.inl ⟨hw, hval⟩) h2
  · simp only [hw] at h
    exact wpAny_take hi hs hf hr (fun c a w => hQ c _ _ a w) (.inr ⟨by simpa using hw, rfl⟩) h
theorem wpAny_takePL {md : Region.Mode} {l : List Oper} {oi : Oper} {fuel : Nat} {listed : Array Bool} (i : Nat) (hi : l[i]? = some oi)
    (hs : Region.noSelect l.toArray = true) (hf : Region.free md l.toArray listed i = true) (hr : (Region.ready md l.toArray listed).contains i = true)
    (hQ : ∀ c d v a w, Q (.panic c) (Act.put a d v) w → Q (.panic c) a w) (hn : noEnterB oi.op = true)
    (h : wpQuiet P l.toArray (fun _ => True) (fun a' => wpAny P md l.toArray Q fuel (listed.setIfInBounds i true) a' w) [oi] a) : wpAny P md l.toArray Q (fuel + 1) listed a w :=
  wpAny_takeP (by simpa using hi) hs hf hr hQ hn h
theorem ord_nil {p : Nat → Prop} : ∀ i ∈ ([] : List Nat), p i := fun _ h => by cases h
theorem ord_cons {p : Nat → Prop} {k : Nat} {l : List Nat} (h : p k) (hl : ∀ i ∈ l, p i) : ∀ i ∈ k :: l, p i := fun i hi => by
  rcases List.mem_cons.1 hi with rfl | hi
  · exact h
  · exact hl i hi
end
end Go.Proofs.YtfhkmkbfgmbbaaaGreatDoor
namespace Go.Proofs.YtfhkmkbfgmbbaaaGreatDoor
open Go.RowKit
/-- the numbers of the operations that are taken next -/
def Ix (_ : List Nat) : Prop := True
theorem Ix.mk (l : List Nat) : Ix l := trivial
theorem Ix.tail {i : Nat} {l : List Nat} (_ : Ix (i :: l)) : Ix l := trivial
theorem wpAny_tk {P : Program} {Q : Exit → Act → World → Prop} {a : Act} {w : World} {md : Region.Mode} {l : List Oper} {oi : Oper} {fuel : Nat} {listed : Array Bool} {i : Nat} {L : List Nat} (_ : Ix (i :: L))
    (h : wpQuiet P l.toArray (fun _ => True) (fun a' => wpAny P md l.toArray Q fuel (listed.setIfInBounds i true) a' w) [oi] a) (hi : l[i]? = some oi := by rfl)
    (hs : Region.noSelect l.toArray = true := by kernel_rfl) (hf : Region.free md l.toArray listed i = true := by kernel_rfl) (hr : (Region.ready md l.toArray listed).contains i = true := by kernel_rfl)
    (hQ : ∀ c d v a w, Q (.panic c) (Act.put a d v) w → Q (.panic c) a w := by intro c d v a w h; cases d <;> exact h) (hn : noEnterB oi.op = true := by rfl) : wpAny P md l.toArray Q (fuel + 1) listed a w :=
  wpAny_takePL i hi hs hf hr hQ hn h
theorem wpAny_tkO {P : Program} {Q : Exit → Act → World → Prop} {a : Act} {w : World} {md : Region.Mode} {l : List Oper} {oi : Oper} {fuel : Nat} {listed : Array Bool} {i : Nat} {L : List Nat} (_ : Ix (i :: L))
    (h : wpQuiet P l.toArray (fun _ => True) (fun a' => wpAny P md l.toArray Q fuel (listed.setIfInBounds i true) a' w) [oi] a) (hi : l[i]? = some oi := by rfl)
    (hs : Region.noSelect l.toArray = true := by kernel_rfl) (hf : Region.free md l.toArray listed i = true := by kernel_rfl) (hr : (Region.ready md l.toArray listed).contains i = true := by kernel_rfl)
    (hQ : ∀ c d v a w, Q (.panic c) (Act.put a d v) w → Q (.panic c) a w := by rintro c d v a w ⟨h, _⟩; cases h) (hn : noEnterB oi.op = true := by rfl) : wpAny P md l.toArray Q (fuel + 1) listed a w :=
  wpAny_takePL i hi hs hf hr hQ hn h
end Go.Proofs.YtfhkmkbfgmbbaaaGreatDoor

/- Lists of boxes in memory: small laws. -/
namespace Go.Proofs.YtfhkmkbfgmbbaaaGreatDoor
open Go.RowKit
set_option maxRecDepth 100000

theorem cellsB_take (l : List Bx) (k : Nat) : cellsB (l.take k) = (cellsB l).take (k * 10) := by
  induction l generalizing k with
  | nil => simp [cellsB]
  | cons b l ih =>
    cases k with
    | zero => simp [cellsB]
    | succ k =>
      simp only [List.take_succ_cons, cellsB, ih]
      rw [show (k + 1) * 10 = (bcs b).length + k * 10 by rw [bcs_length]; omega, List.take_length_add_append]
theorem cellsB_drop (l : List Bx) (k : Nat) : cellsB (l.drop k) = (cellsB l).drop (k * 10) := by
  induction l generalizing k with
  | nil => simp [cellsB]
  | cons b l ih =>
    cases k with
    | zero => simp [cellsB]
    | succ k =>
      simp only [List.drop_succ_cons, cellsB, ih]
      rw [show (k + 1) * 10 = (bcs b).length + k * 10 by rw [bcs_length]; omega, List.drop_length_add_append]
/-- a part of a slice of boxes -/
theorem IsBoxes.part {w : World} {g o k c : Nat} {l : List Bx} (h : IsBoxes w (.slice (some ⟨g, o, none⟩) k c) l) (i n c' : Nat) (hi : i + n ≤ l.length) (hc : n ≤ c') : IsBoxes w (.slice (some ⟨g, o + i * 10, none⟩) n c') ((l.drop i).take n) := by
  have hl : ((l.drop i).take n).length = n := by simp; omega
  rcases h with ⟨h, _⟩ | ⟨g', o', c1, h1, h2, h3⟩
  · cases h
  · cases h1
    refine .inr ⟨g, o + i * 10, c', by rw [hl], by rw [hl]; exact hc, fun j u hj => ?_⟩
    rw [cellsB_take, cellsB_drop, List.getElem?_take] at hj
    split at hj
    · rw [List.getElem?_drop] at hj
      rw [Nat.add_assoc]; exact h3 _ _ hj
    · cases hj
end Go.Proofs.YtfhkmkbfgmbbaaaGreatDoor

/- The library's sort at uint64: what it reads. The plain layer of the sort is the kit's. -/
namespace Go.Proofs.YtfhkmkbfgmbbaaaGreatDoor
open Go.RowKit
open Go.Sort (swp ltInt)
set_option maxRecDepth 100000

theorem one_u64 : OneT Tryz.prog 54 := ⟨_, Tryz.underlying54, rfl, by kernel_rfl⟩
/-- the cells of some numbers -/
def uc (d : Array Int) : List Value := d.toList.map (Value.int .u64)
end Go.Proofs.YtfhkmkbfgmbbaaaGreatDoor

/- The library's sort at uint64: insertion, heap, reversal. -/
namespace Go.Proofs.YtfhkmkbfgmbbaaaGreatDoor
open Go.RowKit
open Go.Sort (swp ltInt)
set_option maxRecDepth 100000

section
variable {ops : Array Oper} {rest : List Oper} {o : Oper} {a : Act} {w w0 w' : World} {Q : Exit → Act → World → Prop} {M : List Nat} {X X' : List Chunk} {R R' : List Row} {S : List Ro}
end
def OwnsU (w : World) (g k c : Nat) (d : Array Int) : Prop := w.ownsRow 0 54 1 (.slice (some ⟨g, 0, none⟩) k c) k (uc d)
theorem OwnsU.own {w : World} {g k c : Nat} {d : Array Int} (h : OwnsU w g k c d) : Own [g] w [] [⟨.slice (some ⟨g, 0, none⟩) k c, k, uc d, 54, 1⟩] [] w := own_takeRow h [] (by simp)
end Go.Proofs.YtfhkmkbfgmbbaaaGreatDoor

/- Lists of numbers in memory; old slices read once more; a literal as a growable slice; make without elements. -/
namespace Go.Proofs.YtfhkmkbfgmbbaaaGreatDoor
open Go.RowKit
set_option maxRecDepth 100000
/-- the cells of some numbers -/
def ul (l : List Int) : List Value := l.map (Value.int .u64)
theorem ul_length (l : List Int) : (ul l).length = l.length := by simp [ul]
theorem ul_at {l : List Int} {k : Nat} (h : k < l.length) : (ul l)[k]? = some (.int .u64 l[k]) := by simp [ul, h]
theorem ul_one (l : List Int) : (ul l).all (·.oneCell') = true := by
  induction l with
  | nil => rfl
  | cons x l ih => simp only [ul, List.map_cons, List.all_cons]; exact Bool.and_eq_true_iff.2 ⟨rfl, ih⟩
theorem slice_u64 : SliceT Tryz.prog 83 54 1 8 := ⟨Tryz.underlying83, by omega, by
  obtain ⟨i, h1, h2, h3, h4⟩ := info_parts (show (Tryz.prog.info? 54).map (fun i => (i.zero, i.size, i.bytes)) = some (some (.int .u64 0), 1, 8) by kernel_rfl)
  exact ⟨i, _, h1, h2, h3, h4, rfl⟩⟩
section
variable {P : Program} {ops : Array Oper} {rest : List Oper} {o : Oper} {a : Act} {w w0 w' : World} {Q : Exit → Act → World → Prop} {M : List Nat} {X X' : List Chunk} {R R' : List Row} {S : List Ro}
/-- what lay there when the call began may be read again -/
theorem Own.addOld (hO : Own [] w0 X R S w) (s : Ro) (hs : w0.rangeAt s.g s.o s.xs) : Own [] w0 X R (s :: S) w := by
  refine hO.addRo s (fun j v hj => ?_) (fun hne hm => ?_)
  · have h4 := hs j v hj
    rw [World.cell?_of_block (w := w0) (hO.keep.block _ (World.block_lt_of_cell? w0 _ h4) (by simp))]; exact h4
  · have h1 := ro_lt hs hne
    rcases hO.free _ hm with h | h
    · cases h
    · omega
/-- a block of ours as a growable slice -/
theorem Own.chunkRow {n : Nat} {cs : List Value} {t : TypeId} (hO : Own M w0 (⟨n, cs, t⟩ :: X) R S w) {k size : Nat} (hl : cs.length = k * size) (hk : k ≤ maxLen) : Own M w0 X (⟨.slice (some ⟨n, 0, none⟩) k k, k, cs, t, size⟩ :: R) S w := by
  have hb := hO.chunk _ List.mem_cons_self
  have hr : w.ownsRow 0 t size (.slice (some ⟨n, 0, none⟩) k k) k cs := ⟨hl, .inr ⟨n, k, cs.toArray, rfl, Nat.zero_le _, hb, Nat.le_refl _, hk, by simpa using hl, by simp [← hl]⟩⟩
  have hmem : ∀ m, m ∈ excl X (⟨.slice (some ⟨n, 0, none⟩) k k, k, cs, t, size⟩ :: R) ↔ m ∈ excl (⟨n, cs, t⟩ :: X) R := fun m => by
    simp only [excl, List.map_cons, List.filterMap_cons, Value.ownBlock, List.mem_append, List.mem_cons]
    constructor
    · rintro (h | h | h)
      · exact .inl (.inr h)
      · exact .inl (.inl h)
      · exact .inr h
    · rintro ((h | h) | h)
      · exact .inr (.inl h)
      · exact .inl h
      · exact .inr (.inr h)
  refine ⟨hO.keep, fun c hc => hO.chunk c (List.mem_cons_of_mem _ hc), fun r hr' => ?_, hO.ro, ?_, fun m hm => hO.free m ((hmem m).1 hm), fun s hs hne hm => hO.apart s hs hne ((hmem _).1 hm)⟩
  · rcases List.mem_cons.1 hr' with rfl | hr'
    · exact hr
    · exact hO.row r hr'
  · have hp : (excl X (⟨.slice (some ⟨n, 0, none⟩) k k, k, cs, t, size⟩ :: R)).Perm (excl (⟨n, cs, t⟩ :: X) R) := by
      simp only [excl, List.map_cons, List.filterMap_cons, Value.ownBlock, List.cons_append]
      exact List.perm_middle
    exact hp.nodup_iff.2 hO.nd
end
/-! ### neighbours that are alike struck -/
def cstep (o : List Int) (x : Int) : List Int := if o.getLast? = some x then o else o ++ [x]
def cpt (l : List Int) : List Int := l.foldl cstep []
theorem cpt_snoc (l : List Int) (x : Int) : cpt (l ++ [x]) = cstep (cpt l) x := by simp [cpt]
theorem cstep_last (o : List Int) (x : Int) : (cstep o x).getLast? = some x := by
  unfold cstep; split
  · assumption
  · simp
theorem foldl_cstep_last : ∀ (l : List Int) (o : List Int), l ≠ [] → (l.foldl cstep o).getLast? = l.getLast?
  | [], _, h => absurd rfl h
  | [x], o, _ => by simp [cstep_last]
  | x :: y :: l, o, _ => by rw [List.foldl_cons, foldl_cstep_last (y :: l) _ (by simp), List.getLast?_cons_cons]
theorem cpt_last (l : List Int) : (cpt l).getLast? = l.getLast? := by
  cases l with
  | nil => rfl
  | cons x l => exact foldl_cstep_last _ _ (by simp)
theorem cpt_take {l : List Int} {k : Nat} (h : k + 1 < l.length) : cpt (l.take (k + 2)) = if l[k] = l[k + 1] then cpt (l.take (k + 1)) else cpt (l.take (k + 1)) ++ [l[k + 1]] := by
  rw [List.take_succ_eq_append_getElem h, cpt_snoc, cstep, cpt_last]
  have e : (l.take (k + 1)).getLast? = some l[k] := by rw [List.take_succ_eq_append_getElem (by omega : k < l.length), List.getLast?_concat]
  rw [e]
  simp only [Option.some.injEq]
theorem cpt_le : ∀ (l o : List Int), (l.foldl cstep o).length ≤ o.length + l.length
  | [], o => by simp
  | x :: l, o => by
    have := cpt_le l (cstep o x)
    rw [List.foldl_cons]
    have h2 : (cstep o x).length ≤ o.length + 1 := by unfold cstep; split <;> simp
    simp only [List.length_cons]; omega
theorem foldl_cstep_spec : ∀ (l o : List Int), o.Pairwise (· < ·) → (∀ x ∈ o, ∀ y ∈ l, x ≤ y) → l.Pairwise (· ≤ ·) → (l.foldl cstep o).Pairwise (· < ·) ∧ ∀ x, x ∈ l.foldl cstep o ↔ x ∈ o ∨ x ∈ l
  | [], o, ho, _, _ => ⟨ho, fun x => by simp⟩
  | y :: l, o, ho, hol, hl => by
    have hl1 := List.pairwise_cons.1 hl
    have key : (cstep o y).Pairwise (· < ·) ∧ (∀ x, x ∈ cstep o y ↔ x ∈ o ∨ x = y) := by
      unfold cstep; split
      · rename_i h
        refine ⟨ho, fun x => ⟨.inl, ?_⟩⟩
        rintro (h' | rfl)
        · exact h'
        · exact List.mem_of_getLast? h
      · rename_i h
        refine ⟨List.pairwise_append.2 ⟨ho, by simp, fun a ha b hb => ?_⟩, fun x => by simp⟩
        obtain rfl := List.mem_singleton.1 hb
        have h1 := hol a ha b (by simp)
        rcases Int.lt_or_eq_of_le h1 with h2 | rfl
        · exact h2
        · exfalso
          -- a is in o, and everything in o is at most a: so it is the last one
          apply h
          obtain ⟨p, q, rfl⟩ := List.append_of_mem ha
          cases q with
          | nil => simp
          | cons z q =>
            have hz : a < z := (List.pairwise_append.1 ho).2.1 |> fun h => (List.pairwise_cons.1 h).1 z (by simp)
            have := hol z (by simp) a (by simp)
            omega
    obtain ⟨k1, k2⟩ := key
    obtain ⟨r1, r2⟩ := foldl_cstep_spec l (cstep o y) k1 (fun x hx z hz => by
      rcases (k2 x).1 hx with hx | rfl
      · exact hol x hx z (by simp [hz])
      · exact hl1.1 z hz) hl1.2
    refine ⟨r1, fun x => ?_⟩
    rw [List.foldl_cons, r2, k2, List.mem_cons, or_assoc]
theorem cpt_spec {l : List Int} (h : l.Pairwise (· ≤ ·)) : (cpt l).Pairwise (· < ·) ∧ ∀ x, x ∈ cpt l ↔ x ∈ l := by
  have := foldl_cstep_spec l [] (by simp) (by simp) h
  exact ⟨this.1, fun x => by rw [show cpt l = l.foldl cstep [] from rfl, this.2]; simp⟩
end Go.Proofs.YtfhkmkbfgmbbaaaGreatDoor

/- The form of a slice; read-only parts that a call hands back. -/
namespace Go.Proofs.YtfhkmkbfgmbbaaaGreatDoor
open Go.RowKit
set_option maxRecDepth 100000
/-- the form of a slice -/
def FormC (v : Value) (n : Nat) : Prop := (v = .slice none 0 0 ∧ n = 0) ∨ ∃ g o c, v = .slice (some ⟨g, o, none⟩) n c ∧ n ≤ c
theorem isCells_form {w : World} {v : Value} {n : Nat} {xs : List Value} (h : IsCells w v n xs) : FormC v n := by
  rcases h with ⟨h1, h2, _⟩ | ⟨g, o, c, h1, h2, _⟩
  · exact .inl ⟨h1, h2⟩
  · exact .inr ⟨g, o, c, h1, h2⟩
theorem FormC.view {v : Value} {n : Nat} (h : FormC v n) : ∃ a c, v = .slice a n c ∧ (0 < n → ∃ g o, a = some ⟨g, o, none⟩) := by
  rcases h with ⟨rfl, rfl⟩ | ⟨g, o, c, rfl, _⟩
  · exact ⟨none, 0, rfl, fun h => absurd h (by omega)⟩
  · exact ⟨_, c, rfl, fun _ => ⟨g, o, rfl⟩⟩
section
variable {M : List Nat} {w0 w w' : World} {X : List Chunk} {R : List Row} {S : List Ro}
theorem Own.isC (hO : Own M w0 X R S w) {v : Value} {n : Nat} {xs : List Value} (hf : FormC v n) (h0 : n = 0 → xs = []) (hS : ∀ s ∈ roS v xs, s ∈ S) : IsCells w v n xs := by
  rcases hf with ⟨h1, h2⟩ | ⟨g, o, c, rfl, hc⟩
  · exact .inl ⟨h1, h2, h0 h2⟩
  · exact .inr ⟨g, o, c, rfl, hc, hO.ro ⟨g, o, xs⟩ (hS _ List.mem_cons_self)⟩
theorem Own.addC2 {B : Nat} (h1 : Own M w0 X R S w') (hlt : ∀ g ∈ excl X R, g < B) {v : Value} {n : Nat} {xs : List Value} (hv : IsCells w' v n xs) (hn : ∀ g, v.ownBlock = some g → B ≤ g) : Own M w0 X R (roS v xs ++ S) w' := by
  rcases hv with ⟨rfl, rfl, rfl⟩ | ⟨g, o, c, rfl, _, hr⟩
  · exact h1
  · refine h1.addRo ⟨g, o, xs⟩ hr fun _ hm => ?_
    have h2 := hlt g hm
    have h3 := hn g rfl
    omega
theorem Own.gainC (hO : Own M w0 X R S w) (hb : Below w.heap.size w w') {v : Value} {n : Nat} {xs : List Value} (hv : IsCells w' v n xs) (hn : NewFrom w v) : Own M w0 X R (roS v xs ++ S) w' := (hO.call hb).addC2 hO.lt hv hn
end
end Go.Proofs.YtfhkmkbfgmbbaaaGreatDoor
