/- Plain data of the packages api and box, and small laws on blocks of memory. No program in sight. -/
import Derived.Test.YtfhkmkbfgmbbaaaGreatDoorRows
import Derived.WalkKit
import Derived.WalkSpells
import Derived.WalkLawsBesides
import Derived.Lib.Hide
import Derived.Handy
import Derived.Deep.MidRow
import Derived.Deep.QuietTactic
import Derived.BigQuiet
import Derived.BigRegion
import Derived.StillTail
import Derived.Deep.AppendLies
import Derived.Great.BuildSlice
import Derived.Great.Walk
import Derived.Great.Ranges
import Derived.Laws.OwnMore
import Derived.Laws.StructEq
namespace Go.Proofs.YtfhkmkbfgmbbaaaGreatDoor
open Go.RowKit

/-- a range -/
structure Rg where
  lo : Int
  hi : Int
  deriving DecidableEq
/-- a box: its five ranges -/
structure Bx where
  r0 : Rg
  r1 : Rg
  r2 : Rg
  r3 : Rg
  r4 : Rg
  deriving DecidableEq
def Bx.at (b : Bx) : Nat → Rg
  | 0 => b.r0 | 1 => b.r1 | 2 => b.r2 | 3 => b.r3 | _ => b.r4
def Bx.of (f : Nat → Rg) : Bx := ⟨f 0, f 1, f 2, f 3, f 4⟩
def Bx.set (b : Bx) (k : Nat) (r : Rg) : Bx := Bx.of fun i => if i = k then r else b.at i
def topOf : Nat → Int
  | 0 => 4294967295 | 1 => 4294967295 | 2 => 255 | 3 => 65535 | _ => 65535

theorem five {k : Nat} (h : k < 5) : k = 0 ∨ k = 1 ∨ k = 2 ∨ k = 3 ∨ k = 4 := by omega
theorem Bx.at_of (f : Nat → Rg) {k : Nat} (h : k < 5) : (Bx.of f).at k = f k := by
  rcases five h with rfl | rfl | rfl | rfl | rfl <;> rfl
theorem Bx.at_set (b : Bx) (k : Nat) (r : Rg) {i : Nat} (h : i < 5) : (b.set k r).at i = if i = k then r else b.at i := Bx.at_of _ h

/-- the ten cells of a box -/
def bcs (b : Bx) : List Value := [.int .u32 b.r0.lo, .int .u32 b.r0.hi, .int .u32 b.r1.lo, .int .u32 b.r1.hi, .int .u32 b.r2.lo, .int .u32 b.r2.hi, .int .u32 b.r3.lo, .int .u32 b.r3.hi, .int .u32 b.r4.lo, .int .u32 b.r4.hi]
theorem bcs_length (b : Bx) : (bcs b).length = 10 := rfl
theorem bcs_lo (b : Bx) {k : Nat} (h : k < 5) : (bcs b)[k * 2]? = some (.int .u32 (b.at k).lo) := by
  rcases five h with rfl | rfl | rfl | rfl | rfl <;> rfl
theorem bcs_hi (b : Bx) {k : Nat} (h : k < 5) : (bcs b)[k * 2 + 1]? = some (.int .u32 (b.at k).hi) := by
  rcases five h with rfl | rfl | rfl | rfl | rfl <;> rfl
theorem bset_lo {b : Bx} {k : Nat} (h : k < 5) {l : Int} : (bcs b).set (k * 2) (.int .u32 l) = bcs (b.set k ⟨l, (b.at k).hi⟩) := by
  rcases five h with rfl | rfl | rfl | rfl | rfl <;> rfl
theorem bset_hi {b : Bx} {k : Nat} (h : k < 5) {u : Int} : (bcs b).set (k * 2 + 1) (.int .u32 u) = bcs (b.set k ⟨(b.at k).lo, u⟩) := by
  rcases five h with rfl | rfl | rfl | rfl | rfl <;> rfl
/-- a header -/
structure Hd where
  src : Int
  dst : Int
  proto : Int
  sport : Int
  dport : Int
  deriving DecidableEq
abbrev hv (h : Hd) : Value := .agg #[.int .u32 h.src, .int .u32 h.dst, .int .u8 h.proto, .int .u16 h.sport, .int .u16 h.dport]
def Hd.at (h : Hd) : Nat → Int
  | 0 => h.src | 1 => h.dst | 2 => h.proto | 3 => h.sport | _ => h.dport
def Hd.ok (h : Hd) : Prop := (0 ≤ h.src ∧ h.src ≤ 4294967295) ∧ (0 ≤ h.dst ∧ h.dst ≤ 4294967295) ∧ (0 ≤ h.proto ∧ h.proto ≤ 255) ∧ (0 ≤ h.sport ∧ h.sport ≤ 65535) ∧ (0 ≤ h.dport ∧ h.dport ≤ 65535)

/-- block n holds these cells -/
def Blk (w : World) (n : Nat) (cs : List Value) (t : TypeId) : Prop := w.heap[n]? = some (.cells cs.toArray t (0, 0))
theorem Blk.lt {w : World} {n : Nat} {cs : List Value} {t : TypeId} (h : Blk w n cs t) : n < w.heap.size := by
  rcases Nat.lt_or_ge n w.heap.size with h' | h'
  · exact h'
  · unfold Blk at h; rw [Array.getElem?_eq_none h'] at h; cases h
theorem Blk.cell {w : World} {n : Nat} {cs : List Value} {t : TypeId} (h : Blk w n cs t) (o : Nat) : w.cell? ⟨n, o, none⟩ = cs[o]? := by
  rw [cell_of_row w n o cs.toArray t (0, 0) h]; simp
theorem Blk.free {w : World} {n : Nat} {cs : List Value} {t : TypeId} (h : Blk w n cs t) (o : Nat) : w.frozen? ⟨n, o, none⟩ = false := frozen_of_row w n o _ t h
theorem Blk.alloc {w : World} {n : Nat} {cs : List Value} {t : TypeId} (h : Blk w n cs t) (o : Obj) : Blk (w.alloc o) n cs t := by
  unfold Blk; rw [Below.heap_alloc w o n h.lt]; exact h
theorem Blk.drew {w : World} {n : Nat} {cs : List Value} {t : TypeId} (h : Blk w n cs t) : Blk w.drew n cs t := h
theorem Blk.drewN {w : World} {n : Nat} {cs : List Value} {t : TypeId} (h : Blk w n cs t) (k : Nat) : Blk (w.drewN k) n cs t := h
theorem Blk.far {w : World} {n : Nat} {cs : List Value} {t : TypeId} (h : Blk w n cs t) {p : Addr} (hp : n ≠ p.block) (v : Value) : Blk (w.setCell p v) n cs t := by
  unfold Blk; rw [heap_setCell_other w p n v hp]; exact h
theorem Blk.set {w : World} {n : Nat} {cs : List Value} {t : TypeId} (h : Blk w n cs t) (i : Nat) (v : Value) : Blk (w.setCell ⟨n, i, none⟩ v) n (cs.set i v) t := by
  have e := heap_setCell_same w n i cs.toArray t v h
  unfold Blk; rw [e]; simp
theorem Blk.new (w : World) (cs : List Value) (t : TypeId) : Blk (w.alloc (.cells cs.toArray t (0, 0))) w.heap.size cs t := heap_alloc_new w _
theorem Blk.below {w w' : World} {n B : Nat} {cs : List Value} {t : TypeId} (h : Blk w n cs t) (hb : Below B w w') (hn : n < B) : Blk w' n cs t := by
  unfold Blk; rw [hb.block n hn]; exact h
theorem Blk.grown {w w' : World} {n : Nat} {cs : List Value} {t : TypeId} {row : Option Nat} (h : Blk w n cs t) (hg : w.grownBy w' row) (hn : row ≠ some n) : Blk w' n cs t := by
  unfold Blk; rw [hg.block n h.lt (fun e => hn e.symm)]; exact h
theorem Blk.lo {w : World} {n : Nat} {b : Bx} {t : TypeId} (h : Blk w n (bcs b) t) {k : Nat} (hk : k < 5) : w.cell? ⟨n, k * 2, none⟩ = some (.int .u32 (b.at k).lo) := (h.cell _).trans (bcs_lo b hk)
theorem Blk.hi {w : World} {n : Nat} {b : Bx} {t : TypeId} (h : Blk w n (bcs b) t) {k : Nat} (hk : k < 5) : w.cell? ⟨n, k * 2 + 1, none⟩ = some (.int .u32 (b.at k).hi) := (h.cell _).trans (bcs_hi b hk)
theorem Blk.ten {w : World} {n : Nat} {b : Bx} {t : TypeId} (h : Blk w n (bcs b) t) : w.cell? ⟨n, 0, none⟩ = some (.int .u32 b.r0.lo) ∧ w.cell? ⟨n, 1, none⟩ = some (.int .u32 b.r0.hi) ∧ w.cell? ⟨n, 2, none⟩ = some (.int .u32 b.r1.lo) ∧ w.cell? ⟨n, 3, none⟩ = some (.int .u32 b.r1.hi) ∧ w.cell? ⟨n, 4, none⟩ = some (.int .u32 b.r2.lo) ∧ w.cell? ⟨n, 5, none⟩ = some (.int .u32 b.r2.hi) ∧ w.cell? ⟨n, 6, none⟩ = some (.int .u32 b.r3.lo) ∧ w.cell? ⟨n, 7, none⟩ = some (.int .u32 b.r3.hi) ∧ w.cell? ⟨n, 8, none⟩ = some (.int .u32 b.r4.lo) ∧ w.cell? ⟨n, 9, none⟩ = some (.int .u32 b.r4.hi) :=
  ⟨h.cell 0, h.cell 1, h.cell 2, h.cell 3, h.cell 4, h.cell 5, h.cell 6, h.cell 7, h.cell 8, h.cell 9⟩
end Go.Proofs.YtfhkmkbfgmbbaaaGreatDoor

/- What a call owns: its blocks and growable slices, said in one word, and the laws of the operations on memory over it. For any program. -/
namespace Go.Proofs.YtfhkmkbfgmbbaaaGreatDoor
open Go.RowKit

/-- all blocks but those of M are as they were; nothing has gone -/
structure Keep (M : List Nat) (w w' : World) : Prop where
  os : w'.os = w.os
  tape : w'.tape = w.tape
  output : w'.output = w.output
  size : w.heap.size ≤ w'.heap.size
  block : ∀ k, k < w.heap.size → k ∉ M → w'.heap[k]? = w.heap[k]?
theorem Keep.refl (M : List Nat) (w : World) : Keep M w w := ⟨rfl, rfl, rfl, Nat.le_refl _, fun _ _ _ => rfl⟩
theorem Keep.trans {M : List Nat} {a b c : World} (h : Keep M a b) (k : Keep M b c) : Keep M a c :=
  ⟨k.os.trans h.os, k.tape.trans h.tape, k.output.trans h.output, Nat.le_trans h.size k.size, fun i hi hm => (k.block i (Nat.lt_of_lt_of_le hi h.size) hm).trans (h.block i hi hm)⟩
theorem Keep.below {w w' : World} (h : Keep [] w w') : Below w.heap.size w w' := ⟨h.os, h.tape, h.output, h.size, fun k hk => h.block k hk (by simp)⟩
theorem keep_of_below {w w' : World} (h : Below w.heap.size w w') (M : List Nat) : Keep M w w' := ⟨h.os, h.tape, h.output, h.size, fun k hk _ => h.block k hk⟩

/-- a block of the call's own -/
structure Chunk where
  n : Nat
  cs : List Value
  t : TypeId
/-- a growable slice of the call's own: its value, how many elements, their cells, the element's type and size -/
structure Row where
  v : Value
  k : Nat
  xs : List Value
  e : TypeId
  size : Nat
/-- a slice that is only read: block, offset, cells -/
structure Ro where
  g : Nat
  o : Nat
  xs : List Value

def excl (X : List Chunk) (R : List Row) : List Nat := X.map (·.n) ++ R.filterMap (·.v.ownBlock)

structure Own (M : List Nat) (w0 : World) (X : List Chunk) (R : List Row) (S : List Ro) (w : World) : Prop where
  keep : Keep M w0 w
  chunk : ∀ c ∈ X, Blk w c.n c.cs c.t
  row : ∀ r ∈ R, w.ownsRow 0 r.e r.size r.v r.k r.xs
  ro : ∀ s ∈ S, w.rangeAt s.g s.o s.xs
  nd : (excl X R).Nodup
  free : ∀ n ∈ excl X R, n ∈ M ∨ w0.heap.size ≤ n
  apart : ∀ s ∈ S, s.xs ≠ [] → s.g ∉ excl X R

section
variable {M : List Nat} {w0 w : World} {X : List Chunk} {R : List Row} {S : List Ro}

theorem own_start (M : List Nat) (w0 : World) : Own M w0 [] [] [] w0 :=
  ⟨Keep.refl _ _, by simp, by simp, by simp, by simp [excl], by simp [excl], by simp⟩

theorem Own.lt (h : Own M w0 X R S w) : ∀ n ∈ excl X R, n < w.heap.size := by
  intro n hn
  rcases List.mem_append.1 hn with hn | hn
  · obtain ⟨c, hc, rfl⟩ := List.mem_map.1 hn
    exact (h.chunk c hc).lt
  · obtain ⟨r, hr, he⟩ := List.mem_filterMap.1 hn
    exact ((h.row r hr).lt n he).2

theorem ro_lt {w : World} {s : Ro} (h : w.rangeAt s.g s.o s.xs) (hne : s.xs ≠ []) : s.g < w.heap.size := by
  cases hx : s.xs with
  | nil => exact absurd hx hne
  | cons v vs =>
    have := h 0 v (by rw [hx]; rfl)
    exact World.block_lt_of_cell? w _ this

/-- the frame: a world that agrees with the old one on every block but one exclusive one (none: a new block alone) -/
theorem Own.frame {w' : World} (h : Own M w0 X R S w) (os : w'.os = w.os) (tape : w'.tape = w.tape) (out : w'.output = w.output) (hs : w.heap.size ≤ w'.heap.size)
    (ho : ∀ k, k < w.heap.size → w'.heap[k]? = w.heap[k]?) : Own M w0 X R S w' := by
  refine ⟨h.keep.trans ⟨os, tape, out, hs, fun k hk _ => ho k hk⟩, fun c hc => ?_, fun r hr => ?_, fun s hs => ?_, h.nd, h.free, h.apart⟩
  · have := h.chunk c hc
    unfold Blk; rw [ho c.n this.lt]; exact this
  · refine (h.row r hr).kept (row := none) ⟨os, tape, out, hs, fun k hk _ => ho k hk⟩ ?_
    cases e : r.v.ownBlock <;> simp
  · intro j v hv
    have h1 := h.ro s hs j v hv
    rw [World.cell?_of_block (w := w) (ho _ (World.block_lt_of_cell? w _ h1))]; exact h1

theorem Own.drew (h : Own M w0 X R S w) : Own M w0 X R S w.drew := h.frame rfl rfl rfl (Nat.le_refl _) fun _ _ => rfl
theorem Own.drewN (h : Own M w0 X R S w) (n : Nat) : Own M w0 X R S (w.drewN n) := h.frame rfl rfl rfl (Nat.le_refl _) fun _ _ => rfl
theorem Own.call {w' : World} (h : Own M w0 X R S w) (hb : Below w.heap.size w w') : Own M w0 X R S w' := h.frame hb.os hb.tape hb.output hb.size hb.block

theorem Own.alloc (h : Own M w0 X R S w) (cs : List Value) (t : TypeId) : Own M w0 (⟨w.heap.size, cs, t⟩ :: X) R S (w.alloc (.cells cs.toArray t (0, 0))) := by
  have h1 : Own M w0 X R S (w.alloc (.cells cs.toArray t (0, 0))) := h.frame rfl rfl rfl (by simp) fun k hk => Below.heap_alloc _ _ _ hk
  refine ⟨h1.keep, ?_, h1.row, h1.ro, ?_, ?_, ?_⟩
  · intro c hc
    rcases List.mem_cons.1 hc with rfl | hc
    · exact Blk.new w cs t
    · exact h1.chunk c hc
  · show (w.heap.size :: excl X R).Nodup
    exact List.nodup_cons.2 ⟨fun hm => Nat.lt_irrefl _ (h.lt _ hm), h.nd⟩
  · intro n hn
    rcases List.mem_cons.1 (show n ∈ w.heap.size :: excl X R from hn) with rfl | hn
    · exact .inr h.keep.size
    · exact h.free n hn
  · intro s hs hne hm
    rcases List.mem_cons.1 (show s.g ∈ w.heap.size :: excl X R from hm) with e | hm
    · have := ro_lt (h.ro s hs) hne
      omega
    · exact h.apart s hs hne hm

theorem map_set_n {X : List Chunk} {i : Nat} {c : Chunk} (hi : X[i]? = some c) (cs : List Value) : (X.set i ⟨c.n, cs, c.t⟩).map (·.n) = X.map (·.n) := by
  rw [List.map_set]
  have : (X.map (·.n))[i]? = some c.n := by simp [hi]
  obtain ⟨h1, h2⟩ := List.getElem?_eq_some_iff.1 this
  show (X.map (·.n)).set i c.n = _
  rw [← h2, List.set_getElem_self]

/-- a store into one chunk -/
theorem Own.setChunk {w' : World} (h : Own M w0 X R S w) {i : Nat} {n : Nat} {cs : List Value} {t : TypeId} (hi : X[i]? = some ⟨n, cs, t⟩) (cs' : List Value)
    (os : w'.os = w.os) (tape : w'.tape = w.tape) (out : w'.output = w.output) (hs : w'.heap.size = w.heap.size)
    (ho : ∀ k, k ≠ n → w'.heap[k]? = w.heap[k]?) (hn : Blk w' n cs' t) : Own M w0 (X.set i ⟨n, cs', t⟩) R S w' := by
  have he : excl (X.set i ⟨n, cs', t⟩) R = excl X R := by unfold excl; rw [map_set_n hi cs']
  have hmem : n ∈ excl X R := List.mem_append.2 (.inl (List.mem_map.2 ⟨_, List.mem_of_getElem? hi, rfl⟩))
  have hnX : n ∈ X.map (·.n) := List.mem_map.2 ⟨_, List.mem_of_getElem? hi, rfl⟩
  have hnd := List.nodup_append.1 h.nd
  refine ⟨?_, fun c hc => ?_, fun r hr => ?_, fun s hs' => ?_, he ▸ h.nd, he ▸ h.free, he ▸ h.apart⟩
  · refine ⟨os.trans h.keep.os, tape.trans h.keep.tape, out.trans h.keep.output, by rw [hs]; exact h.keep.size, fun k hk hm => ?_⟩
    by_cases e : k = n
    · subst e
      rcases h.free k hmem with hf | hf
      · exact absurd hf hm
      · omega
    · rw [ho k e]; exact h.keep.block k hk hm
  · obtain ⟨j, hj⟩ := List.getElem?_of_mem hc
    by_cases e : j = i
    · subst e
      have hl := (List.getElem?_eq_some_iff.1 hi).1
      rw [List.getElem?_set_self hl] at hj
      cases hj; exact hn
    · rw [List.getElem?_set_ne (fun h => e h.symm)] at hj
      have hc' := h.chunk c (List.mem_of_getElem? hj)
      have hne : c.n ≠ n := by
        intro heq
        have h1 : (X.map (·.n))[j]? = some n := by simp [hj, heq]
        have h2 : (X.map (·.n))[i]? = some n := by simp [hi]
        exact e ((List.getElem?_inj (List.getElem?_eq_some_iff.1 h1).1 hnd.1).1 (h1.trans h2.symm))
      unfold Blk; rw [ho c.n hne]; exact hc'
  · refine (h.row r hr).kept (row := some n) ⟨os, tape, out, Nat.le_of_eq hs.symm, fun k _ hk => ho k (fun e => hk (by rw [e]))⟩ ?_
    cases e : r.v.ownBlock with
    | none => simp
    | some b =>
      right
      intro heq
      have hb : b = n := by simpa using heq
      exact hnd.2.2 n hnX b (List.mem_filterMap.2 ⟨r, hr, e⟩) hb.symm
  · intro j v hv
    have h1 := h.ro s hs' j v hv
    have hne : s.g ≠ n := fun e => h.apart s hs' (fun e0 => by rw [e0] at hv; cases hv) (e ▸ hmem)
    rw [World.cell?_of_block (w := w) (ho _ hne)]; exact h1
end
end Go.Proofs.YtfhkmkbfgmbbaaaGreatDoor

/- The laws of the operations on memory, over what a call owns (Sep): lists of operations, quiet and still walks, results. For any program. -/
namespace Go.Proofs.YtfhkmkbfgmbbaaaGreatDoor
open Go.RowKit

/-- which chunk turns into what -/
inductive Upd : List Chunk → Chunk → Chunk → List Chunk → Prop
  | here {c c' : Chunk} {X : List Chunk} : Upd (c :: X) c c' (c' :: X)
  | there {c c' d : Chunk} {X X' : List Chunk} : Upd X c c' X' → Upd (d :: X) c c' (d :: X')
theorem Upd.at {X X' : List Chunk} {c c' : Chunk} (h : Upd X c c' X') : ∃ i, X[i]? = some c ∧ X' = X.set i c' := by
  induction h with
  | here => exact ⟨0, rfl, rfl⟩
  | there _ ih => obtain ⟨i, h1, h2⟩ := ih; exact ⟨i + 1, by simpa using h1, by simp [h2]⟩
inductive UpdR : List Row → Row → Row → List Row → Prop
  | here {c c' : Row} {X : List Row} : UpdR (c :: X) c c' (c' :: X)
  | there {c c' d : Row} {X X' : List Row} : UpdR X c c' X' → UpdR (d :: X) c c' (d :: X')
theorem UpdR.at {X X' : List Row} {c c' : Row} (h : UpdR X c c' X') : ∃ i, X[i]? = some c ∧ X' = X.set i c' := by
  induction h with
  | here => exact ⟨0, rfl, rfl⟩
  | there _ ih => obtain ⟨i, h1, h2⟩ := ih; exact ⟨i + 1, by simpa using h1, by simp [h2]⟩

/-- a struct's or an array's type, of so many cells; a type of one cell -/
def RowT (P : Program) (t : TypeId) (s : Nat) : Prop := ∃ d, P.underlying t = some d ∧ d.isRow = true ∧ (P.info? t).map (·.size) = some s
theorem row_len {P : Program} {t : TypeId} {s n : Nat} (h : RowT P t s) (e : s = n) : RowT P t n := e ▸ h
def OneT (P : Program) (t : TypeId) : Prop := ∃ d, P.underlying t = some d ∧ d.isRow = false ∧ (P.info? t).map (·.size) = some 1
/-- what a zero of the type is made of -/
def ZeroT (P : Program) (t : TypeId) (cs : List Value) : Prop := ((P.info? t).bind (·.zero)).map (·.cells) = some cs.toArray
/-- a slice type, its element's type, size in cells and bytes -/
def SliceT (P : Program) (t e : TypeId) (size bytes : Nat) : Prop := P.underlying t = some (.slice e) ∧ 0 < size ∧ ∃ i z, P.info? e = some i ∧ i.zero = some z ∧ i.size = size ∧ i.bytes = bytes ∧ z.cells.size = size

section
variable {P : Program} {ops : Array Oper} {rest : List Oper} {o : Oper} {a : Act} {Q : Exit → Act → World → Prop} {M : List Nat} {w0 w : World} {X X' : List Chunk} {R R' : List Row} {S : List Ro}

theorem wpList_val (hw : Region.wanted o (yielded ops a.tmps) = true) (v : Value) (w' : World) (hrun : (execOp a.eval o).run P w = .ok (.value v) w')
    (h : wpList P ops Q rest (a.put o.dst v) w') : wpList P ops Q (o :: rest) a w :=
  wpList_step fun K hK => by
    rw [if_pos hw]
    unfold Oper.wp
    rw [hrun, Oper.upon_value]
    exact hK _ _ h
theorem wpList_skp (hw : Region.wanted o (yielded ops a.tmps) = true) (w' : World) (hrun : (execOp a.eval o).run P w = .ok .skip w')
    (h : wpList P ops Q rest (a.put o.dst undef) w') : wpList P ops Q (o :: rest) a w :=
  wpList_step fun K hK => by
    rw [if_pos hw]
    unfold Oper.wp
    rw [hrun, Oper.upon_skip]
    exact hK _ _ h

/-! ### which kind of operation stands next: cheap guards -/
theorem is_load {d ty pos af g t x} (h : wpList P ops Q (⟨d, .load t x, ty, pos, af, g⟩ :: rest) a w) : wpList P ops Q (⟨d, .load t x, ty, pos, af, g⟩ :: rest) a w := h
theorem is_store {d ty pos af g t x y} (h : wpList P ops Q (⟨d, .store t x y, ty, pos, af, g⟩ :: rest) a w) : wpList P ops Q (⟨d, .store t x y, ty, pos, af, g⟩ :: rest) a w := h
theorem is_box {d ty pos af g t x} (h : wpList P ops Q (⟨d, .box t x, ty, pos, af, g⟩ :: rest) a w) : wpList P ops Q (⟨d, .box t x, ty, pos, af, g⟩ :: rest) a w := h
theorem is_alloc {d ty pos af g t} (h : wpList P ops Q (⟨d, .alloc t, ty, pos, af, g⟩ :: rest) a w) : wpList P ops Q (⟨d, .alloc t, ty, pos, af, g⟩ :: rest) a w := h
theorem is_build {d ty pos af g t l x} (h : wpList P ops Q (⟨d, .buildSlice t l x, ty, pos, af, g⟩ :: rest) a w) : wpList P ops Q (⟨d, .buildSlice t l x, ty, pos, af, g⟩ :: rest) a w := h
theorem is_append {d ty pos af g x y} (h : wpList P ops Q (⟨d, .call ⟨.builtin .append, x, y⟩, ty, pos, af, g⟩ :: rest) a w) : wpList P ops Q (⟨d, .call ⟨.builtin .append, x, y⟩, ty, pos, af, g⟩ :: rest) a w := h
theorem is_loadQ {C : World → Prop} {K : Act → Prop} {d ty pos af g t x} (h : Oper.quiet P ⟨d, .load t x, ty, pos, af, g⟩ a C K) : Oper.quiet P ⟨d, .load t x, ty, pos, af, g⟩ a C K := h
/-! ### what the operations come to -/
theorem rx_box {t : TypeId} {x : Operand} (ho : o.op = .box t x) : (execOp a.eval o).run P w = .ok (.value (.pointer (some ⟨w.heap.size, 0, none⟩))) (w.alloc (.cells (a.eval x).cells t (0, 0))) := by
  unfold execOp
  simp only [ho, Sem.run_bind, Instr.box, newVar, newRow, run_newObj_alloc, Sem.run_pure, Result.andThen_ok]
theorem rx_alloc {t : TypeId} {cs : List Value} (ho : o.op = .alloc t) (hz : ZeroT P t cs) : (execOp a.eval o).run P w = .ok (.value (.pointer (some ⟨w.heap.size, 0, none⟩))) (w.alloc (.cells cs.toArray t (0, 0))) := by
  unfold ZeroT at hz
  cases hi : P.info? t with
  | none => simp [hi] at hz
  | some i =>
    cases hzz : i.zero with
    | none => simp [hi, hzz] at hz
    | some z =>
      have hc : z.cells = cs.toArray := by simpa [hi, hzz] using hz
      unfold execOp
      simp only [ho, Sem.run_bind, Instr.alloc, zeroValue, typeInfo, run_program, hi, hzz, newVar, newRow, run_newObj_alloc, Sem.run_pure, Result.andThen_ok, hc]
theorem rx_load {t : TypeId} {x : Operand} {b off s : Nat} {vs : List Value} (ho : o.op = .load t x) (hx : a.eval x = .pointer (some ⟨b, off, none⟩)) (ht : RowT P t s) (hs : vs.length = s) (hr : w.rangeAt b off vs) :
    (execOp a.eval o).run P w = .ok (.value (.agg vs.toArray)) w := by
  obtain ⟨d, hu, hd, hi⟩ := ht
  unfold execOp
  simp only [ho, hx, Sem.run_bind, run_loadAt_mid w b off t vs d hr hu hd (by rw [hs]; exact hi), Sem.run_pure, Result.andThen_ok]
theorem rx_load1 {t : TypeId} {x : Operand} {b off : Nat} {v : Value} (ho : o.op = .load t x) (hx : a.eval x = .pointer (some ⟨b, off, none⟩)) (ht : OneT P t) (hr : w.cell? ⟨b, off, none⟩ = some v) :
    (execOp a.eval o).run P w = .ok (.value v) w := by
  obtain ⟨d, hu, hd, hi⟩ := ht
  have hagg : (isAgg t).run P w = .ok false w := by
    unfold isAgg
    rw [Sem.run_bind, run_underlying hu w]
    cases d <;> first | rfl | cases hd
  unfold execOp
  simp only [ho, hx, Sem.run_bind, Instr.loadAt, Instr.sureAddr, loadVar, hagg, Sem.run_pure, Result.andThen_ok, Bool.false_eq_true, if_false]
  simp [load, Sem.run, hr]
theorem rx_store {t : TypeId} {x y : Operand} {b off s : Nat} {vs : List Value} (ho : o.op = .store t x y) (hx : a.eval x = .pointer (some ⟨b, off, none⟩)) (hy : a.eval y = .agg vs.toArray) (ht : RowT P t s) (hs : vs.length = s)
    (hth : w.there b off s) (h1 : vs.all (·.oneCell') = true) : (execOp a.eval o).run P w = .ok .skip (w.setCells b off vs) := by
  obtain ⟨d, hu, hd, hi⟩ := ht
  unfold execOp
  simp only [ho, hx, hy, Sem.run_bind, run_storeAt_mid w b off t vs.toArray (by simpa [hs] using hth) (by simpa [hs] using hi) (by simpa using h1), Sem.run_pure, Result.andThen_ok]
theorem rx_store1 {t : TypeId} {x y : Operand} {b off : Nat} {v : Value} (ho : o.op = .store t x y) (hx : a.eval x = .pointer (some ⟨b, off, none⟩)) (hy : a.eval y = v) (ht : OneT P t)
    (hc : (w.cell? ⟨b, off, none⟩).isSome = true) (hf : w.frozen? ⟨b, off, none⟩ = false) (h1 : v.oneCell' = true) : (execOp a.eval o).run P w = .ok .skip (w.setCell ⟨b, off, none⟩ v) := by
  obtain ⟨d, hu, hd, hi⟩ := ht
  obtain ⟨u, hu'⟩ := Option.isSome_iff_exists.1 hc
  have hcs : v.cells = #[v] := by cases v <;> first | rfl | cases h1
  cases hq : P.info? t with
  | none => simp [hq] at hi
  | some i =>
    have hsz : i.size = 1 := by simpa [hq] using hi
    unfold execOp
    simp only [ho, hx, hy, Sem.run_bind, Instr.storeAt, Instr.sureAddr, storeVar, sizeOf, typeInfo, run_program, hq, hcs, hsz, Sem.run_pure, Result.andThen_ok, storeCells, store]
    cases v <;> first | (cases h1; done) | simp [Sem.run, Addr.add, hu', hf]

/-! ### the same over 'Own' -/
theorem Own.range (h : Own M w0 X R S w) {n off : Nat} {cs vs : List Value} {t : TypeId} (hm : (⟨n, cs, t⟩ : Chunk) ∈ X) (hv : (cs.drop off).take vs.length = vs) : w.rangeAt n off vs := by
  intro j v hj
  have hb := h.chunk _ hm
  rw [hb.cell (off + j)]
  have hjl := (List.getElem?_eq_some_iff.1 hj).1
  rw [← hv] at hj
  rw [List.getElem?_take, if_pos hjl, List.getElem?_drop] at hj
  exact hj
theorem Own.roRange (h : Own M w0 X R S w) {g off j : Nat} {xs vs : List Value} (hm : (⟨g, off, xs⟩ : Ro) ∈ S) (hv : (xs.drop j).take vs.length = vs) : w.rangeAt g (off + j) vs := by
  intro i v hi
  have hil := (List.getElem?_eq_some_iff.1 hi).1
  rw [← hv] at hi
  rw [List.getElem?_take, if_pos hil, List.getElem?_drop] at hi
  have := h.ro _ hm (j + i) v hi
  rw [Nat.add_assoc]
  exact this
theorem Own.cellAt (h : Own M w0 X R S w) {n off : Nat} {cs : List Value} {t : TypeId} {v : Value} (hm : (⟨n, cs, t⟩ : Chunk) ∈ X) (hv : cs[off]? = some v) : w.cell? ⟨n, off, none⟩ = some v := by
  rw [(h.chunk _ hm).cell off]; exact hv
theorem Own.roCell (h : Own M w0 X R S w) {g off j : Nat} {xs : List Value} {v : Value} (hm : (⟨g, off, xs⟩ : Ro) ∈ S) (hv : xs[j]? = some v) : w.cell? ⟨g, off + j, none⟩ = some v := h.ro _ hm j v hv

theorem own_box (hO : Own M w0 X R S w) (hw : Region.wanted o (yielded ops a.tmps) = true) {t : TypeId} {x : Operand} (ho : o.op = .box t x) {cs : List Value} (hx : (a.eval x).cells = cs.toArray)
    (h : ∀ n w', Own M w0 (⟨n, cs, t⟩ :: X) R S w' → wpList P ops Q rest (a.put o.dst (.pointer (some ⟨n, 0, none⟩))) w') : wpList P ops Q (o :: rest) a w :=
  wpList_val hw _ _ (rx_box ho) (h _ _ (by rw [hx]; exact hO.alloc cs t))
theorem own_alloc (hO : Own M w0 X R S w) (hw : Region.wanted o (yielded ops a.tmps) = true) {t : TypeId} (ho : o.op = .alloc t) {cs : List Value} (hz : ZeroT P t cs)
    (h : ∀ n w', Own M w0 (⟨n, cs, t⟩ :: X) R S w' → wpList P ops Q rest (a.put o.dst (.pointer (some ⟨n, 0, none⟩))) w') : wpList P ops Q (o :: rest) a w :=
  wpList_val hw _ _ (rx_alloc ho hz) (h _ _ (hO.alloc cs t))
theorem own_load1 (hO : Own M w0 X R S w) (hw : Region.wanted o (yielded ops a.tmps) = true) {t : TypeId} {x : Operand} (ho : o.op = .load t x) {n off : Nat} (hx : a.eval x = .pointer (some ⟨n, off, none⟩))
    (ht : OneT P t) {cs : List Value} {t' : TypeId} (hm : (⟨n, cs, t'⟩ : Chunk) ∈ X) {v : Value} (hv : cs[off]? = some v)
    (h : wpList P ops Q rest (a.put o.dst v) w) : wpList P ops Q (o :: rest) a w :=
  wpList_val hw _ _ (rx_load1 ho hx ht (hO.cellAt hm hv)) h
/-- a list with some cells overwritten -/
def putAt (cs : List Value) (off : Nat) : List Value → List Value
  | [] => cs
  | v :: vs => putAt (cs.set off v) (off + 1) vs
theorem putAt_length (vs : List Value) : ∀ (cs : List Value) (off : Nat), (putAt cs off vs).length = cs.length := by
  induction vs with
  | nil => intro cs off; rfl
  | cons v vs ih => intro cs off; rw [putAt, ih]; simp
theorem putAt_getElem? (vs : List Value) : ∀ (cs : List Value) (off k : Nat), off + vs.length ≤ cs.length → (putAt cs off vs)[k]? = if off ≤ k ∧ k < off + vs.length then vs[k - off]? else cs[k]? := by
  induction vs with
  | nil => intro cs off k _; simp [putAt]; omega
  | cons v vs ih =>
    intro cs off k hl
    simp only [List.length_cons] at hl
    rw [putAt, ih _ _ _ (by simp; omega)]
    by_cases h1 : off + 1 ≤ k ∧ k < off + 1 + vs.length
    · rw [if_pos h1, if_pos (by simp; omega)]
      rw [show k - off = (k - (off + 1)) + 1 by omega]; simp
    · rw [if_neg h1]
      by_cases h2 : k = off
      · subst h2
        rw [if_pos (by simp)]
        simp only [Nat.sub_self, List.getElem?_cons_zero]
        rw [List.getElem?_set_self (by omega)]
      · rw [if_neg (by simp; omega), List.getElem?_set_ne (fun e => h2 e.symm)]
theorem putAt_all (cs vs : List Value) (h : vs.length = cs.length) : putAt cs 0 vs = vs := by
  apply List.ext_getElem?
  intro k
  rw [putAt_getElem? _ _ _ _ (by omega)]
  by_cases hk : k < vs.length
  · rw [if_pos (by omega)]; rfl
  · rw [if_neg (by omega), List.getElem?_eq_none (by omega), List.getElem?_eq_none (by omega)]

theorem blk_setCells {n : Nat} {t : TypeId} (vs : List Value) : ∀ (w : World) (cs : List Value) (off : Nat), Blk w n cs t → Blk (w.setCells n off vs) n (putAt cs off vs) t := by
  induction vs with
  | nil => intro w cs off h; exact h
  | cons v vs ih => intro w cs off h; exact ih _ _ _ (h.set off v)
theorem heap_setCells_other {n : Nat} (vs : List Value) : ∀ (w : World) (off k : Nat), k ≠ n → (w.setCells n off vs).heap[k]? = w.heap[k]? := by
  induction vs with
  | nil => intro w off k _; rfl
  | cons v vs ih => intro w off k hk; exact (ih _ _ _ hk).trans (heap_setCell_other w _ k v hk)
theorem same_setCells {n : Nat} (vs : List Value) : ∀ (w : World) (off : Nat), (w.setCells n off vs).os = w.os ∧ (w.setCells n off vs).tape = w.tape ∧ (w.setCells n off vs).output = w.output ∧ (w.setCells n off vs).heap.size = w.heap.size := by
  induction vs with
  | nil => intro w off; exact ⟨rfl, rfl, rfl, rfl⟩
  | cons v vs ih =>
    intro w off
    obtain ⟨h1, h2, h3, h4⟩ := ih (w.setCell ⟨n, off, none⟩ v) (off + 1)
    exact ⟨h1, h2, h3, h4.trans (by simp)⟩

theorem Own.put (hO : Own M w0 X R S w) {n off : Nat} {cs vs : List Value} {t' : TypeId} (hu : Upd X ⟨n, cs, t'⟩ ⟨n, putAt cs off vs, t'⟩ X') : Own M w0 X' R S (w.setCells n off vs) := by
  obtain ⟨i, hi, rfl⟩ := hu.at
  obtain ⟨h1, h2, h3, h4⟩ := same_setCells (n := n) vs w off
  exact hO.setChunk hi _ h1 h2 h3 h4 (fun k hk => heap_setCells_other vs w off k hk) (blk_setCells vs w cs off (hO.chunk _ (List.mem_of_getElem? hi)))
theorem Own.put1 (hO : Own M w0 X R S w) {n off : Nat} {cs : List Value} {v : Value} {t' : TypeId} (hu : Upd X ⟨n, cs, t'⟩ ⟨n, cs.set off v, t'⟩ X') : Own M w0 X' R S (w.setCell ⟨n, off, none⟩ v) :=
  Own.put (vs := [v]) hO hu
theorem Upd.mem {X X' : List Chunk} {c c' : Chunk} (h : Upd X c c' X') : c ∈ X := by
  obtain ⟨i, hi, _⟩ := h.at; exact List.mem_of_getElem? hi

theorem own_store (hO : Own M w0 X R S w) (hw : Region.wanted o (yielded ops a.tmps) = true) {t : TypeId} {x y : Operand} (ho : o.op = .store t x y) {n off s : Nat} (hx : a.eval x = .pointer (some ⟨n, off, none⟩))
    {vs : List Value} (hy : a.eval y = .agg vs.toArray) (ht : RowT P t s) (hs : vs.length = s) {cs : List Value} {t' : TypeId} (hu : Upd X ⟨n, cs, t'⟩ ⟨n, putAt cs off vs, t'⟩ X') (hl : off + s ≤ cs.length) (h1 : vs.all (·.oneCell') = true)
    (h : ∀ w', Own M w0 X' R S w' → wpList P ops Q rest (a.put o.dst undef) w') : wpList P ops Q (o :: rest) a w := by
  have hb := hO.chunk _ hu.mem
  refine wpList_skp hw _ (rx_store ho hx hy ht hs (fun j hj => ⟨?_, hb.free _⟩) h1) (h _ (hO.put hu))
  rw [hb.cell (off + j), Option.isSome_iff_exists]
  exact ⟨cs[off + j]'(by omega), List.getElem?_eq_getElem _⟩
theorem own_store1 (hO : Own M w0 X R S w) (hw : Region.wanted o (yielded ops a.tmps) = true) {t : TypeId} {x y : Operand} (ho : o.op = .store t x y) {n off : Nat} (hx : a.eval x = .pointer (some ⟨n, off, none⟩))
    {v : Value} (hy : a.eval y = v) (ht : OneT P t) {cs : List Value} {t' : TypeId} (hu : Upd X ⟨n, cs, t'⟩ ⟨n, cs.set off v, t'⟩ X') (hl : off < cs.length) (h1 : v.oneCell' = true)
    (h : ∀ w', Own M w0 X' R S w' → wpList P ops Q rest (a.put o.dst undef) w') : wpList P ops Q (o :: rest) a w := by
  have hb := hO.chunk _ hu.mem
  refine wpList_skp hw _ (rx_store1 ho hx hy ht ?_ (hb.free _) h1) (h _ (hO.put1 hu))
  rw [hb.cell off, Option.isSome_iff_exists]
  exact ⟨cs[off]'hl, List.getElem?_eq_getElem _⟩

/-- less is owned too -/
theorem Own.sub {X' : List Chunk} {R' : List Row} {S' : List Ro} (hO : Own M w0 X R S w) (hX : X'.Sublist X) (hR : R'.Sublist R) (hS : ∀ s ∈ S', s ∈ S) : Own M w0 X' R' S' w := by
  have he : (excl X' R').Sublist (excl X R) := (hX.map _).append (hR.filterMap _)
  exact ⟨hO.keep, fun c hc => hO.chunk c (hX.subset hc), fun r hr => hO.row r (hR.subset hr), fun s hs => hO.ro s (hS s hs), hO.nd.sublist he, fun n hn => hO.free n (he.subset hn),
    fun s hs hne hm => hO.apart s (hS s hs) hne (he.subset hm)⟩
/-- a slice of the call's own that is still nil -/
theorem Own.nilRow (hO : Own M w0 X R S w) (e : TypeId) (size : Nat) : Own M w0 X (⟨.slice none 0 0, 0, [], e, size⟩ :: R) S w :=
  ⟨hO.keep, hO.chunk, fun r hr => by
    rcases List.mem_cons.1 hr with rfl | hr
    · exact World.ownsRow_nil w 0 e size
    · exact hO.row r hr, hO.ro, hO.nd, hO.free, hO.apart⟩
/-- a slice that is read and lies in none of the call's own blocks -/
theorem Own.addRo (hO : Own M w0 X R S w) (s : Ro) (hs : w.rangeAt s.g s.o s.xs) (ha : s.xs ≠ [] → s.g ∉ excl X R) : Own M w0 X R (s :: S) w :=
  ⟨hO.keep, hO.chunk, hO.row, fun s' h' => by
    rcases List.mem_cons.1 h' with rfl | h'
    · exact hs
    · exact hO.ro s' h', hO.nd, hO.free, fun s' h' => by
    rcases List.mem_cons.1 h' with rfl | h'
    · exact ha
    · exact hO.apart s' h'⟩

/-! ### quiet and still walks -/
theorem q_val {C : World → Prop} {K : Act → Prop} (v : Value) (hrun : ∀ w, C w → (execOp a.eval o).run P w = .ok (.value v) w) (h : K (a.put o.dst v)) : o.quiet P a C K :=
  ⟨v, fun w hw => by unfold Oper.quietAt; rw [hrun w hw]; exact ⟨rfl, rfl⟩, h⟩
/-- a callee that leaves old memory alone and hands back one value -/
theorem q_call {f : FuncId} {args : Array Value} {v : Value} (hc : Calls P f args w fun e w' => e = .returned v ∧ Below w.heap.size w w') (hO : Own M w0 X R S w) :
    Calls P f args w fun e w' => e = .returned v ∧ Own M w0 X R S w' := hc.mono fun _ _ ⟨h1, h2⟩ => ⟨h1, hO.call h2⟩
theorem q_same {f : FuncId} {args : Array Value} {v : Value} (hc : Calls P f args w fun e w' => e = .returned v ∧ w = w') (hO : Own M w0 X R S w) :
    Calls P f args w fun e w' => e = .returned v ∧ Own M w0 X R S w' := hc.mono fun _ _ ⟨h1, h2⟩ => ⟨h1, h2 ▸ hO⟩
theorem own_quiet {id : Nat} {l : List Oper} (hO : Own M w0 X R S w) (hm : P.follows .mixedOrders = true) (hB : Region.lexB .any l.toArray = true)
    (h : wpQuiet P l.toArray (Own M w0 X R S) (fun a' => ∀ w', Own M w0 X R S w' → Q .normal a' w') l a) : (Code.region id l.toArray true).wp P Q a w :=
  wp_region_quiet (C := Own M w0 X R S) hm hB hO.drew (by simpa using h)

/-! ### results that lie in blocks -/
theorem own_res_cell {fn : Func} {p n : Nat} {ty : TypeId} (hO : Own M w0 X R S w) (h : fn.results = #[.cell p ty]) {tmps : Array Value} (hp : tmps.getD p undef = .pointer (some ⟨n, 0, none⟩)) {cs : List Value} {t' : TypeId}
    (hm : (⟨n, cs, t'⟩ : Chunk) ∈ X) {s : Nat} (ht : RowT P ty s) (hs : cs.length = s) : (results fn tmps).run P w = .ok (.agg cs.toArray) w := by
  obtain ⟨d, hu, hd, hi⟩ := ht
  exact results_cell_row h tmps w n t' cs.toArray (0, 0) d hp (hO.chunk _ hm) hu (by cases d <;> simp_all) (by simpa [hs] using hi)
/-! ### a slice literal -/
theorem rx_build {t e : TypeId} {len : Nat} {parts : Array (Nat × Operand)} {cs : List Value} (ho : o.op = .buildSlice t len parts) (hu : P.underlying t = some (.slice e))
    (hf : Program.builtSlice P e len (parts.map fun (i, x) => (i, a.eval x)).toList = some cs.toArray) :
    (execOp a.eval o).run P w = .ok (.value (.slice (some ⟨w.heap.size, 0, none⟩) len len)) (w.alloc (.cells cs.toArray e (0, 0))) := by
  unfold Program.builtSlice at hf
  cases hie : P.info? e with
  | none => simp [hie] at hf
  | some i =>
    simp only [hie] at hf
    cases hz : i.zero with
    | none => simp [hz] at hf
    | some z =>
      simp only [hz] at hf
      split at hf
      · cases hf
      · rename_i hn
        have h1 : ¬ len * i.size > 2 ^ 24 := fun h => hn (.inl h)
        have h2 : ¬ len * i.size = 0 := fun h => hn (.inr h)
        unfold execOp
        simp only [ho, Sem.run_bind, Instr.buildSlice, underlying, run_program, hu, Sem.run_pure, Result.andThen_ok, sizeOf, typeInfo, hie, h1, if_false, h2, zeroValue, hz, hf, newRow, run_newObj_alloc]
theorem own_build1 (hO : Own M w0 X R S w) (hw : Region.wanted o (yielded ops a.tmps) = true) {t e : TypeId} {x : Operand} (ho : o.op = .buildSlice t 1 #[(0, x)]) {vs : List Value} (hx : a.eval x = .agg vs.toArray)
    (hu : P.underlying t = some (.slice e)) (hf : Program.builtSlice P e 1 [(0, .agg vs.toArray)] = some vs.toArray)
    (h : ∀ n w', Own M w0 (⟨n, vs, e⟩ :: X) R S w' → wpList P ops Q rest (a.put o.dst (.slice (some ⟨n, 0, none⟩) 1 1)) w') : wpList P ops Q (o :: rest) a w :=
  wpList_val hw _ _ (rx_build ho hu (by simp only [List.map_toArray, List.map_cons, List.map_nil, hx]; exact hf)) (h _ _ (hO.alloc vs e))

/-! ### append to a slice of the call's own -/
theorem mem_blocks {A B : List Row} {r : Row} {g : Nat} : g ∈ excl X (A ++ r :: B) ↔ g ∈ X.map (·.n) ++ (A.filterMap (·.v.ownBlock) ++ B.filterMap (·.v.ownBlock)) ∨ r.v.ownBlock = some g := by
  unfold excl
  simp only [List.filterMap_append, List.filterMap_cons, List.mem_append]
  cases e : r.v.ownBlock with
  | none => simp
  | some b =>
    have e2 : (b = g) ↔ (g = b) := eq_comm
    simp only [List.mem_cons, Option.some.injEq, e2]
    constructor
    · rintro (h | h | h | h)
      · exact .inl (.inl h)
      · exact .inl (.inr (.inl h))
      · exact .inr h
      · exact .inl (.inr (.inr h))
    · rintro ((h | h | h) | h)
      · exact .inl h
      · exact .inr (.inl h)
      · exact .inr (.inr (.inr h))
      · exact .inr (.inr (.inl h))
theorem nodup_blocks {A B : List Row} {r : Row} : (excl X (A ++ r :: B)).Nodup ↔ (X.map (·.n) ++ (A.filterMap (·.v.ownBlock) ++ B.filterMap (·.v.ownBlock))).Nodup ∧ ∀ g, r.v.ownBlock = some g → g ∉ X.map (·.n) ++ (A.filterMap (·.v.ownBlock) ++ B.filterMap (·.v.ownBlock)) := by
  unfold excl
  simp only [List.filterMap_append, List.filterMap_cons]
  cases e : r.v.ownBlock with
  | none => simp
  | some b =>
    have hp : (X.map (·.n) ++ (A.filterMap (·.v.ownBlock) ++ b :: B.filterMap (·.v.ownBlock))).Perm (b :: (X.map (·.n) ++ (A.filterMap (·.v.ownBlock) ++ B.filterMap (·.v.ownBlock)))) := by
      rw [← List.append_assoc, ← List.append_assoc]; exact List.perm_middle
    rw [hp.nodup_iff, List.nodup_cons]
    simp [and_comm]
theorem Own.grow {w' : World} {A B : List Row} {r r' : Row} (hO : Own M w0 X (A ++ r :: B) S w) (hg : w.grownBy w' r.v.ownBlock) (hr : w'.ownsRow 0 r'.e r'.size r'.v r'.k r'.xs)
    (hb : ∀ g, r'.v.ownBlock = some g → r.v.ownBlock = some g ∨ g = w.heap.size) : Own M w0 X (A ++ r' :: B) S w' := by
  have hnd0 := nodup_blocks.1 hO.nd
  have hmem : ∀ g, r.v.ownBlock = some g → g ∈ excl X (A ++ r :: B) := fun g hg => mem_blocks.2 (.inr hg)
  have hin : ∀ g, g ∈ excl X (A ++ r' :: B) → g ∈ excl X (A ++ r :: B) ∨ g = w.heap.size := by
    intro g hg'
    rcases mem_blocks.1 hg' with h | h
    · exact .inl (mem_blocks.2 (.inl h))
    · rcases hb g h with h1 | h1
      · exact .inl (hmem g h1)
      · exact .inr h1
  have hnd : (excl X (A ++ r' :: B)).Nodup := by
    refine nodup_blocks.2 ⟨hnd0.1, fun g e hm => ?_⟩
    rcases hb g e with h1 | h1
    · exact hnd0.2 g h1 hm
    · have := hO.lt g (mem_blocks.2 (.inl hm)); omega
  have hapart : ∀ q, q ∈ A ∨ q ∈ B → q.v.ownBlock = none ∨ q.v.ownBlock ≠ r.v.ownBlock := by
    intro q hq
    cases e1 : q.v.ownBlock with
    | none => exact .inl rfl
    | some b =>
      right
      intro e2
      refine hnd0.2 b e2.symm (List.mem_append.2 (.inr (List.mem_append.2 ?_)))
      exact hq.imp (fun h => List.mem_filterMap.2 ⟨q, h, e1⟩) (fun h => List.mem_filterMap.2 ⟨q, h, e1⟩)
  refine ⟨?_, fun c hc => ?_, fun q hq => ?_, fun s hs => ?_, hnd, fun n hn => ?_, fun s hs hne hm => ?_⟩
  · refine ⟨hg.os.trans hO.keep.os, hg.tape.trans hO.keep.tape, hg.output.trans hO.keep.output, Nat.le_trans hO.keep.size hg.size, fun k hk hm => ?_⟩
    by_cases e : r.v.ownBlock = some k
    · rcases hO.free k (hmem k e) with hf | hf
      · exact absurd hf hm
      · omega
    · rw [hg.block k (Nat.lt_of_lt_of_le hk hO.keep.size) (fun e' => e e'.symm)]; exact hO.keep.block k hk hm
  · refine (hO.chunk c hc).grown hg fun e => ?_
    exact hnd0.2 c.n e (List.mem_append.2 (.inl (List.mem_map.2 ⟨c, hc, rfl⟩)))
  · rcases List.mem_append.1 hq with h | h
    · exact (hO.row q (List.mem_append.2 (.inl h))).kept hg (hapart q (.inl h))
    · rcases List.mem_cons.1 h with rfl | h
      · exact hr
      · exact (hO.row q (List.mem_append.2 (.inr (List.mem_cons_of_mem _ h)))).kept hg (hapart q (.inr h))
  · intro j v hv
    have h1 := hO.ro s hs j v hv
    have hne : r.v.ownBlock ≠ some s.g := fun e => hO.apart s hs (fun e0 => by rw [e0] at hv; cases hv) (hmem _ e)
    rw [World.cell?_of_block (w := w) (hg.block _ (World.block_lt_of_cell? w _ h1) (fun e => hne e.symm))]; exact h1
  · rcases hin n hn with h | h
    · exact hO.free n h
    · exact .inr (by rw [h]; exact hO.keep.size)
  · rcases hin _ hm with h | h
    · exact hO.apart s hs hne h
    · have := ro_lt (hO.ro s hs) hne
      omega
theorem UpdR.split {X X' : List Row} {c c' : Row} (h : UpdR X c c' X') : ∃ A B, X = A ++ c :: B ∧ X' = A ++ c' :: B := by
  induction h with
  | @here _ _ X => exact ⟨[], X, rfl, rfl⟩
  | @there _ _ d _ _ _ ih => obtain ⟨A, B, h1, h2⟩ := ih; exact ⟨d :: A, B, by simp [h1], by simp [h2]⟩

/-- append of m elements that lie in a chunk of the call's own (a slice literal that was just laid) -/
theorem own_append (hO : Own M w0 X R S w) (hgd : o.guard = none) {s x : Operand} {t e : TypeId} (ho : o.op = .call { callee := .builtin .append, args := #[s, x], argTypes := #[t, t] }) {size bytes : Nat} (ht : SliceT P t e size bytes)
    {v : Value} (hs : a.eval s = v) {b m c : Nat} (hx : a.eval x = .slice (some ⟨b, 0, none⟩) m c) {news : List Value} {t' : TypeId} (hm : (⟨b, news, t'⟩ : Chunk) ∈ X) (hl : news.length = m * size) (hm0 : 0 < m) (h1 : news.all (·.oneCell') = true)
    {k : Nat} {xs : List Value} {R1 : Nat → Nat → List Row} (hu : ∀ g cap, UpdR R ⟨v, k, xs, e, size⟩ ⟨.slice (some ⟨g, 0, none⟩) (k + m) cap, k + m, xs ++ news, e, size⟩ (R1 g cap)) (hbytes : (k + m) * bytes ≤ 140737488355328) (hk : k + m ≤ maxLen)
    (h : ∀ g cap w', Own M w0 X (R1 g cap) S w' → wpList P ops Q rest (a.put o.dst (.slice (some ⟨g, 0, none⟩) (k + m) cap)) w') : wpList P ops Q (o :: rest) a w := by
  obtain ⟨hu1, hsz, i, z, hi, hz, hi1, hi2, hz1⟩ := ht
  obtain ⟨A0, B0, hR0, _⟩ := (hu 0 0).split
  have hrow := hO.row ⟨v, k, xs, e, size⟩ (by rw [hR0]; exact List.mem_append.2 (.inr List.mem_cons_self))
  refine wpList_append_lies (P := P) w hgd s x t ho 0 e i z size bytes hu1 hi hz hi1 hi2 hz1 hsz v k xs hs hrow ⟨b, 0, none⟩ m c news hx hl ?_ ?_ hm0 hk hbytes (Nat.zero_le _) _ rfl ?_
  · intro q u hq
    have hadd : (⟨b, 0, none⟩ : Addr).add q = ⟨b, q, none⟩ := by unfold Addr.add; split <;> simp_all
    rw [hadd]; exact hO.cellAt hm hq
  · intro u hu'; exact (List.all_eq_true.1 h1) u hu'
  · intro g cap w' h2 h3 h4 _
    refine h g cap w' ?_
    obtain ⟨A, B, hR, hR'⟩ := (hu g cap).split
    rw [hR']
    refine Own.grow (r := ⟨v, k, xs, e, size⟩) (hR ▸ hO) h3 h2 fun g' hg' => ?_
    have : g' = g := by simpa [Value.ownBlock] using hg'.symm
    subst this; exact h4
end
end Go.Proofs.YtfhkmkbfgmbbaaaGreatDoor

/- The types of the packages api and box in this translation, and small laws on the cells of boxes. -/
namespace Go.Proofs.YtfhkmkbfgmbbaaaGreatDoor
open Go.RowKit

/-- five numbers -/
def fcs (p : Nat → Int) : List Value := [.int .u32 (p 0), .int .u32 (p 1), .int .u32 (p 2), .int .u32 (p 3), .int .u32 (p 4)]
def fupd (p : Nat → Int) (k : Nat) (v : Int) : Nat → Int := fun i => if i = k then v else p i
theorem fset {p : Nat → Int} {k : Nat} (h : k < 5) {v : Int} : (fcs p).set k (.int .u32 v) = fcs (fupd p k v) := by
  rcases five h with rfl | rfl | rfl | rfl | rfl <;> rfl
theorem fcs_at (p : Nat → Int) {k : Nat} (h : k < 5) : (fcs p)[k]? = some (.int .u32 (p k)) := by
  rcases five h with rfl | rfl | rfl | rfl | rfl <;> rfl
theorem row_Range : RowT Tryz.prog 46 2 := ⟨_, Tryz.underlying46, rfl, by kernel_rfl⟩
theorem one_u32 : OneT Tryz.prog 28 := ⟨_, Tryz.underlying28, rfl, by kernel_rfl⟩
theorem one_u8 : OneT Tryz.prog 5 := ⟨_, Tryz.underlying5, rfl, by kernel_rfl⟩
theorem one_int : OneT Tryz.prog 3 := ⟨_, Tryz.underlying3, rfl, by kernel_rfl⟩
theorem zero_Range : ZeroT Tryz.prog 46 [.int .u32 0, .int .u32 0] := by unfold ZeroT; kernel_rfl
theorem tk_all (cs : List Value) : (cs.drop 0).take cs.length = cs := by simp
theorem tk_rg (b : Bx) {k : Nat} (h : k < 5) : ((bcs b).drop (k * 2)).take ([Value.int .u32 (b.at k).lo, .int .u32 (b.at k).hi] : List Value).length = [.int .u32 (b.at k).lo, .int .u32 (b.at k).hi] := by
  rcases five h with rfl | rfl | rfl | rfl | rfl <;> rfl
theorem bput_rg {b : Bx} {k : Nat} (h : k < 5) {l u : Int} : putAt (bcs b) (k * 2) [.int .u32 l, .int .u32 u] = bcs (b.set k ⟨l, u⟩) := by
  rcases five h with rfl | rfl | rfl | rfl | rfl <;> rfl
abbrev topsL : List Value := fcs topOf
theorem tops_get {k : Nat} (h : k < 5) : topsL[k]? = some (.int .u32 (topOf k)) := by
  rcases five h with rfl | rfl | rfl | rfl | rfl <;> rfl
/-! reading an element of an array value -/
section
variable (w : World)
end
end Go.Proofs.YtfhkmkbfgmbbaaaGreatDoor

/- The laws of the operations on memory once more, with the search for their premises laid into them (so that a walk's text stays short). For any program. -/
namespace Go.Proofs.YtfhkmkbfgmbbaaaGreatDoor
open Go.RowKit
/-- what a load at an address comes to -/
def LoadsAt (P : Program) (w : World) (t : TypeId) (n off : Nat) (v : Value) : Prop :=
  (∃ s vs, RowT P t s ∧ vs.length = s ∧ w.rangeAt n off vs ∧ v = .agg vs.toArray) ∨ (OneT P t ∧ w.cell? ⟨n, off, none⟩ = some v)
section
variable {P : Program} {w : World} {t : TypeId} {n off : Nat}
theorem ld_row {s : Nat} {vs : List Value} (ht : RowT P t s) (hr : w.rangeAt n off vs) (hs : vs.length = s) : LoadsAt P w t n off (.agg vs.toArray) := .inl ⟨s, vs, ht, hs, hr, rfl⟩
theorem ld_one {v : Value} (ht : OneT P t) (hc : w.cell? ⟨n, off, none⟩ = some v) : LoadsAt P w t n off v := .inr ⟨ht, hc⟩
end
section
variable {P : Program} {ops : Array Oper} {rest : List Oper} {o : Oper} {a : Act} {w w0 w' : World} {Q : Exit → Act → World → Prop} {M : List Nat} {X X' : List Chunk} {R : List Row} {S : List Ro}
theorem rx_ld {t : TypeId} {x : Operand} {n off : Nat} {v : Value} (ho : o.op = .load t x) (hx : a.eval x = .pointer (some ⟨n, off, none⟩)) (hl : LoadsAt P w t n off v) : (execOp a.eval o).run P w = .ok (.value v) w := by
  rcases hl with ⟨s, vs, ht, hs, hr, rfl⟩ | ⟨ht, hc⟩
  · exact rx_load ho hx ht hs hr
  · exact rx_load1 ho hx ht hc
theorem Own.roRangeG (hO : Own M w0 X R S w) {g j : Nat} {xs vs : List Value} (hm : (⟨g, 0, xs⟩ : Ro) ∈ S) (hv : (xs.drop j).take vs.length = vs) : w.rangeAt g j vs := Nat.zero_add j ▸ hO.roRange hm hv
theorem Own.roCellG (hO : Own M w0 X R S w) {g j : Nat} {xs : List Value} (hm : (⟨g, 0, xs⟩ : Ro) ∈ S) {v : Value} (hv : xs[j]? = some v) : w.cell? ⟨g, j, none⟩ = some v := Nat.zero_add j ▸ hO.roCell hm hv
theorem Own.roRange3 (hO : Own M w0 X R S w) {g off i j : Nat} {xs vs : List Value} (hm : (⟨g, off, xs⟩ : Ro) ∈ S) (hv : (xs.drop (i + j)).take vs.length = vs) : w.rangeAt g (off + i + j) vs := by
  rw [Nat.add_assoc]; exact hO.roRange hm hv
theorem Own.roCell3 (hO : Own M w0 X R S w) {g off i j : Nat} {xs : List Value} {v : Value} (hm : (⟨g, off, xs⟩ : Ro) ∈ S) (hv : xs[i + j]? = some v) : w.cell? ⟨g, off + i + j, none⟩ = some v := by
  rw [Nat.add_assoc]; exact hO.roCell hm hv
theorem Own.roCell4 (hO : Own M w0 X R S w) {g off i j m : Nat} {xs : List Value} {v : Value} (hm : (⟨g, off, xs⟩ : Ro) ∈ S) (hv : xs[i + j + m]? = some v) : w.cell? ⟨g, off + i + j + m, none⟩ = some v := by
  rw [show off + i + j + m = off + (i + j + m) by omega]; exact hO.roCell hm hv
theorem Own.roRange0 (hO : Own M w0 X R S w) {g off : Nat} {xs vs : List Value} (hm : (⟨g, off, xs⟩ : Ro) ∈ S) (hv : xs.take vs.length = vs) : w.rangeAt g off vs := by
  have := hO.roRange (j := 0) hm (vs := vs) (by simpa using hv)
  simpa using this

/-- read through a row -/
theorem Own.rowCell (hO : Own M w0 X R S w) {g k cap j size : Nat} {xs : List Value} {e : TypeId} {v : Value} (hm : (⟨.slice (some ⟨g, 0, none⟩) k cap, k, xs, e, size⟩ : Row) ∈ R) (hv : xs[j]? = some v) : w.cell? ⟨g, j, none⟩ = some v := by
  have h := hO.row _ hm
  have hl := (List.getElem?_eq_some_iff.1 hv).1
  rw [h.cellAt j (by rw [← h.1]; exact hl)]; exact hv
theorem Own.rowRange (hO : Own M w0 X R S w) {g k cap j size : Nat} {xs vs : List Value} {e : TypeId} (hm : (⟨.slice (some ⟨g, 0, none⟩) k cap, k, xs, e, size⟩ : Row) ∈ R) (hv : (xs.drop j).take vs.length = vs) : w.rangeAt g j vs := by
  intro i u hu
  refine hO.rowCell hm ?_
  have hl := (List.getElem?_eq_some_iff.1 hu).1
  rw [← hv, List.getElem?_take, if_pos hl, List.getElem?_drop] at hu
  exact hu
theorem own_ld (hw : Region.wanted o (yielded ops a.tmps) = true := by rfl) {t : TypeId} {x : Operand} (ho : o.op = .load t x := by rfl) {n off : Nat} (hx : a.eval x = .pointer (some ⟨n, off, none⟩) := by rfl) {v : Value}
    (hl : LoadsAt P w t n off v := by (first | (refine' ld_row ?ht (hO.range ?hm ?hv) ?hs; (case ht => (with_reducible (first | exact row_Box | exact row_Range | exact row_Header | exact row_Five | exact row_Tape | exact row_Prefix | exact row_Truths | exact row_Packet | exact row_Group))); (case hm => (repeat (first | exact List.mem_cons_self | refine List.mem_cons_of_mem _ ?_))); (case hv => (first | assumption | exact tk_rg _ (by assumption) | exact tk_box _ (by assumption) | exact tk_all _)); (case hs => rfl)) | (refine' ld_one ?ht (hO.cellAt ?hm ?hv); (case ht => (with_reducible (first | exact one_u32 | exact one_int | exact one_u16 | exact one_u8 | exact one_ints | exact one_bool | exact one_bytes | exact one_u64 | exact one_set | exact one_boxes))); (case hm => (repeat (first | exact List.mem_cons_self | refine List.mem_cons_of_mem _ ?_))); (case hv => (first | assumption | exact tcs5_at _ (by assumption) | exact ints_at (by assumption) | exact cb_lo _ (by assumption) (by assumption) | exact cb_hi _ (by assumption) (by assumption) | exact fcs_at _ (by assumption) | exact tops_get (by assumption) | exact bcs_lo _ (by assumption) | exact bcs_hi _ (by assumption) | rfl))) | (refine' ld_row ?ht (hO.roRange ?hm ?hv) ?hs; (case ht => (with_reducible (first | exact row_Box | exact row_Range | exact row_Header | exact row_Five | exact row_Tape | exact row_Prefix | exact row_Truths | exact row_Packet | exact row_Group))); (case hm => (repeat (first | exact List.mem_cons_self | refine List.mem_cons_of_mem _ ?_))); (case hv => (first | assumption | exact tk_rg _ (by assumption) | exact tk_box _ (by assumption) | exact tk_all _)); (case hs => rfl)) | (refine' ld_one ?ht (hO.roCell ?hm ?hv); (case ht => (with_reducible (first | exact one_u32 | exact one_int | exact one_u16 | exact one_u8 | exact one_ints | exact one_bool | exact one_bytes | exact one_u64 | exact one_set | exact one_boxes))); (case hm => (repeat (first | exact List.mem_cons_self | refine List.mem_cons_of_mem _ ?_))); (case hv => (first | assumption | exact tcs5_at _ (by assumption) | exact ints_at (by assumption) | exact cb_lo _ (by assumption) (by assumption) | exact cb_hi _ (by assumption) (by assumption) | exact fcs_at _ (by assumption) | exact tops_get (by assumption) | exact bcs_lo _ (by assumption) | exact bcs_hi _ (by assumption) | rfl))) | (refine' ld_row ?ht (hO.roRangeG ?hm ?hv) ?hs; (case ht => (with_reducible (first | exact row_Box | exact row_Range | exact row_Header | exact row_Five | exact row_Tape | exact row_Prefix | exact row_Truths | exact row_Packet | exact row_Group))); (case hm => (repeat (first | exact List.mem_cons_self | refine List.mem_cons_of_mem _ ?_))); (case hv => (first | assumption | exact tk_rg _ (by assumption) | exact tk_box _ (by assumption) | exact tk_all _)); (case hs => rfl)) | (refine' ld_one ?ht (hO.roCellG ?hm ?hv); (case ht => (with_reducible (first | exact one_u32 | exact one_int | exact one_u16 | exact one_u8 | exact one_ints | exact one_bool | exact one_bytes | exact one_u64 | exact one_set | exact one_boxes))); (case hm => (repeat (first | exact List.mem_cons_self | refine List.mem_cons_of_mem _ ?_))); (case hv => (first | assumption | exact tcs5_at _ (by assumption) | exact ints_at (by assumption) | exact cb_lo _ (by assumption) (by assumption) | exact cb_hi _ (by assumption) (by assumption) | exact fcs_at _ (by assumption) | exact tops_get (by assumption) | exact bcs_lo _ (by assumption) | exact bcs_hi _ (by assumption) | rfl))) | (refine' ld_row ?ht (hO.roRange3 ?hm ?hv) ?hs; (case ht => (with_reducible (first | exact row_Box | exact row_Range | exact row_Header | exact row_Five | exact row_Tape | exact row_Prefix | exact row_Truths | exact row_Packet | exact row_Group))); (case hm => (repeat (first | exact List.mem_cons_self | refine List.mem_cons_of_mem _ ?_))); (case hv => (first | assumption | exact tk_rg _ (by assumption) | exact tk_box _ (by assumption) | exact tk_all _)); (case hs => rfl)) | (refine' ld_row ?ht (hO.roRange0 ?hm ?hv) ?hs; (case ht => (with_reducible (first | exact row_Box | exact row_Range | exact row_Header | exact row_Five | exact row_Tape | exact row_Prefix | exact row_Truths | exact row_Packet | exact row_Group))); (case hm => (repeat (first | exact List.mem_cons_self | refine List.mem_cons_of_mem _ ?_))); (case hv => (first | exact tk_boxOne _ | exact tk_box0 _ (by assumption))); (case hs => rfl)) | (refine' ld_one ?ht (hO.roCell3 ?hm ?hv); (case ht => (with_reducible (first | exact one_u32 | exact one_int | exact one_u16 | exact one_u8 | exact one_ints | exact one_bool | exact one_bytes | exact one_u64 | exact one_set | exact one_boxes))); (case hm => (repeat (first | exact List.mem_cons_self | refine List.mem_cons_of_mem _ ?_))); (case hv => (first | assumption | exact tcs5_at _ (by assumption) | exact ints_at (by assumption) | exact cb_lo _ (by assumption) (by assumption) | exact cb_hi _ (by assumption) (by assumption) | exact fcs_at _ (by assumption) | exact tops_get (by assumption) | exact bcs_lo _ (by assumption) | exact bcs_hi _ (by assumption) | rfl))) | (refine' ld_one ?ht (hO.roCell4 ?hm ?hv); (case ht => (with_reducible (first | exact one_u32 | exact one_int | exact one_u16 | exact one_u8 | exact one_ints | exact one_bool | exact one_bytes | exact one_u64 | exact one_set | exact one_boxes))); (case hm => (repeat (first | exact List.mem_cons_self | refine List.mem_cons_of_mem _ ?_))); (case hv => (first | assumption | exact tcs5_at _ (by assumption) | exact ints_at (by assumption) | exact cb_lo _ (by assumption) (by assumption) | exact cb_hi _ (by assumption) (by assumption) | exact fcs_at _ (by assumption) | exact tops_get (by assumption) | exact bcs_lo _ (by assumption) | exact bcs_hi _ (by assumption) | rfl))) | (refine' ld_row ?ht (hO.rowRange ?hm ?hv) ?hs; (case ht => (with_reducible (first | exact row_Box | exact row_Range | exact row_Header | exact row_Five | exact row_Tape | exact row_Prefix | exact row_Truths | exact row_Packet | exact row_Group))); (case hm => (repeat (first | exact List.mem_cons_self | refine List.mem_cons_of_mem _ ?_))); (case hv => (first | assumption | exact tk_rg _ (by assumption) | exact tk_box _ (by assumption) | exact tk_all _)); (case hs => rfl)) | (refine' ld_one ?ht (hO.rowCell ?hm ?hv); (case ht => (with_reducible (first | exact one_u32 | exact one_int | exact one_u16 | exact one_u8 | exact one_ints | exact one_bool | exact one_bytes | exact one_u64 | exact one_set | exact one_boxes))); (case hm => (repeat (first | exact List.mem_cons_self | refine List.mem_cons_of_mem _ ?_))); (case hv => (first | assumption | exact tcs5_at _ (by assumption) | exact ints_at (by assumption) | exact cb_lo _ (by assumption) (by assumption) | exact cb_hi _ (by assumption) (by assumption) | exact fcs_at _ (by assumption) | exact tops_get (by assumption) | exact bcs_lo _ (by assumption) | exact bcs_hi _ (by assumption) | rfl)))))
    (h : wpList P ops Q rest (a.put o.dst v) w) : wpList P ops Q (o :: rest) a w :=
  wpList_val hw _ _ (rx_ld ho hx hl) h
theorem q_ld {K : Act → Prop} {t : TypeId} {x : Operand} (ho : o.op = .load t x := by rfl) {n off : Nat} (hx : a.eval x = .pointer (some ⟨n, off, none⟩) := by rfl) {v : Value}
    (hl : ∀ wq, Own M w0 X R S wq → LoadsAt P wq t n off v := by (intro wq hO; (first | (refine' ld_row ?ht (hO.range ?hm ?hv) ?hs; (case ht => (with_reducible (first | exact row_Box | exact row_Range | exact row_Header | exact row_Five | exact row_Tape | exact row_Prefix | exact row_Truths | exact row_Packet | exact row_Group))); (case hm => (repeat (first | exact List.mem_cons_self | refine List.mem_cons_of_mem _ ?_))); (case hv => (first | assumption | exact tk_rg _ (by assumption) | exact tk_box _ (by assumption) | exact tk_all _)); (case hs => rfl)) | (refine' ld_one ?ht (hO.cellAt ?hm ?hv); (case ht => (with_reducible (first | exact one_u32 | exact one_int | exact one_u16 | exact one_u8 | exact one_ints | exact one_bool | exact one_bytes | exact one_u64 | exact one_set | exact one_boxes))); (case hm => (repeat (first | exact List.mem_cons_self | refine List.mem_cons_of_mem _ ?_))); (case hv => (first | assumption | exact tcs5_at _ (by assumption) | exact ints_at (by assumption) | exact cb_lo _ (by assumption) (by assumption) | exact cb_hi _ (by assumption) (by assumption) | exact fcs_at _ (by assumption) | exact tops_get (by assumption) | exact bcs_lo _ (by assumption) | exact bcs_hi _ (by assumption) | rfl))) | (refine' ld_row ?ht (hO.roRange ?hm ?hv) ?hs; (case ht => (with_reducible (first | exact row_Box | exact row_Range | exact row_Header | exact row_Five | exact row_Tape | exact row_Prefix | exact row_Truths | exact row_Packet | exact row_Group))); (case hm => (repeat (first | exact List.mem_cons_self | refine List.mem_cons_of_mem _ ?_))); (case hv => (first | assumption | exact tk_rg _ (by assumption) | exact tk_box _ (by assumption) | exact tk_all _)); (case hs => rfl)) | (refine' ld_one ?ht (hO.roCell ?hm ?hv); (case ht => (with_reducible (first | exact one_u32 | exact one_int | exact one_u16 | exact one_u8 | exact one_ints | exact one_bool | exact one_bytes | exact one_u64 | exact one_set | exact one_boxes))); (case hm => (repeat (first | exact List.mem_cons_self | refine List.mem_cons_of_mem _ ?_))); (case hv => (first | assumption | exact tcs5_at _ (by assumption) | exact ints_at (by assumption) | exact cb_lo _ (by assumption) (by assumption) | exact cb_hi _ (by assumption) (by assumption) | exact fcs_at _ (by assumption) | exact tops_get (by assumption) | exact bcs_lo _ (by assumption) | exact bcs_hi _ (by assumption) | rfl))) | (refine' ld_row ?ht (hO.roRangeG ?hm ?hv) ?hs; (case ht => (with_reducible (first | exact row_Box | exact row_Range | exact row_Header | exact row_Five | exact row_Tape | exact row_Prefix | exact row_Truths | exact row_Packet | exact row_Group))); (case hm => (repeat (first | exact List.mem_cons_self | refine List.mem_cons_of_mem _ ?_))); (case hv => (first | assumption | exact tk_rg _ (by assumption) | exact tk_box _ (by assumption) | exact tk_all _)); (case hs => rfl)) | (refine' ld_one ?ht (hO.roCellG ?hm ?hv); (case ht => (with_reducible (first | exact one_u32 | exact one_int | exact one_u16 | exact one_u8 | exact one_ints | exact one_bool | exact one_bytes | exact one_u64 | exact one_set | exact one_boxes))); (case hm => (repeat (first | exact List.mem_cons_self | refine List.mem_cons_of_mem _ ?_))); (case hv => (first | assumption | exact tcs5_at _ (by assumption) | exact ints_at (by assumption) | exact cb_lo _ (by assumption) (by assumption) | exact cb_hi _ (by assumption) (by assumption) | exact fcs_at _ (by assumption) | exact tops_get (by assumption) | exact bcs_lo _ (by assumption) | exact bcs_hi _ (by assumption) | rfl))) | (refine' ld_row ?ht (hO.roRange3 ?hm ?hv) ?hs; (case ht => (with_reducible (first | exact row_Box | exact row_Range | exact row_Header | exact row_Five | exact row_Tape | exact row_Prefix | exact row_Truths | exact row_Packet | exact row_Group))); (case hm => (repeat (first | exact List.mem_cons_self | refine List.mem_cons_of_mem _ ?_))); (case hv => (first | assumption | exact tk_rg _ (by assumption) | exact tk_box _ (by assumption) | exact tk_all _)); (case hs => rfl)) | (refine' ld_row ?ht (hO.roRange0 ?hm ?hv) ?hs; (case ht => (with_reducible (first | exact row_Box | exact row_Range | exact row_Header | exact row_Five | exact row_Tape | exact row_Prefix | exact row_Truths | exact row_Packet | exact row_Group))); (case hm => (repeat (first | exact List.mem_cons_self | refine List.mem_cons_of_mem _ ?_))); (case hv => (first | exact tk_boxOne _ | exact tk_box0 _ (by assumption))); (case hs => rfl)) | (refine' ld_one ?ht (hO.roCell3 ?hm ?hv); (case ht => (with_reducible (first | exact one_u32 | exact one_int | exact one_u16 | exact one_u8 | exact one_ints | exact one_bool | exact one_bytes | exact one_u64 | exact one_set | exact one_boxes))); (case hm => (repeat (first | exact List.mem_cons_self | refine List.mem_cons_of_mem _ ?_))); (case hv => (first | assumption | exact tcs5_at _ (by assumption) | exact ints_at (by assumption) | exact cb_lo _ (by assumption) (by assumption) | exact cb_hi _ (by assumption) (by assumption) | exact fcs_at _ (by assumption) | exact tops_get (by assumption) | exact bcs_lo _ (by assumption) | exact bcs_hi _ (by assumption) | rfl))) | (refine' ld_one ?ht (hO.roCell4 ?hm ?hv); (case ht => (with_reducible (first | exact one_u32 | exact one_int | exact one_u16 | exact one_u8 | exact one_ints | exact one_bool | exact one_bytes | exact one_u64 | exact one_set | exact one_boxes))); (case hm => (repeat (first | exact List.mem_cons_self | refine List.mem_cons_of_mem _ ?_))); (case hv => (first | assumption | exact tcs5_at _ (by assumption) | exact ints_at (by assumption) | exact cb_lo _ (by assumption) (by assumption) | exact cb_hi _ (by assumption) (by assumption) | exact fcs_at _ (by assumption) | exact tops_get (by assumption) | exact bcs_lo _ (by assumption) | exact bcs_hi _ (by assumption) | rfl))) | (refine' ld_row ?ht (hO.rowRange ?hm ?hv) ?hs; (case ht => (with_reducible (first | exact row_Box | exact row_Range | exact row_Header | exact row_Five | exact row_Tape | exact row_Prefix | exact row_Truths | exact row_Packet | exact row_Group))); (case hm => (repeat (first | exact List.mem_cons_self | refine List.mem_cons_of_mem _ ?_))); (case hv => (first | assumption | exact tk_rg _ (by assumption) | exact tk_box _ (by assumption) | exact tk_all _)); (case hs => rfl)) | (refine' ld_one ?ht (hO.rowCell ?hm ?hv); (case ht => (with_reducible (first | exact one_u32 | exact one_int | exact one_u16 | exact one_u8 | exact one_ints | exact one_bool | exact one_bytes | exact one_u64 | exact one_set | exact one_boxes))); (case hm => (repeat (first | exact List.mem_cons_self | refine List.mem_cons_of_mem _ ?_))); (case hv => (first | assumption | exact tcs5_at _ (by assumption) | exact ints_at (by assumption) | exact cb_lo _ (by assumption) (by assumption) | exact cb_hi _ (by assumption) (by assumption) | exact fcs_at _ (by assumption) | exact tops_get (by assumption) | exact bcs_lo _ (by assumption) | exact bcs_hi _ (by assumption) | rfl))))))
    (h : K (a.put o.dst v)) : o.quiet P a (Own M w0 X R S) K := q_val _ (fun _ hO => rx_ld ho hx (hl _ hO)) h
theorem own_stR (hO : Own M w0 X R S w) (hw : Region.wanted o (yielded ops a.tmps) = true := by rfl) {t : TypeId} {x y : Operand} (ho : o.op = .store t x y := by rfl) {n off s : Nat} (hx : a.eval x = .pointer (some ⟨n, off, none⟩) := by rfl)
    {vs : List Value} (hy : a.eval y = .agg vs.toArray := by rfl) (ht : RowT P t s := by (with_reducible (first | exact row_Box | exact row_Range | exact row_Header | exact row_Five | exact row_Tape | exact row_Prefix | exact row_Truths | exact row_Packet | exact row_Group))) (hs : vs.length = s := by rfl) {cs cs2 : List Value} {t' : TypeId} (hu : Upd X ⟨n, cs, t'⟩ ⟨n, cs2, t'⟩ X' := by (repeat (first | exact Upd.here | apply Upd.there))) (hn : putAt cs off vs = cs2 := by (first | exact bput_rg (by assumption) | exact putAt_all _ _ rfl | rfl)) (hl : off + s ≤ cs.length := by (first | (simp; done) | (show _ < 10; omega) | (show _ < 5; omega) | (show _ ≤ 10; omega) | omega)) (h1 : vs.all (·.oneCell') = true := by rfl)
    (h : ∀ w', Own M w0 X' R S w' → wpList P ops Q rest (a.put o.dst undef) w') : wpList P ops Q (o :: rest) a w := by
  subst hn
  exact own_store hO hw ho hx hy ht hs hu hl h1 h
theorem own_st1 (hO : Own M w0 X R S w) (hw : Region.wanted o (yielded ops a.tmps) = true := by rfl) {t : TypeId} {x y : Operand} (ho : o.op = .store t x y := by rfl) {n off : Nat} (hx : a.eval x = .pointer (some ⟨n, off, none⟩) := by rfl)
    {v : Value} (hy : a.eval y = v := by (first | exact (rfl : _ = Value.int _ _) | exact (rfl : _ = Value.bool _) | exact (rfl : _ = Value.slice _ _ _) | exact (rfl : _ = Value.pointer _) | exact (rfl : _ = Value.string _))) (ht : OneT P t := by (with_reducible (first | exact one_u32 | exact one_int | exact one_u16 | exact one_u8 | exact one_ints | exact one_bool | exact one_bytes | exact one_u64 | exact one_set | exact one_boxes))) {cs cs2 : List Value} {t' : TypeId} (hu : Upd X ⟨n, cs, t'⟩ ⟨n, cs2, t'⟩ X' := by (repeat (first | exact Upd.here | apply Upd.there))) (hn : cs.set off v = cs2 := by (first | exact bset_lo (by assumption) | exact bset_hi (by assumption) | exact fset (by assumption) | exact tset (by assumption) | (simp only [List.set_cons_zero, List.set_cons_succ]; done) | rfl)) (hl : off < cs.length := by (first | (simp; done) | (show _ < 10; omega) | (show _ < 5; omega) | (show _ ≤ 10; omega) | omega)) (h1 : v.oneCell' = true := by rfl)
    (h : ∀ w', Own M w0 X' R S w' → wpList P ops Q rest (a.put o.dst undef) w') : wpList P ops Q (o :: rest) a w := by
  subst hn
  exact own_store1 hO hw ho hx hy ht hu hl h1 h
theorem own_al (hO : Own M w0 X R S w) (hw : Region.wanted o (yielded ops a.tmps) = true := by rfl) {t : TypeId} (ho : o.op = .alloc t := by rfl) {cs : List Value} (hz : ZeroT P t cs := by (with_reducible (first | exact zero_Group | exact zero_Truths | exact zero_Packet | exact zero_Set | exact zero_Prefix | exact zero_Box | exact zero_Range | exact zero_Five | exact zero_Header)))
    (h : ∀ n w', Own M w0 (⟨n, cs, t⟩ :: X) R S w' → wpList P ops Q rest (a.put o.dst (.pointer (some ⟨n, 0, none⟩))) w') : wpList P ops Q (o :: rest) a w := own_alloc hO hw ho hz h
theorem own_bx (hO : Own M w0 X R S w) (hw : Region.wanted o (yielded ops a.tmps) = true := by rfl) {t : TypeId} {x : Operand} (ho : o.op = .box t x := by rfl) {cs : List Value} (hx : (a.eval x).cells = cs.toArray := by rfl)
    (h : ∀ n w', Own M w0 (⟨n, cs, t⟩ :: X) R S w' → wpList P ops Q rest (a.put o.dst (.pointer (some ⟨n, 0, none⟩))) w') : wpList P ops Q (o :: rest) a w := own_box hO hw ho hx h
theorem own_ap (hO : Own M w0 X R S w) (hgd : o.guard = none := by rfl) {s x : Operand} {t e : TypeId} (ho : o.op = .call { callee := .builtin .append, args := #[s, x], argTypes := #[t, t] } := by rfl) {size bytes : Nat} (ht : SliceT P t e size bytes := by (with_reducible (first | exact slice_Boxes | exact slice_Set | exact slice_u8 | exact slice_u64 | exact slice_Groups | exact slice_Ranges)))
    {v : Value} (hs : a.eval s = v := by rfl) {b m c : Nat} (hx : a.eval x = .slice (some ⟨b, 0, none⟩) m c := by rfl) {news : List Value} {t' : TypeId} (hm : (⟨b, news, t'⟩ : Chunk) ∈ X := by (repeat (first | exact List.mem_cons_self | refine List.mem_cons_of_mem _ ?_))) (hl : news.length = m * size := by rfl) (hm0 : 0 < m := by omega) (h1 : news.all (·.oneCell') = true := by rfl)
    {k : Nat} {xs : List Value} {R1 : Nat → Nat → List Row} (hu : ∀ g cap, UpdR R ⟨v, k, xs, e, size⟩ ⟨.slice (some ⟨g, 0, none⟩) (k + m) cap, k + m, xs ++ news, e, size⟩ (R1 g cap) := by (intro _ _; (repeat (first | exact UpdR.here | apply UpdR.there)))) (hbytes : (k + m) * bytes ≤ 140737488355328 := by (first | omega | (simp; omega))) (hk : k + m ≤ maxLen := by (unfold maxLen; (first | omega | (simp; omega))))
    (h : ∀ g cap w', Own M w0 X (R1 g cap) S w' → wpList P ops Q rest (a.put o.dst (.slice (some ⟨g, 0, none⟩) (k + m) cap)) w') : wpList P ops Q (o :: rest) a w :=
  own_append hO hgd ho ht hs hx hm hl hm0 h1 hu hbytes hk h
end
end Go.Proofs.YtfhkmkbfgmbbaaaGreatDoor

/- Contracts of the package box (first part): Top, values, header, Full, Of, Value, With. -/
namespace Go.Proofs.YtfhkmkbfgmbbaaaGreatDoor
open Go.RowKit

def fullBx : Bx := Bx.of fun k => ⟨0, topOf k⟩
def Hd.of (p : Nat → Int) : Hd := ⟨p 0, p 1, p 2, p 3, p 4⟩

def Hd.set (h : Hd) (k : Nat) (v : Int) : Hd := Hd.of fun i => if i = k then v else h.at i
end Go.Proofs.YtfhkmkbfgmbbaaaGreatDoor

/- Contracts of the package box (second part): Valid, Contains, Subset, Intersect. -/
namespace Go.Proofs.YtfhkmkbfgmbbaaaGreatDoor
open Go.RowKit

def vldTo (b : Bx) (k : Nat) : Prop := ∀ i, i < k → (b.at i).lo ≤ (b.at i).hi ∧ (b.at i).hi ≤ topOf i
instance (b : Bx) (k : Nat) : Decidable (vldTo b k) := inferInstanceAs (Decidable (∀ i, i < k → _))
def vld (b : Bx) : Bool := decide (vldTo b 5)
theorem ret_bool {a b : Bool} (h : a = b) : Ending.returned (.bool a) = .returned (.bool b) := by rw [h]
theorem ret_int {k : IntKind} {a b : Int} (h : a = b) : Ending.returned (.int k a) = .returned (.int k b) := by rw [h]

def inTo (b : Bx) (h : Hd) (k : Nat) : Prop := ∀ i, i < k → (b.at i).lo ≤ h.at i ∧ h.at i ≤ (b.at i).hi
instance (b : Bx) (h : Hd) (k : Nat) : Decidable (inTo b h k) := inferInstanceAs (Decidable (∀ i, i < k → _))
def subTo (a b : Bx) (k : Nat) : Prop := ∀ i, i < k → (b.at i).lo ≤ (a.at i).lo ∧ (a.at i).hi ≤ (b.at i).hi
instance (a b : Bx) (k : Nat) : Decidable (subTo a b k) := inferInstanceAs (Decidable (∀ i, i < k → _))
end Go.Proofs.YtfhkmkbfgmbbaaaGreatDoor

/- Contracts of the package box (third part): Intersect, Subtract. -/
namespace Go.Proofs.YtfhkmkbfgmbbaaaGreatDoor
open Go.RowKit
set_option maxRecDepth 100000

/-- the cells of a list of boxes -/
def cellsB : List Bx → List Value
  | [] => []
  | b :: l => bcs b ++ cellsB l
theorem cellsB_one (b : Bx) : cellsB [b] = bcs b := by simp [cellsB]
/-- a slice that reads as a list of boxes -/
def IsBoxes (w : World) (v : Value) (l : List Bx) : Prop :=
  (v = .slice none 0 0 ∧ l = []) ∨ ∃ g o c, v = .slice (some ⟨g, o, none⟩) l.length c ∧ l.length ≤ c ∧ w.rangeAt g o (cellsB l)
def Bx.ok (b : Bx) : Prop := ∀ k, k < 5 → (0 ≤ (b.at k).lo ∧ (b.at k).lo ≤ 4294967295) ∧ (0 ≤ (b.at k).hi ∧ (b.at k).hi ≤ 4294967295)
/-- new: no block of the old world -/
def NewFrom (w : World) (v : Value) : Prop := ∀ g, v.ownBlock = some g → w.heap.size ≤ g
theorem own_new {w0 w : World} {X : List Chunk} {R : List Row} {S : List Ro} (hO : Own [] w0 X R S w) {v : Value} {k e size : Nat} {xs : List Value} (hm : (⟨v, k, xs, e, size⟩ : Row) ∈ R) : NewFrom w0 v := fun g hg => by
  have := hO.free g (List.mem_append.2 (.inr (List.mem_filterMap.2 ⟨_, hm, hg⟩)))
  simpa using this
theorem own_newC {w0 w : World} {X : List Chunk} {R : List Row} {S : List Ro} (hO : Own [] w0 X R S w) {n l c : Nat} {cs : List Value} {t : TypeId} (hm : (⟨n, cs, t⟩ : Chunk) ∈ X) : NewFrom w0 (.slice (some ⟨n, 0, none⟩) l c) := fun g hg => by
  have := hO.free n (List.mem_append.2 (.inl (List.mem_map.2 ⟨_, hm, rfl⟩)))
  cases hg
  simpa using this

end Go.Proofs.YtfhkmkbfgmbbaaaGreatDoor

/- Comparing ranges, boxes and headers with ==. -/
namespace Go.Proofs.YtfhkmkbfgmbbaaaGreatDoor
open Go.RowKit
set_option maxRecDepth 100000

section
variable (w : World)
theorem stoodR : (Tryz.prog).stoodInHeld 46 = false := by kernel_rfl
theorem fieldsR : (Tryz.prog).underlying 46 = some (.struct ((Tryz.prog).fieldsOf 46)) := by kernel_rfl
theorem eq_rg (d : Nat) (r s : Rg) : (Op.equalIn (d + 1 + 1) 46 (.agg #[.int .u32 r.lo, .int .u32 r.hi]) (.agg #[.int .u32 s.lo, .int .u32 s.hi])).run Tryz.prog w = .ok (decide (r = s)) w := by
  rw [run_equalIn_struct w (d + 1) _ _ _ fieldsR stoodR]
  obtain ⟨a, b⟩ := r
  obtain ⟨c, e⟩ := s
  by_cases h1 : a = c <;> by_cases h2 : b = e <;> simp [go_sem, Tryz.underlying46, Tryz.underlying28, h1, h2]
theorem run_eql_rg (r s : Rg) : (binOp .eql 46 (.agg #[.int .u32 r.lo, .int .u32 r.hi]) (.agg #[.int .u32 s.lo, .int .u32 s.hi])).run Tryz.prog w = .ok (.bool (decide (r = s))) w := by
  rw [run_eql_struct]
  rw [show (10000 : Nat) = 9998 + 1 + 1 from rfl, eq_rg, Result.andThen_ok]
theorem guard_rg (op : BinOp) (x y : Operand) (u v : Array Value) : (eqGuard op 46 x y (.agg u) (.agg v)).run Tryz.prog w = .ok () w := run_eqGuard_agg w op _ x y u v (by kernel_rfl)
end
attribute [go_sem high] run_eql_rg guard_rg
end Go.Proofs.YtfhkmkbfgmbbaaaGreatDoor

/- Contracts of the package box (fourth part): Hull, Compare; cmp. -/
namespace Go.Proofs.YtfhkmkbfgmbbaaaGreatDoor
open Go.RowKit
set_option maxRecDepth 100000

/-- the rows that a slice that came in gives to read -/
def roS (v : Value) (cs : List Value) : List Ro := match v with | .slice (some a) _ _ => [⟨a.block, a.off, cs⟩] | _ => []
theorem IsBoxes.view {w : World} {v : Value} {l : List Bx} (h : IsBoxes w v l) : ∃ a c, v = .slice a l.length c ∧ (0 < l.length → ∃ g o, a = some ⟨g, o, none⟩) := by
  rcases h with ⟨rfl, rfl⟩ | ⟨g, o, c, rfl, _, _⟩
  · exact ⟨none, 0, rfl, fun h => by simp at h⟩
  · exact ⟨some ⟨g, o, none⟩, c, rfl, fun _ => ⟨g, o, rfl⟩⟩
theorem tk_box (l : List Bx) {k : Nat} (h : k < l.length) : List.take (bcs l[k]).length (List.drop (k * 10) (cellsB l)) = bcs l[k] := by
  induction l generalizing k with
  | nil => simp at h
  | cons b l ih =>
    cases k with
    | zero =>
      simp only [List.getElem_cons_zero, Nat.zero_mul, List.drop_zero, cellsB]
      exact List.take_left' rfl
    | succ k =>
      have := ih (k := k) (by simpa using h)
      simp only [List.getElem_cons_succ, cellsB]
      rw [show (k + 1) * 10 = (bcs b).length + k * 10 by rw [bcs_length]; omega, List.drop_append, List.drop_of_length_le (by omega), List.nil_append, Nat.add_sub_cancel_left]
      exact this

/-! ### the order -/
def cmpI (x y : Int) : Int := if x < y then -1 else if y < x then 1 else 0
theorem isNaN_any (x : Int) (w : World) : Calls Tryz.prog 81 #[.int .u32 x] w fun e w' => e = .returned (.bool false) ∧ w = w' := by
  go_enter Tryz.func81, Tryz.ntmps81
  go_wp2
  go_ret
  exact ⟨ret_bool (by simp), rfl⟩
theorem compare_u32 (x y : Int) (w : World) : Calls Tryz.prog 60 #[.int .u32 x, .int .u32 y] w fun e w' => e = .returned (.int .i64 (cmpI x y)) ∧ w = w' := by
  by_cases h1 : x < y
  · have E := Lib.hid (show cmpI x y = -1 by unfold cmpI; rw [if_pos h1])
    go_enter Tryz.func60, Tryz.ntmps60
    go_wp2_with (go_at_call 81; refine (isNaN_any _ _).mono ?_; rintro e _ ⟨rfl, rfl⟩)
    go_ret
    exact ⟨by rw [E.out]; rfl, rfl⟩
  · by_cases h2 : y < x
    · have E := Lib.hid (show cmpI x y = 1 by unfold cmpI; rw [if_neg h1, if_pos h2])
      go_enter Tryz.func60, Tryz.ntmps60
      go_wp2_with (go_at_call 81; refine (isNaN_any _ _).mono ?_; rintro e _ ⟨rfl, rfl⟩)
      go_ret
      exact ⟨by rw [E.out]; rfl, rfl⟩
    · have E := Lib.hid (show cmpI x y = 0 by unfold cmpI; rw [if_neg h1, if_neg h2])
      go_enter Tryz.func60, Tryz.ntmps60
      go_wp2_with (go_at_call 81; refine (isNaN_any _ _).mono ?_; rintro e _ ⟨rfl, rfl⟩)
      go_ret
      exact ⟨by rw [E.out]; rfl, rfl⟩
end Go.Proofs.YtfhkmkbfgmbbaaaGreatDoor

/- Regions that draw their order: the first operations in any order, each of them plain (one value in every world of a class) or loose (a value of which a fact is laid down ahead), the rest in their one order. For any program. -/
namespace Go.Proofs.YtfhkmkbfgmbbaaaGreatDoor
open Go.RowKit

/-- a fact on a slot's value, in a world -/
abbrev Fact := Value → World → Prop
abbrev Facts := List (Tmp × Fact)
def Facts.at (T : Facts) (d : Tmp) : Option Fact := (T.find? fun p => p.1 == d).map (·.2)
/-- one slot more -/
def insF (d : Tmp) (F : Tmp → Prop) : Tmp → Prop := fun s => s = d ∨ F s
def looseUpon (P : Program) (C : World → Prop) (M : List Nat) (Φ : Fact) (w : World) : Result Next → Prop
  | .ok (.value u) w' => Keep M w w' ∧ C w' ∧ Φ u w'
  | .ok (.enter f args) w' => w' = w ∧ Calls P f args w fun e w3 => ∃ v, e = .returned v ∧ Keep M w w3 ∧ C w3 ∧ Φ v w3
  | _ => False

section
variable (P : Program) (ops : Array Oper) (C : World → Prop) (M : List Nat) (T : Facts)

def Inv (F : Tmp → Prop) (a : Act) (w : World) : Prop := C w ∧ ∀ s, F s → ∀ Φ, T.at s = some Φ → Φ (a.eval (.tmp s)) w
end

section
variable {P : Program} {ops : Array Oper} {C : World → Prop} {M : List Nat} {T : Facts} {md : Region.Mode}

/-- each operation has a slot of its own -/
def dstsB (ops : Array Oper) : Bool := (List.range ops.size).all fun i => (List.range ops.size).all fun j => i == j || match ops[i]?, ops[j]? with
  | some x, some y => (match x.dst with | some d => y.dst != some d | none => true)
  | _, _ => true
theorem dstsB_spec (h : dstsB ops = true) {i j : Nat} {x y : Oper} (hi : ops[i]? = some x) (hj : ops[j]? = some y) (hij : i ≠ j) {d : Tmp} (hd : x.dst = some d) : y.dst ≠ some d := by
  have h1 := List.all_eq_true.1 h i (List.mem_range.2 (Array.getElem?_eq_some_iff.1 hi).1)
  have h2 := List.all_eq_true.1 h1 j (List.mem_range.2 (Array.getElem?_eq_some_iff.1 hj).1)
  simp only [hi, hj, hd, Bool.or_eq_true, beq_iff_eq, hij, false_or, bne_iff_ne, ne_eq] at h2
  exact h2

theorem eval_put_ne' (a : Act) {o : Option Tmp} {s : Tmp} (v : Value) (h : o ≠ some s) : (a.put o v).eval (.tmp s) = a.eval (.tmp s) :=
  Act.eval_put fun e he hx => by cases he; cases hx; exact h rfl

def Alive (C : World → Prop) (T : Facts) (F : Tmp → Prop) (a : Act) : Prop := ∃ w, Inv C T F a w

section
variable {F : Tmp → Prop} {o : Oper} {a : Act} {x : Option Tmp} {u : Value}
theorem Alive.put (h : Alive C T F a) (hx : ∀ d, x = some d → ¬ F d) : Alive C T F (a.put x u) := by
  obtain ⟨w, h1, h2⟩ := h
  exact ⟨w, h1, fun s hs Φ hΦ => by rw [eval_put_ne' a u (fun e => hx s e hs)]; exact h2 s hs Φ hΦ⟩
theorem Alive.less {d : Tmp} (h : Alive C T (insF d F) a) : Alive C T F a := by
  obtain ⟨w, h1, h2⟩ := h
  exact ⟨w, h1, fun s hs => h2 s (.inr hs)⟩
end

/-- the slots of what has not come up yet bear no fact -/
def Fresh (ops : Array Oper) (listed : Array Bool) (F : Tmp → Prop) : Prop := ∀ k ok d, ops[k]? = some ok → listed.getD k true = false → ok.dst = some d → ¬ F d
theorem Fresh.set {listed : Array Bool} {F F' : Tmp → Prop} (hB : dstsB ops = true) {j : Nat} {oj : Oper} (hj : ops[j]? = some oj) (h : Fresh ops listed F) (hF : F' = F ∨ ∃ d, oj.dst = some d ∧ F' = insF d F) :
    Fresh ops (listed.setIfInBounds j true) F' := by
  intro k ok d hk hl hd
  have hne : j ≠ k := by
    intro e; subst e
    rcases Nat.lt_or_ge j listed.size with h' | h'
    · simp [h'] at hl
    · simp at hl
  rw [getD_set_ne true hne] at hl
  have h1 := h k ok d hk hl hd
  rcases hF with rfl | ⟨e, he, rfl⟩
  · exact h1
  · intro hh
    rcases hh with rfl | hh
    · exact dstsB_spec hB hj hk hne he hd
    · exact h1 hh
end
end Go.Proofs.YtfhkmkbfgmbbaaaGreatDoor

/- The steps of a loose walk. For any program. -/
namespace Go.Proofs.YtfhkmkbfgmbbaaaGreatDoor
open Go.RowKit

/-- operations that never enter a function -/
def noEnterB : Op → Bool
  | .move _ | .assign _ | .pick _ _ _ | .load _ _ | .fieldAddr _ _ _ | .field _ _ _ | .indexAddr _ _ _ | .index _ _ _ | .binOp _ _ _ _ _ | .unOp _ _ _ | .convert _ _ _ | .build _ _ | .extract _ _ | .slice _ _ _ _ _ => true
  | .call c => match c.callee with
    | .builtin .len => true
    | .builtin .min => true
    | .builtin .max => true
    | _ => false
  | _ => false
theorem val_noEnter {P : Program} {w w' : World} {s : Sem Value} {f : FuncId} {args : Array Value} : (s >>= fun x => pure (Next.value x) : Sem Next).run P w ≠ .ok (.enter f args) w' := by
  simp only [Sem.run_bind]
  cases s.run P w with
  | halt x w' => intro h; cases h
  | ok v w' => simp only [Result.andThen_ok, Sem.run_pure]; intro h; cases h
theorem val_noEnter' {r : Result Value} {w' : World} {f : FuncId} {args : Array Value} : (r.andThen fun a w => Result.ok (Next.value a) w) ≠ .ok (.enter f args) w' := by
  cases r with
  | halt x w' => intro h; cases h
  | ok v w' => simp only [Result.andThen_ok]; intro h; cases h
theorem noEnter {P : Program} {ρ : Operand → Value} {o : Oper} (h : noEnterB o.op = true) (w w' : World) (f : FuncId) (args : Array Value) : (execOp ρ o).run P w ≠ .ok (.enter f args) w' := by
  unfold execOp
  cases ho : o.op <;> rw [ho] at h <;> simp only [noEnterB, Bool.false_eq_true] at h <;> first
    | exact val_noEnter
    | (simp only [Sem.run_pure]; intro h; cases h; done)
    | (simp only [Sem.run_bind]; generalize (asBool _).run P w = r; cases r <;> simp [Result.andThen_ok]; done)
    | skip
  case call c =>
    cases hc : c.callee with
    | builtin b =>
      rw [hc] at h
      cases b <;> first
        | exact absurd h (by decide)
        | (unfold resolve; simp only [hc, Sem.run_bind, Sem.run_pure, Result.andThen_ok, invoke, builtin]; exact val_noEnter')
    | value f => rw [hc] at h; exact absurd h (by simp)
    | invoke r n => rw [hc] at h; exact absurd h (by simp)

section
variable {P : Program} {ops : Array Oper} {C D : World → Prop} {M : List Nat} {T : Facts} {Q : (Tmp → Prop) → Act → Prop} {F : Tmp → Prop} {a : Act} {o : Oper} {rest : List Oper}
@[go_sem] theorem looseUpon_enter {Φ : Fact} {w w' : World} {f : FuncId} {args : Array Value} : looseUpon P C M Φ w (.ok (.enter f args) w') ↔ (w' = w ∧ Calls P f args w fun e w3 => ∃ v, e = .returned v ∧ Keep M w w3 ∧ C w3 ∧ Φ v w3) := Iff.rfl
@[go_sem] theorem looseUpon_value {Φ : Fact} {w w' : World} {u : Value} : looseUpon P C M Φ w (.ok (.value u) w') ↔ (Keep M w w' ∧ C w' ∧ Φ u w') := Iff.rfl

theorem wpList_done {Q : Exit → Act → World → Prop} {w : World} (h : Q .normal a w) : wpList P ops Q [] a w := h
end
section
variable {P : Program} {M : List Nat} {w0 w : World} {X : List Chunk} {R : List Row} {S : List Ro} {Q : Exit → Act → World → Prop} {a : Act}
end
end Go.Proofs.YtfhkmkbfgmbbaaaGreatDoor
