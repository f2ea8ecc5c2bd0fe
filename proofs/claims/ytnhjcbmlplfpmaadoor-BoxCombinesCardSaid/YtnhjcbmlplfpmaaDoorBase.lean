/- Plain data of the packages api and box, and small laws on blocks of memory. No program in sight. -/
import Derived.Test.YtnhjcbmlplfpmaaDoorRows
import Derived.WalkKit
import Derived.WalkSpells
import Derived.WalkLawsBesides
import Derived.Lib.Hide
namespace Go.Proofs.YtnhjcbmlplfpmaaDoor
open Go.RowKit

/-- a range -/
structure Rg where
  lo : Int
  hi : Int
  deriving DecidableEq
/-- a box: its five ranges -/
structure Bx where
  r0 : Rg
  r1 : Rg
  r2 : Rg
  r3 : Rg
  r4 : Rg
  deriving DecidableEq
def Bx.at (b : Bx) : Nat → Rg
  | 0 => b.r0 | 1 => b.r1 | 2 => b.r2 | 3 => b.r3 | _ => b.r4
def Bx.of (f : Nat → Rg) : Bx := ⟨f 0, f 1, f 2, f 3, f 4⟩
def Bx.set (b : Bx) (k : Nat) (r : Rg) : Bx := Bx.of fun i => if i = k then r else b.at i
def topOf : Nat → Int
  | 0 => 4294967295 | 1 => 4294967295 | 2 => 255 | 3 => 65535 | _ => 65535

theorem five {k : Nat} (h : k < 5) : k = 0 ∨ k = 1 ∨ k = 2 ∨ k = 3 ∨ k = 4 := by omega
theorem Bx.at_of (f : Nat → Rg) {k : Nat} (h : k < 5) : (Bx.of f).at k = f k := by
  rcases five h with rfl | rfl | rfl | rfl | rfl <;> rfl
theorem Bx.of_at (b : Bx) : Bx.of b.at = b := rfl
theorem Bx.of_congr {f g : Nat → Rg} (h : ∀ k, k < 5 → f k = g k) : Bx.of f = Bx.of g := by
  simp [Bx.of, h 0, h 1, h 2, h 3, h 4]
theorem Bx.ext_at {a b : Bx} (h : ∀ k, k < 5 → a.at k = b.at k) : a = b := by
  rw [← Bx.of_at a, ← Bx.of_at b]; exact Bx.of_congr h
theorem Bx.at_set (b : Bx) (k : Nat) (r : Rg) {i : Nat} (h : i < 5) : (b.set k r).at i = if i = k then r else b.at i := Bx.at_of _ h

/-- the ten cells of a box -/
def bcs (b : Bx) : List Value := [.int .u32 b.r0.lo, .int .u32 b.r0.hi, .int .u32 b.r1.lo, .int .u32 b.r1.hi, .int .u32 b.r2.lo, .int .u32 b.r2.hi, .int .u32 b.r3.lo, .int .u32 b.r3.hi, .int .u32 b.r4.lo, .int .u32 b.r4.hi]
abbrev bv (b : Bx) : Value := .agg (bcs b).toArray
theorem bcs_length (b : Bx) : (bcs b).length = 10 := rfl
theorem bcs_lo (b : Bx) {k : Nat} (h : k < 5) : (bcs b)[k * 2]? = some (.int .u32 (b.at k).lo) := by
  rcases five h with rfl | rfl | rfl | rfl | rfl <;> rfl
theorem bcs_hi (b : Bx) {k : Nat} (h : k < 5) : (bcs b)[k * 2 + 1]? = some (.int .u32 (b.at k).hi) := by
  rcases five h with rfl | rfl | rfl | rfl | rfl <;> rfl
theorem bset_lo {b : Bx} {k : Nat} (h : k < 5) {l : Int} : (bcs b).set (k * 2) (.int .u32 l) = bcs (b.set k ⟨l, (b.at k).hi⟩) := by
  rcases five h with rfl | rfl | rfl | rfl | rfl <;> rfl
theorem bset_hi {b : Bx} {k : Nat} (h : k < 5) {u : Int} : (bcs b).set (k * 2 + 1) (.int .u32 u) = bcs (b.set k ⟨(b.at k).lo, u⟩) := by
  rcases five h with rfl | rfl | rfl | rfl | rfl <;> rfl
theorem bcs_set (b : Bx) {k : Nat} (h : k < 5) (l u : Int) : ((bcs b).toArray.setIfInBounds (k * 2) (.int .u32 l)).setIfInBounds (k * 2 + 1) (.int .u32 u) = (bcs (b.set k ⟨l, u⟩)).toArray := by
  rcases five h with rfl | rfl | rfl | rfl | rfl <;> rfl
theorem bcs_setLo (b : Bx) {k : Nat} (h : k < 5) (l : Int) : (bcs b).toArray.setIfInBounds (k * 2) (.int .u32 l) = (bcs (b.set k ⟨l, (b.at k).hi⟩)).toArray := by
  rcases five h with rfl | rfl | rfl | rfl | rfl <;> rfl
theorem bcs_setHi (b : Bx) {k : Nat} (h : k < 5) (u : Int) : (bcs b).toArray.setIfInBounds (k * 2 + 1) (.int .u32 u) = (bcs (b.set k ⟨(b.at k).lo, u⟩)).toArray := by
  rcases five h with rfl | rfl | rfl | rfl | rfl <;> rfl

/-- a header -/
structure Hd where
  src : Int
  dst : Int
  proto : Int
  sport : Int
  dport : Int
  deriving DecidableEq
abbrev hv (h : Hd) : Value := .agg #[.int .u32 h.src, .int .u32 h.dst, .int .u8 h.proto, .int .u16 h.sport, .int .u16 h.dport]
def Hd.at (h : Hd) : Nat → Int
  | 0 => h.src | 1 => h.dst | 2 => h.proto | 3 => h.sport | _ => h.dport
def Hd.ok (h : Hd) : Prop := (0 ≤ h.src ∧ h.src ≤ 4294967295) ∧ (0 ≤ h.dst ∧ h.dst ≤ 4294967295) ∧ (0 ≤ h.proto ∧ h.proto ≤ 255) ∧ (0 ≤ h.sport ∧ h.sport ≤ 65535) ∧ (0 ≤ h.dport ∧ h.dport ≤ 65535)

/-- block n holds these cells -/
def Blk (w : World) (n : Nat) (cs : List Value) (t : TypeId) : Prop := w.heap[n]? = some (.cells cs.toArray t (0, 0))
theorem Blk.lt {w : World} {n : Nat} {cs : List Value} {t : TypeId} (h : Blk w n cs t) : n < w.heap.size := by
  rcases Nat.lt_or_ge n w.heap.size with h' | h'
  · exact h'
  · unfold Blk at h; rw [Array.getElem?_eq_none h'] at h; cases h
theorem Blk.cell {w : World} {n : Nat} {cs : List Value} {t : TypeId} (h : Blk w n cs t) (o : Nat) : w.cell? ⟨n, o, none⟩ = cs[o]? := by
  rw [cell_of_row w n o cs.toArray t (0, 0) h]; simp
theorem Blk.free {w : World} {n : Nat} {cs : List Value} {t : TypeId} (h : Blk w n cs t) (o : Nat) : w.frozen? ⟨n, o, none⟩ = false := frozen_of_row w n o _ t h
theorem Blk.alloc {w : World} {n : Nat} {cs : List Value} {t : TypeId} (h : Blk w n cs t) (o : Obj) : Blk (w.alloc o) n cs t := by
  unfold Blk; rw [Below.heap_alloc w o n h.lt]; exact h
theorem Blk.drew {w : World} {n : Nat} {cs : List Value} {t : TypeId} (h : Blk w n cs t) : Blk w.drew n cs t := h
theorem Blk.drewN {w : World} {n : Nat} {cs : List Value} {t : TypeId} (h : Blk w n cs t) (k : Nat) : Blk (w.drewN k) n cs t := h
theorem Blk.far {w : World} {n : Nat} {cs : List Value} {t : TypeId} (h : Blk w n cs t) {p : Addr} (hp : n ≠ p.block) (v : Value) : Blk (w.setCell p v) n cs t := by
  unfold Blk; rw [heap_setCell_other w p n v hp]; exact h
theorem Blk.set {w : World} {n : Nat} {cs : List Value} {t : TypeId} (h : Blk w n cs t) (i : Nat) (v : Value) : Blk (w.setCell ⟨n, i, none⟩ v) n (cs.set i v) t := by
  have e := heap_setCell_same w n i cs.toArray t v h
  unfold Blk; rw [e]; simp
theorem Blk.new (w : World) (cs : List Value) (t : TypeId) : Blk (w.alloc (.cells cs.toArray t (0, 0))) w.heap.size cs t := heap_alloc_new w _
theorem blk_new {w : World} {arr : Array Value} {cs : List Value} {t : TypeId} {n : Nat} (h : n = w.heap.size) (hc : arr = cs.toArray) : Blk (w.alloc (.cells arr t (0, 0))) n cs t := by subst h; subst hc; exact Blk.new w cs t
theorem Blk.below {w w' : World} {n B : Nat} {cs : List Value} {t : TypeId} (h : Blk w n cs t) (hb : Below B w w') (hn : n < B) : Blk w' n cs t := by
  unfold Blk; rw [hb.block n hn]; exact h
theorem Blk.grown {w w' : World} {n : Nat} {cs : List Value} {t : TypeId} {row : Option Nat} (h : Blk w n cs t) (hg : w.grownBy w' row) (hn : row ≠ some n) : Blk w' n cs t := by
  unfold Blk; rw [hg.block n h.lt (fun e => hn e.symm)]; exact h
theorem below_drewN {B : Nat} {a w : World} (h : Below B a w) (k : Nat) : Below B a (w.drewN k) := ⟨h.os, h.tape, h.output, h.size, h.block⟩

theorem Blk.lo {w : World} {n : Nat} {b : Bx} {t : TypeId} (h : Blk w n (bcs b) t) {k : Nat} (hk : k < 5) : w.cell? ⟨n, k * 2, none⟩ = some (.int .u32 (b.at k).lo) := (h.cell _).trans (bcs_lo b hk)
theorem Blk.hi {w : World} {n : Nat} {b : Bx} {t : TypeId} (h : Blk w n (bcs b) t) {k : Nat} (hk : k < 5) : w.cell? ⟨n, k * 2 + 1, none⟩ = some (.int .u32 (b.at k).hi) := (h.cell _).trans (bcs_hi b hk)
theorem blk_via {w w1 : World} {n : Nat} {cs : List Value} {t : TypeId} (k : Below w.heap.size w w1) (h : Blk w n cs t) : Blk w1 n cs t := h.below k h.lt
theorem Blk.set2 {w : World} {n : Nat} {b : Bx} {t : TypeId} (h : Blk w n (bcs b) t) {k : Nat} (hk : k < 5) (l u : Int) : Blk ((w.setCell ⟨n, k * 2, none⟩ (.int .u32 l)).setCell ⟨n, k * 2 + 1, none⟩ (.int .u32 u)) n (bcs (b.set k ⟨l, u⟩)) t := by
  have h1 := (h.set (k * 2) (.int .u32 l)).set (k * 2 + 1) (.int .u32 u)
  have e := congrArg Array.toList (bcs_set b hk l u)
  simp at e
  rwa [e] at h1
theorem Blk.setLo {w : World} {n : Nat} {b : Bx} {t : TypeId} (h : Blk w n (bcs b) t) {k : Nat} (hk : k < 5) (l : Int) : Blk (w.setCell ⟨n, k * 2, none⟩ (.int .u32 l)) n (bcs (b.set k ⟨l, (b.at k).hi⟩)) t := by
  have h1 := h.set (k * 2) (.int .u32 l)
  have e := congrArg Array.toList (bcs_setLo b hk l)
  simp at e
  rwa [e] at h1
theorem Blk.setHi {w : World} {n : Nat} {b : Bx} {t : TypeId} (h : Blk w n (bcs b) t) {k : Nat} (hk : k < 5) (u : Int) : Blk (w.setCell ⟨n, k * 2 + 1, none⟩ (.int .u32 u)) n (bcs (b.set k ⟨(b.at k).lo, u⟩)) t := by
  have h1 := h.set (k * 2 + 1) (.int .u32 u)
  have e := congrArg Array.toList (bcs_setHi b hk u)
  simp at e
  rwa [e] at h1
theorem Blk.ten {w : World} {n : Nat} {b : Bx} {t : TypeId} (h : Blk w n (bcs b) t) : w.cell? ⟨n, 0, none⟩ = some (.int .u32 b.r0.lo) ∧ w.cell? ⟨n, 1, none⟩ = some (.int .u32 b.r0.hi) ∧ w.cell? ⟨n, 2, none⟩ = some (.int .u32 b.r1.lo) ∧ w.cell? ⟨n, 3, none⟩ = some (.int .u32 b.r1.hi) ∧ w.cell? ⟨n, 4, none⟩ = some (.int .u32 b.r2.lo) ∧ w.cell? ⟨n, 5, none⟩ = some (.int .u32 b.r2.hi) ∧ w.cell? ⟨n, 6, none⟩ = some (.int .u32 b.r3.lo) ∧ w.cell? ⟨n, 7, none⟩ = some (.int .u32 b.r3.hi) ∧ w.cell? ⟨n, 8, none⟩ = some (.int .u32 b.r4.lo) ∧ w.cell? ⟨n, 9, none⟩ = some (.int .u32 b.r4.hi) :=
  ⟨h.cell 0, h.cell 1, h.cell 2, h.cell 3, h.cell 4, h.cell 5, h.cell 6, h.cell 7, h.cell 8, h.cell 9⟩
/-- behind a callee's contract: old cells and marks read as before -/
theorem bcell {W w1 : World} (hb : Below W.heap.size W w1) : (∀ b o, b < W.heap.size → w1.cell? ⟨b, o, none⟩ = W.cell? ⟨b, o, none⟩) ∧ (∀ b o, b < W.heap.size → w1.frozen? ⟨b, o, none⟩ = W.frozen? ⟨b, o, none⟩) :=
  ⟨fun b o h => hb.cell (p := ⟨b, o, none⟩) h, fun b o h => hb.frozen (p := ⟨b, o, none⟩) h⟩
theorem below_up {B : Nat} {w w1 w2 : World} (h : Below B w w1) (k : Below w1.heap.size w1 w2) (hB : B ≤ w1.heap.size) : Below B w w2 := h.trans (k.mono hB)
theorem below_via {B : Nat} {w w1 w2 : World} (k : Below w1.heap.size w1 w2) (hB : B ≤ w1.heap.size) (h : Below B w w1) : Below B w w2 := h.trans (k.mono hB)

/-- the table of the greatest values lies where it was laid -/
def Tops (w : World) : Prop := ∀ k, k < 5 → w.cell? ⟨0, k, none⟩ = some (.int .u32 (topOf k))
theorem Tops.lt {w : World} (h : Tops w) : 0 < w.heap.size := World.block_lt_of_cell? w _ (h 0 (by omega))
theorem Tops.below {w w' : World} {B : Nat} (h : Tops w) (hb : Below B w w') (hB : 0 < B) : Tops w' := fun k hk => by
  rw [hb.cell (p := ⟨0, k, none⟩) hB]; exact h k hk
end Go.Proofs.YtnhjcbmlplfpmaaDoor
