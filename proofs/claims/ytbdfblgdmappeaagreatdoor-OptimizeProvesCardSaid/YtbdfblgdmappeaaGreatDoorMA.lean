/- Plain data of the packages api and box, and small laws on blocks of memory. No program in sight. -/
import Derived.Test.YtbdfblgdmappeaaGreatDoorRows
import Derived.WalkKit
import Derived.WalkSpells
import Derived.WalkLawsBesides
import Derived.Lib.Hide
import Derived.Handy
import Derived.Deep.MidRow
import Derived.Deep.QuietTactic
import Derived.BigQuiet
import Derived.BigRegion
import Derived.StillTail
import Derived.Deep.AppendLies
import Derived.Great.BuildSlice
import Derived.Great.Walk
import Derived.Great.Ranges
import Derived.Laws.OwnMore
import Derived.Laws.StructEq
namespace Go.Proofs.YtbdfblgdmappeaaGreatDoor
open Go.RowKit
theorem sI9 (l : List Value) (i : Nat) (a : Value) : l.toArray.setIfInBounds i a = (l.set i a).toArray := List.setIfInBounds_toArray ..
theorem sZ9 (a b : Value) (l : List Value) : (a :: l).set 0 b = b :: l := rfl
theorem sS9 (a b : Value) (l : List Value) (i : Nat) : (a :: l).set (i + 1) b = a :: l.set i b := rfl
theorem wpAny_1 {P : Program} {Q : Exit → Act → World → Prop} {a : Act} {w : World} {md : Region.Mode} {ops : Array Oper} {fuel : Nat} {listed : Array Bool} (i : Nat) (h : wpOp P ops Q i (wpAny P md ops Q fuel (listed.setIfInBounds i true)) a w) (hr : Region.ready md ops listed = [i] := by kernel_rfl) : wpAny P md ops Q (fuel + 1) listed a w := wpAny_all hr (by simp) fun j hj => by rw [List.mem_singleton.1 hj]; exact h
structure Rg where
 lo : Int
 hi : Int
 deriving DecidableEq
structure Bx where
 r0 : Rg
 r1 : Rg
 r2 : Rg
 r3 : Rg
 r4 : Rg
 deriving DecidableEq
def Bx.at (b : Bx) : Nat → Rg
 | 0 => b.r0 | 1 => b.r1 | 2 => b.r2 | 3 => b.r3 | _ => b.r4
def Bx.of (f : Nat → Rg) : Bx := ⟨f 0, f 1, f 2, f 3, f 4⟩
def Bx.set (b : Bx) (k : Nat) (r : Rg) : Bx := Bx.of fun i => if i = k then r else b.at i
def topOf : Nat → Int
 | 0 => 4294967295 | 1 => 4294967295 | 2 => 255 | 3 => 65535 | _ => 65535
theorem five {k : Nat} (h : k < 5) : k = 0 ∨ k = 1 ∨ k = 2 ∨ k = 3 ∨ k = 4 := by omega
theorem Bx.at_of (f : Nat → Rg) {k : Nat} (h : k < 5) : (Bx.of f).at k = f k := by
 rcases five h with rfl | rfl | rfl | rfl | rfl <;> rfl
theorem Bx.of_at (b : Bx) : Bx.of b.at = b := rfl
theorem Bx.of_congr {f g : Nat → Rg} (h : ∀ k, k < 5 → f k = g k) : Bx.of f = Bx.of g := by
 simp [Bx.of, h 0, h 1, h 2, h 3, h 4]
theorem Bx.ext_at {a b : Bx} (h : ∀ k, k < 5 → a.at k = b.at k) : a = b := by
 rw [← Bx.of_at a, ← Bx.of_at b]; exact Bx.of_congr h
theorem Bx.at_set (b : Bx) (k : Nat) (r : Rg) {i : Nat} (h : i < 5) : (b.set k r).at i = if i = k then r else b.at i := Bx.at_of _ h
def bcs (b : Bx) : List Value := [.int .u32 b.r0.lo, .int .u32 b.r0.hi, .int .u32 b.r1.lo, .int .u32 b.r1.hi, .int .u32 b.r2.lo, .int .u32 b.r2.hi, .int .u32 b.r3.lo, .int .u32 b.r3.hi, .int .u32 b.r4.lo, .int .u32 b.r4.hi]
abbrev bv (b : Bx) : Value := .agg (bcs b).toArray
theorem bcs_length (b : Bx) : (bcs b).length = 10 := rfl
theorem bcs_lo (b : Bx) {k : Nat} (h : k < 5) : (bcs b)[k * 2]? = some (.int .u32 (b.at k).lo) := by
 rcases five h with rfl | rfl | rfl | rfl | rfl <;> rfl
theorem bcs_hi (b : Bx) {k : Nat} (h : k < 5) : (bcs b)[k * 2 + 1]? = some (.int .u32 (b.at k).hi) := by
 rcases five h with rfl | rfl | rfl | rfl | rfl <;> rfl
theorem bset_lo {b : Bx} {k : Nat} (h : k < 5) {l : Int} : (bcs b).set (k * 2) (.int .u32 l) = bcs (b.set k ⟨l, (b.at k).hi⟩) := by
 rcases five h with rfl | rfl | rfl | rfl | rfl <;> rfl
theorem bset_hi {b : Bx} {k : Nat} (h : k < 5) {u : Int} : (bcs b).set (k * 2 + 1) (.int .u32 u) = bcs (b.set k ⟨(b.at k).lo, u⟩) := by
 rcases five h with rfl | rfl | rfl | rfl | rfl <;> rfl
structure Hd where
 src : Int
 dst : Int
 proto : Int
 sport : Int
 dport : Int
 deriving DecidableEq
abbrev hv (h : Hd) : Value := .agg #[.int .u32 h.src, .int .u32 h.dst, .int .u8 h.proto, .int .u16 h.sport, .int .u16 h.dport]
def Hd.at (h : Hd) : Nat → Int
 | 0 => h.src | 1 => h.dst | 2 => h.proto | 3 => h.sport | _ => h.dport
def Hd.ok (h : Hd) : Prop := (0 ≤ h.src ∧ h.src ≤ 4294967295) ∧ (0 ≤ h.dst ∧ h.dst ≤ 4294967295) ∧ (0 ≤ h.proto ∧ h.proto ≤ 255) ∧ (0 ≤ h.sport ∧ h.sport ≤ 65535) ∧ (0 ≤ h.dport ∧ h.dport ≤ 65535)
def Blk (w : World) (n : Nat) (cs : List Value) (t : TypeId) : Prop := w.heap[n]? = some (.cells cs.toArray t (0, 0))
theorem Blk.lt {w : World} {n : Nat} {cs : List Value} {t : TypeId} (h : Blk w n cs t) : n < w.heap.size := by
 rcases Nat.lt_or_ge n w.heap.size with h' | h'
 ·exact h'
 ·unfold Blk at h; rw [Array.getElem?_eq_none h'] at h; cases h
theorem Blk.cell {w : World} {n : Nat} {cs : List Value} {t : TypeId} (h : Blk w n cs t) (o : Nat) : w.cell? ⟨n, o, none⟩ = cs[o]? := by
 rw [cell_of_row w n o cs.toArray t (0, 0) h]; simp
theorem Blk.free {w : World} {n : Nat} {cs : List Value} {t : TypeId} (h : Blk w n cs t) (o : Nat) : w.frozen? ⟨n, o, none⟩ = false := frozen_of_row w n o _ t h
theorem Blk.alloc {w : World} {n : Nat} {cs : List Value} {t : TypeId} (h : Blk w n cs t) (o : Obj) : Blk (w.alloc o) n cs t := by
 unfold Blk; rw [Below.heap_alloc w o n h.lt]; exact h
theorem Blk.drew {w : World} {n : Nat} {cs : List Value} {t : TypeId} (h : Blk w n cs t) : Blk w.drew n cs t := h
theorem Blk.drewN {w : World} {n : Nat} {cs : List Value} {t : TypeId} (h : Blk w n cs t) (k : Nat) : Blk (w.drewN k) n cs t := h
theorem Blk.far {w : World} {n : Nat} {cs : List Value} {t : TypeId} (h : Blk w n cs t) {p : Addr} (hp : n ≠ p.block) (v : Value) : Blk (w.setCell p v) n cs t := by
 unfold Blk; rw [heap_setCell_other w p n v hp]; exact h
theorem Blk.set {w : World} {n : Nat} {cs : List Value} {t : TypeId} (h : Blk w n cs t) (i : Nat) (v : Value) : Blk (w.setCell ⟨n, i, none⟩ v) n (cs.set i v) t := by
 have e := heap_setCell_same w n i cs.toArray t v h
 unfold Blk; rw [e]; simp
theorem Blk.new (w : World) (cs : List Value) (t : TypeId) : Blk (w.alloc (.cells cs.toArray t (0, 0))) w.heap.size cs t := heap_alloc_new w _
theorem Blk.below {w w' : World} {n B : Nat} {cs : List Value} {t : TypeId} (h : Blk w n cs t) (hb : Below B w w') (hn : n < B) : Blk w' n cs t := by
 unfold Blk; rw [hb.block n hn]; exact h
theorem Blk.grown {w w' : World} {n : Nat} {cs : List Value} {t : TypeId} {row : Option Nat} (h : Blk w n cs t) (hg : w.grownBy w' row) (hn : row ≠ some n) : Blk w' n cs t := by
 unfold Blk; rw [hg.block n h.lt (fun e => hn e.symm)]; exact h
theorem Blk.lo {w : World} {n : Nat} {b : Bx} {t : TypeId} (h : Blk w n (bcs b) t) {k : Nat} (hk : k < 5) : w.cell? ⟨n, k * 2, none⟩ = some (.int .u32 (b.at k).lo) := (h.cell _).trans (bcs_lo b hk)
theorem Blk.hi {w : World} {n : Nat} {b : Bx} {t : TypeId} (h : Blk w n (bcs b) t) {k : Nat} (hk : k < 5) : w.cell? ⟨n, k * 2 + 1, none⟩ = some (.int .u32 (b.at k).hi) := (h.cell _).trans (bcs_hi b hk)
theorem Blk.ten {w : World} {n : Nat} {b : Bx} {t : TypeId} (h : Blk w n (bcs b) t) : w.cell? ⟨n, 0, none⟩ = some (.int .u32 b.r0.lo) ∧ w.cell? ⟨n, 1, none⟩ = some (.int .u32 b.r0.hi) ∧ w.cell? ⟨n, 2, none⟩ = some (.int .u32 b.r1.lo) ∧ w.cell? ⟨n, 3, none⟩ = some (.int .u32 b.r1.hi) ∧ w.cell? ⟨n, 4, none⟩ = some (.int .u32 b.r2.lo) ∧ w.cell? ⟨n, 5, none⟩ = some (.int .u32 b.r2.hi) ∧ w.cell? ⟨n, 6, none⟩ = some (.int .u32 b.r3.lo) ∧ w.cell? ⟨n, 7, none⟩ = some (.int .u32 b.r3.hi) ∧ w.cell? ⟨n, 8, none⟩ = some (.int .u32 b.r4.lo) ∧ w.cell? ⟨n, 9, none⟩ = some (.int .u32 b.r4.hi) :=
 ⟨h.cell 0, h.cell 1, h.cell 2, h.cell 3, h.cell 4, h.cell 5, h.cell 6, h.cell 7, h.cell 8, h.cell 9⟩
def Tops (w : World) : Prop := ∀ k, k < 5 → w.cell? ⟨0, k, none⟩ = some (.int .u32 (topOf k))
theorem Tops.lt {w : World} (h : Tops w) : 0 < w.heap.size := World.block_lt_of_cell? w _ (h 0 (by omega))
theorem Tops.below {w w' : World} {B : Nat} (h : Tops w) (hb : Below B w w') (hB : 0 < B) : Tops w' := fun k hk => by
 rw [hb.cell (p := ⟨0, k, none⟩) hB]; exact h k hk
structure Keep (M : List Nat) (w w' : World) : Prop where
 os : w'.os = w.os
 tape : w'.tape = w.tape
 output : w'.output = w.output
 size : w.heap.size ≤ w'.heap.size
 block : ∀ k, k < w.heap.size → k ∉ M → w'.heap[k]? = w.heap[k]?
theorem Keep.refl (M : List Nat) (w : World) : Keep M w w := ⟨rfl, rfl, rfl, Nat.le_refl _, fun _ _ _ => rfl⟩
theorem Keep.trans {M : List Nat} {a b c : World} (h : Keep M a b) (k : Keep M b c) : Keep M a c :=
 ⟨k.os.trans h.os, k.tape.trans h.tape, k.output.trans h.output, Nat.le_trans h.size k.size, fun i hi hm => (k.block i (Nat.lt_of_lt_of_le hi h.size) hm).trans (h.block i hi hm)⟩
theorem Keep.below {w w' : World} (h : Keep [] w w') : Below w.heap.size w w' := ⟨h.os, h.tape, h.output, h.size, fun k hk => h.block k hk (by simp)⟩
theorem keep_of_below {w w' : World} (h : Below w.heap.size w w') (M : List Nat) : Keep M w w' := ⟨h.os, h.tape, h.output, h.size, fun k hk _ => h.block k hk⟩
structure Chunk where
 n : Nat
 cs : List Value
 t : TypeId
structure Row where
 v : Value
 k : Nat
 xs : List Value
 e : TypeId
 size : Nat
structure Ro where
 g : Nat
 o : Nat
 xs : List Value
def excl (X : List Chunk) (R : List Row) : List Nat := X.map (·.n) ++ R.filterMap (·.v.ownBlock)
structure Own (M : List Nat) (w0 : World) (X : List Chunk) (R : List Row) (S : List Ro) (w : World) : Prop where
 keep : Keep M w0 w
 chunk : ∀ c ∈ X, Blk w c.n c.cs c.t
 row : ∀ r ∈ R, w.ownsRow 0 r.e r.size r.v r.k r.xs
 ro : ∀ s ∈ S, w.rangeAt s.g s.o s.xs
 nd : (excl X R).Nodup
 free : ∀ n ∈ excl X R, n ∈ M ∨ w0.heap.size ≤ n
 apart : ∀ s ∈ S, s.xs ≠ [] → s.g ∉ excl X R
section
variable {M : List Nat} {w0 w : World} {X : List Chunk} {R : List Row} {S : List Ro}
theorem own_start (M : List Nat) (w0 : World) : Own M w0 [] [] [] w0 :=
 ⟨Keep.refl _ _, by simp, by simp, by simp, by simp [excl], by simp [excl], by simp⟩
theorem Own.lt (h : Own M w0 X R S w) : ∀ n ∈ excl X R, n < w.heap.size := by
 intro n hn
 rcases List.mem_append.1 hn with hn | hn
 ·obtain ⟨c, hc, rfl⟩ := List.mem_map.1 hn
  exact (h.chunk c hc).lt
 ·obtain ⟨r, hr, he⟩ := List.mem_filterMap.1 hn
  exact ((h.row r hr).lt n he).2
theorem ro_lt {w : World} {s : Ro} (h : w.rangeAt s.g s.o s.xs) (hne : s.xs ≠ []) : s.g < w.heap.size := by
 cases hx : s.xs with
 | nil => exact absurd hx hne
 | cons v vs =>
  have := h 0 v (by rw [hx]; rfl)
  exact World.block_lt_of_cell? w _ this
theorem Own.frame {w' : World} (h : Own M w0 X R S w) (os : w'.os = w.os) (tape : w'.tape = w.tape) (out : w'.output = w.output) (hs : w.heap.size ≤ w'.heap.size)
  (ho : ∀ k, k < w.heap.size → w'.heap[k]? = w.heap[k]?) : Own M w0 X R S w' := by
 refine ⟨h.keep.trans ⟨os, tape, out, hs, fun k hk _ => ho k hk⟩, fun c hc => ?_, fun r hr => ?_, fun s hs => ?_, h.nd, h.free, h.apart⟩
 ·have := h.chunk c hc
  unfold Blk; rw [ho c.n this.lt]; exact this
 ·refine (h.row r hr).kept (row := none) ⟨os, tape, out, hs, fun k hk _ => ho k hk⟩ ?_
  cases e : r.v.ownBlock <;> simp
 ·intro j v hv
  have h1 := h.ro s hs j v hv
  rw [World.cell?_of_block (w := w) (ho _ (World.block_lt_of_cell? w _ h1))]; exact h1
theorem Own.drew (h : Own M w0 X R S w) : Own M w0 X R S w.drew := h.frame rfl rfl rfl (Nat.le_refl _) fun _ _ => rfl
theorem Own.drewN (h : Own M w0 X R S w) (n : Nat) : Own M w0 X R S (w.drewN n) := h.frame rfl rfl rfl (Nat.le_refl _) fun _ _ => rfl
theorem Own.call {w' : World} (h : Own M w0 X R S w) (hb : Below w.heap.size w w') : Own M w0 X R S w' := h.frame hb.os hb.tape hb.output hb.size hb.block
theorem Own.alloc (h : Own M w0 X R S w) (cs : List Value) (t : TypeId) : Own M w0 (⟨w.heap.size, cs, t⟩ :: X) R S (w.alloc (.cells cs.toArray t (0, 0))) := by
 have h1 : Own M w0 X R S (w.alloc (.cells cs.toArray t (0, 0))) := h.frame rfl rfl rfl (by simp) fun k hk => Below.heap_alloc _ _ _ hk
 refine ⟨h1.keep, ?_, h1.row, h1.ro, ?_, ?_, ?_⟩
 ·intro c hc
  rcases List.mem_cons.1 hc with rfl | hc
  ·exact Blk.new w cs t
  ·exact h1.chunk c hc
 ·show (w.heap.size :: excl X R).Nodup
  exact List.nodup_cons.2 ⟨fun hm => Nat.lt_irrefl _ (h.lt _ hm), h.nd⟩
 ·intro n hn
  rcases List.mem_cons.1 (show n ∈ w.heap.size :: excl X R from hn) with rfl | hn
  ·exact .inr h.keep.size
  ·exact h.free n hn
 ·intro s hs hne hm
  rcases List.mem_cons.1 (show s.g ∈ w.heap.size :: excl X R from hm) with e | hm
  ·have := ro_lt (h.ro s hs) hne
   omega
  ·exact h.apart s hs hne hm
theorem map_set_n {X : List Chunk} {i : Nat} {c : Chunk} (hi : X[i]? = some c) (cs : List Value) : (X.set i ⟨c.n, cs, c.t⟩).map (·.n) = X.map (·.n) := by
 rw [List.map_set]
 have : (X.map (·.n))[i]? = some c.n := by simp [hi]
 obtain ⟨h1, h2⟩ := List.getElem?_eq_some_iff.1 this
 show (X.map (·.n)).set i c.n = _
 rw [← h2, List.set_getElem_self]
theorem Own.setChunk {w' : World} (h : Own M w0 X R S w) {i : Nat} {n : Nat} {cs : List Value} {t : TypeId} (hi : X[i]? = some ⟨n, cs, t⟩) (cs' : List Value)
  (os : w'.os = w.os) (tape : w'.tape = w.tape) (out : w'.output = w.output) (hs : w'.heap.size = w.heap.size)
  (ho : ∀ k, k ≠ n → w'.heap[k]? = w.heap[k]?) (hn : Blk w' n cs' t) : Own M w0 (X.set i ⟨n, cs', t⟩) R S w' := by
 have he : excl (X.set i ⟨n, cs', t⟩) R = excl X R := by unfold excl; rw [map_set_n hi cs']
 have hmem : n ∈ excl X R := List.mem_append.2 (.inl (List.mem_map.2 ⟨_, List.mem_of_getElem? hi, rfl⟩))
 have hnX : n ∈ X.map (·.n) := List.mem_map.2 ⟨_, List.mem_of_getElem? hi, rfl⟩
 have hnd := List.nodup_append.1 h.nd
 refine ⟨?_, fun c hc => ?_, fun r hr => ?_, fun s hs' => ?_, he ▸ h.nd, he ▸ h.free, he ▸ h.apart⟩
 ·refine ⟨os.trans h.keep.os, tape.trans h.keep.tape, out.trans h.keep.output, by rw [hs]; exact h.keep.size, fun k hk hm => ?_⟩
  by_cases e : k = n
  ·subst e
   rcases h.free k hmem with hf | hf
   ·exact absurd hf hm
   ·omega
  ·rw [ho k e]; exact h.keep.block k hk hm
 ·obtain ⟨j, hj⟩ := List.getElem?_of_mem hc
  by_cases e : j = i
  ·subst e
   have hl := (List.getElem?_eq_some_iff.1 hi).1
   rw [List.getElem?_set_self hl] at hj
   cases hj; exact hn
  ·rw [List.getElem?_set_ne (fun h => e h.symm)] at hj
   have hc' := h.chunk c (List.mem_of_getElem? hj)
   have hne : c.n ≠ n := by
    intro heq
    have h1 : (X.map (·.n))[j]? = some n := by simp [hj, heq]
    have h2 : (X.map (·.n))[i]? = some n := by simp [hi]
    exact e ((List.getElem?_inj (List.getElem?_eq_some_iff.1 h1).1 hnd.1).1 (h1.trans h2.symm))
   unfold Blk; rw [ho c.n hne]; exact hc'
 ·refine (h.row r hr).kept (row := some n) ⟨os, tape, out, Nat.le_of_eq hs.symm, fun k _ hk => ho k (fun e => hk (by rw [e]))⟩ ?_
  cases e : r.v.ownBlock with
  | none => simp
  | some b =>
   right
   intro heq
   have hb : b = n := by simpa using heq
   exact hnd.2.2 n hnX b (List.mem_filterMap.2 ⟨r, hr, e⟩) hb.symm
 ·intro j v hv
  have h1 := h.ro s hs' j v hv
  have hne : s.g ≠ n := fun e => h.apart s hs' (fun e0 => by rw [e0] at hv; cases hv) (e ▸ hmem)
  rw [World.cell?_of_block (w := w) (ho _ hne)]; exact h1
end
inductive Upd : List Chunk → Chunk → Chunk → List Chunk → Prop
 | here {c c' : Chunk} {X : List Chunk} : Upd (c :: X) c c' (c' :: X)
 | there {c c' d : Chunk} {X X' : List Chunk} : Upd X c c' X' → Upd (d :: X) c c' (d :: X')
theorem Upd.at {X X' : List Chunk} {c c' : Chunk} (h : Upd X c c' X') : ∃ i, X[i]? = some c ∧ X' = X.set i c' := by
 induction h with
 | here => exact ⟨0, rfl, rfl⟩
 | there _ ih => obtain ⟨i, h1, h2⟩ := ih; exact ⟨i + 1, by simpa using h1, by simp [h2]⟩
inductive UpdR : List Row → Row → Row → List Row → Prop
 | here {c c' : Row} {X : List Row} : UpdR (c :: X) c c' (c' :: X)
 | there {c c' d : Row} {X X' : List Row} : UpdR X c c' X' → UpdR (d :: X) c c' (d :: X')
theorem UpdR.at {X X' : List Row} {c c' : Row} (h : UpdR X c c' X') : ∃ i, X[i]? = some c ∧ X' = X.set i c' := by
 induction h with
 | here => exact ⟨0, rfl, rfl⟩
 | there _ ih => obtain ⟨i, h1, h2⟩ := ih; exact ⟨i + 1, by simpa using h1, by simp [h2]⟩
def RowT (P : Program) (t : TypeId) (s : Nat) : Prop := ∃ d, P.underlying t = some d ∧ d.isRow = true ∧ (P.info? t).map (·.size) = some s
theorem row_len {P : Program} {t : TypeId} {s n : Nat} (h : RowT P t s) (e : s = n) : RowT P t n := e ▸ h
def OneT (P : Program) (t : TypeId) : Prop := ∃ d, P.underlying t = some d ∧ d.isRow = false ∧ (P.info? t).map (·.size) = some 1
def ZeroT (P : Program) (t : TypeId) (cs : List Value) : Prop := ((P.info? t).bind (·.zero)).map (·.cells) = some cs.toArray
def SliceT (P : Program) (t e : TypeId) (size bytes : Nat) : Prop := P.underlying t = some (.slice e) ∧ 0 < size ∧ ∃ i z, P.info? e = some i ∧ i.zero = some z ∧ i.size = size ∧ i.bytes = bytes ∧ z.cells.size = size
section
variable {P : Program} {ops : Array Oper} {rest : List Oper} {o : Oper} {a : Act} {Q : Exit → Act → World → Prop} {M : List Nat} {w0 w : World} {X X' : List Chunk} {R R' : List Row} {S : List Ro}
theorem wpList_val (hw : Region.wanted o (yielded ops a.tmps) = true) (v : Value) (w' : World) (hrun : (execOp a.eval o).run P w = .ok (.value v) w')
  (h : wpList P ops Q rest (a.put o.dst v) w') : wpList P ops Q (o :: rest) a w :=
 wpList_step fun K hK => by
  rw [if_pos hw]
  unfold Oper.wp
  rw [hrun, Oper.upon_value]
  exact hK _ _ h
theorem wpList_skp (hw : Region.wanted o (yielded ops a.tmps) = true) (w' : World) (hrun : (execOp a.eval o).run P w = .ok .skip w')
  (h : wpList P ops Q rest (a.put o.dst undef) w') : wpList P ops Q (o :: rest) a w :=
 wpList_step fun K hK => by
  rw [if_pos hw]
  unfold Oper.wp
  rw [hrun, Oper.upon_skip]
  exact hK _ _ h
theorem is_load {d ty pos af g t x} (h : wpList P ops Q (⟨d, .load t x, ty, pos, af, g⟩ :: rest) a w) : wpList P ops Q (⟨d, .load t x, ty, pos, af, g⟩ :: rest) a w := h
theorem is_store {d ty pos af g t x y} (h : wpList P ops Q (⟨d, .store t x y, ty, pos, af, g⟩ :: rest) a w) : wpList P ops Q (⟨d, .store t x y, ty, pos, af, g⟩ :: rest) a w := h
theorem is_box {d ty pos af g t x} (h : wpList P ops Q (⟨d, .box t x, ty, pos, af, g⟩ :: rest) a w) : wpList P ops Q (⟨d, .box t x, ty, pos, af, g⟩ :: rest) a w := h
theorem is_alloc {d ty pos af g t} (h : wpList P ops Q (⟨d, .alloc t, ty, pos, af, g⟩ :: rest) a w) : wpList P ops Q (⟨d, .alloc t, ty, pos, af, g⟩ :: rest) a w := h
theorem is_build {d ty pos af g t l x} (h : wpList P ops Q (⟨d, .buildSlice t l x, ty, pos, af, g⟩ :: rest) a w) : wpList P ops Q (⟨d, .buildSlice t l x, ty, pos, af, g⟩ :: rest) a w := h
theorem is_append {d ty pos af g x y} (h : wpList P ops Q (⟨d, .call ⟨.builtin .append, x, y⟩, ty, pos, af, g⟩ :: rest) a w) : wpList P ops Q (⟨d, .call ⟨.builtin .append, x, y⟩, ty, pos, af, g⟩ :: rest) a w := h
theorem is_loadQ {C : World → Prop} {K : Act → Prop} {d ty pos af g t x} (h : Oper.quiet P ⟨d, .load t x, ty, pos, af, g⟩ a C K) : Oper.quiet P ⟨d, .load t x, ty, pos, af, g⟩ a C K := h
theorem is_loadS {K : Act → Prop} {d ty pos af g t x} (h : Oper.still P ⟨d, .load t x, ty, pos, af, g⟩ a w K) : Oper.still P ⟨d, .load t x, ty, pos, af, g⟩ a w K := h
theorem rx_box {t : TypeId} {x : Operand} (ho : o.op = .box t x) : (execOp a.eval o).run P w = .ok (.value (.pointer (some ⟨w.heap.size, 0, none⟩))) (w.alloc (.cells (a.eval x).cells t (0, 0))) := by
 unfold execOp
 simp only [ho, Sem.run_bind, Instr.box, newVar, newRow, run_newObj_alloc, Sem.run_pure, Result.andThen_ok]
theorem rx_alloc {t : TypeId} {cs : List Value} (ho : o.op = .alloc t) (hz : ZeroT P t cs) : (execOp a.eval o).run P w = .ok (.value (.pointer (some ⟨w.heap.size, 0, none⟩))) (w.alloc (.cells cs.toArray t (0, 0))) := by
 unfold ZeroT at hz
 cases hi : P.info? t with
 | none => simp [hi] at hz
 | some i =>
  cases hzz : i.zero with
  | none => simp [hi, hzz] at hz
  | some z =>
   have hc : z.cells = cs.toArray := by simpa [hi, hzz] using hz
   unfold execOp
   simp only [ho, Sem.run_bind, Instr.alloc, zeroValue, typeInfo, run_program, hi, hzz, newVar, newRow, run_newObj_alloc, Sem.run_pure, Result.andThen_ok, hc]
theorem rx_load {t : TypeId} {x : Operand} {b off s : Nat} {vs : List Value} (ho : o.op = .load t x) (hx : a.eval x = .pointer (some ⟨b, off, none⟩)) (ht : RowT P t s) (hs : vs.length = s) (hr : w.rangeAt b off vs) :
  (execOp a.eval o).run P w = .ok (.value (.agg vs.toArray)) w := by
 obtain ⟨d, hu, hd, hi⟩ := ht
 unfold execOp
 simp only [ho, hx, Sem.run_bind, run_loadAt_mid w b off t vs d hr hu hd (by rw [hs]; exact hi), Sem.run_pure, Result.andThen_ok]
theorem rx_load1 {t : TypeId} {x : Operand} {b off : Nat} {v : Value} (ho : o.op = .load t x) (hx : a.eval x = .pointer (some ⟨b, off, none⟩)) (ht : OneT P t) (hr : w.cell? ⟨b, off, none⟩ = some v) :
  (execOp a.eval o).run P w = .ok (.value v) w := by
 obtain ⟨d, hu, hd, hi⟩ := ht
 have hagg : (isAgg t).run P w = .ok false w := by
  unfold isAgg
  rw [Sem.run_bind, run_underlying hu w]
  cases d <;> first | rfl | cases hd
 unfold execOp
 simp only [ho, hx, Sem.run_bind, Instr.loadAt, Instr.sureAddr, loadVar, hagg, Sem.run_pure, Result.andThen_ok, Bool.false_eq_true, if_false]
 simp [load, Sem.run, hr]
theorem rx_store {t : TypeId} {x y : Operand} {b off s : Nat} {vs : List Value} (ho : o.op = .store t x y) (hx : a.eval x = .pointer (some ⟨b, off, none⟩)) (hy : a.eval y = .agg vs.toArray) (ht : RowT P t s) (hs : vs.length = s)
  (hth : w.there b off s) (h1 : vs.all (·.oneCell') = true) : (execOp a.eval o).run P w = .ok .skip (w.setCells b off vs) := by
 obtain ⟨d, hu, hd, hi⟩ := ht
 unfold execOp
 simp only [ho, hx, hy, Sem.run_bind, run_storeAt_mid w b off t vs.toArray (by simpa [hs] using hth) (by simpa [hs] using hi) (by simpa using h1), Sem.run_pure, Result.andThen_ok]
theorem rx_store1 {t : TypeId} {x y : Operand} {b off : Nat} {v : Value} (ho : o.op = .store t x y) (hx : a.eval x = .pointer (some ⟨b, off, none⟩)) (hy : a.eval y = v) (ht : OneT P t)
  (hc : (w.cell? ⟨b, off, none⟩).isSome = true) (hf : w.frozen? ⟨b, off, none⟩ = false) (h1 : v.oneCell' = true) : (execOp a.eval o).run P w = .ok .skip (w.setCell ⟨b, off, none⟩ v) := by
 obtain ⟨d, hu, hd, hi⟩ := ht
 obtain ⟨u, hu'⟩ := Option.isSome_iff_exists.1 hc
 have hcs : v.cells = #[v] := by cases v <;> first | rfl | cases h1
 cases hq : P.info? t with
 | none => simp [hq] at hi
 | some i =>
  have hsz : i.size = 1 := by simpa [hq] using hi
  unfold execOp
  simp only [ho, hx, hy, Sem.run_bind, Instr.storeAt, Instr.sureAddr, storeVar, sizeOf, typeInfo, run_program, hq, hcs, hsz, Sem.run_pure, Result.andThen_ok, storeCells, store]
  cases v <;> first | (cases h1; done) | simp [Sem.run, Addr.add, hu', hf]
theorem Own.range (h : Own M w0 X R S w) {n off : Nat} {cs vs : List Value} {t : TypeId} (hm : (⟨n, cs, t⟩ : Chunk) ∈ X) (hv : (cs.drop off).take vs.length = vs) : w.rangeAt n off vs := by
 intro j v hj
 have hb := h.chunk _ hm
 rw [hb.cell (off + j)]
 have hjl := (List.getElem?_eq_some_iff.1 hj).1
 rw [← hv] at hj
 rw [List.getElem?_take, if_pos hjl, List.getElem?_drop] at hj
 exact hj
theorem Own.roRange (h : Own M w0 X R S w) {g off j : Nat} {xs vs : List Value} (hm : (⟨g, off, xs⟩ : Ro) ∈ S) (hv : (xs.drop j).take vs.length = vs) : w.rangeAt g (off + j) vs := by
 intro i v hi
 have hil := (List.getElem?_eq_some_iff.1 hi).1
 rw [← hv] at hi
 rw [List.getElem?_take, if_pos hil, List.getElem?_drop] at hi
 have := h.ro _ hm (j + i) v hi
 rw [Nat.add_assoc]
 exact this
theorem Own.cellAt (h : Own M w0 X R S w) {n off : Nat} {cs : List Value} {t : TypeId} {v : Value} (hm : (⟨n, cs, t⟩ : Chunk) ∈ X) (hv : cs[off]? = some v) : w.cell? ⟨n, off, none⟩ = some v := by
 rw [(h.chunk _ hm).cell off]; exact hv
theorem Own.roCell (h : Own M w0 X R S w) {g off j : Nat} {xs : List Value} {v : Value} (hm : (⟨g, off, xs⟩ : Ro) ∈ S) (hv : xs[j]? = some v) : w.cell? ⟨g, off + j, none⟩ = some v := h.ro _ hm j v hv
theorem own_box (hO : Own M w0 X R S w) (hw : Region.wanted o (yielded ops a.tmps) = true) {t : TypeId} {x : Operand} (ho : o.op = .box t x) {cs : List Value} (hx : (a.eval x).cells = cs.toArray)
  (h : ∀ n w', Own M w0 (⟨n, cs, t⟩ :: X) R S w' → wpList P ops Q rest (a.put o.dst (.pointer (some ⟨n, 0, none⟩))) w') : wpList P ops Q (o :: rest) a w :=
 wpList_val hw _ _ (rx_box ho) (h _ _ (by rw [hx]; exact hO.alloc cs t))
theorem own_alloc (hO : Own M w0 X R S w) (hw : Region.wanted o (yielded ops a.tmps) = true) {t : TypeId} (ho : o.op = .alloc t) {cs : List Value} (hz : ZeroT P t cs)
  (h : ∀ n w', Own M w0 (⟨n, cs, t⟩ :: X) R S w' → wpList P ops Q rest (a.put o.dst (.pointer (some ⟨n, 0, none⟩))) w') : wpList P ops Q (o :: rest) a w :=
 wpList_val hw _ _ (rx_alloc ho hz) (h _ _ (hO.alloc cs t))
theorem own_load (hO : Own M w0 X R S w) (hw : Region.wanted o (yielded ops a.tmps) = true) {t : TypeId} {x : Operand} (ho : o.op = .load t x) {n off s : Nat} (hx : a.eval x = .pointer (some ⟨n, off, none⟩))
  (ht : RowT P t s) {cs vs : List Value} {t' : TypeId} (hm : (⟨n, cs, t'⟩ : Chunk) ∈ X) (hv : (cs.drop off).take vs.length = vs) (hs : vs.length = s)
  (h : wpList P ops Q rest (a.put o.dst (.agg vs.toArray)) w) : wpList P ops Q (o :: rest) a w :=
 wpList_val hw _ _ (rx_load ho hx ht hs (hO.range hm hv)) h
theorem own_load1 (hO : Own M w0 X R S w) (hw : Region.wanted o (yielded ops a.tmps) = true) {t : TypeId} {x : Operand} (ho : o.op = .load t x) {n off : Nat} (hx : a.eval x = .pointer (some ⟨n, off, none⟩))
  (ht : OneT P t) {cs : List Value} {t' : TypeId} (hm : (⟨n, cs, t'⟩ : Chunk) ∈ X) {v : Value} (hv : cs[off]? = some v)
  (h : wpList P ops Q rest (a.put o.dst v) w) : wpList P ops Q (o :: rest) a w :=
 wpList_val hw _ _ (rx_load1 ho hx ht (hO.cellAt hm hv)) h
theorem own_loadG1 (hO : Own M w0 X R S w) (hw : Region.wanted o (yielded ops a.tmps) = true) {t : TypeId} {x : Operand} (ho : o.op = .load t x) {g j : Nat} (hx : a.eval x = .pointer (some ⟨g, j, none⟩))
  (ht : OneT P t) {xs : List Value} (hm : (⟨g, 0, xs⟩ : Ro) ∈ S) {v : Value} (hv : xs[j]? = some v)
  (h : wpList P ops Q rest (a.put o.dst v) w) : wpList P ops Q (o :: rest) a w :=
 wpList_val hw _ _ (rx_load1 ho hx ht (Nat.zero_add j ▸ hO.roCell hm hv)) h
def putAt (cs : List Value) (off : Nat) : List Value → List Value
 | [] => cs
 | v :: vs => putAt (cs.set off v) (off + 1) vs
theorem putAt_length (vs : List Value) : ∀ (cs : List Value) (off : Nat), (putAt cs off vs).length = cs.length := by
 induction vs with
 | nil => intro cs off; rfl
 | cons v vs ih => intro cs off; rw [putAt, ih]; simp
theorem putAt_getElem? (vs : List Value) : ∀ (cs : List Value) (off k : Nat), off + vs.length ≤ cs.length → (putAt cs off vs)[k]? = if off ≤ k ∧ k < off + vs.length then vs[k - off]? else cs[k]? := by
 induction vs with
 | nil => intro cs off k _; simp [putAt]; omega
 | cons v vs ih =>
  intro cs off k hl
  simp only [List.length_cons] at hl
  rw [putAt, ih _ _ _ (by simp; omega)]
  by_cases h1 : off + 1 ≤ k ∧ k < off + 1 + vs.length
  ·rw [if_pos h1, if_pos (by simp; omega)]
   rw [show k - off = (k - (off + 1)) + 1 by omega]; simp
  ·rw [if_neg h1]
   by_cases h2 : k = off
   ·subst h2
    rw [if_pos (by simp)]
    simp only [Nat.sub_self, List.getElem?_cons_zero]
    rw [List.getElem?_set_self (by omega)]
   ·rw [if_neg (by simp; omega), List.getElem?_set_ne (fun e => h2 e.symm)]
theorem putAt_all (cs vs : List Value) (h : vs.length = cs.length) : putAt cs 0 vs = vs := by
 apply List.ext_getElem?
 intro k
 rw [putAt_getElem? _ _ _ _ (by omega)]
 by_cases hk : k < vs.length
 ·rw [if_pos (by omega)]; rfl
 ·rw [if_neg (by omega), List.getElem?_eq_none (by omega), List.getElem?_eq_none (by omega)]
theorem blk_setCells {n : Nat} {t : TypeId} (vs : List Value) : ∀ (w : World) (cs : List Value) (off : Nat), Blk w n cs t → Blk (w.setCells n off vs) n (putAt cs off vs) t := by
 induction vs with
 | nil => intro w cs off h; exact h
 | cons v vs ih => intro w cs off h; exact ih _ _ _ (h.set off v)
theorem heap_setCells_other {n : Nat} (vs : List Value) : ∀ (w : World) (off k : Nat), k ≠ n → (w.setCells n off vs).heap[k]? = w.heap[k]? := by
 induction vs with
 | nil => intro w off k _; rfl
 | cons v vs ih => intro w off k hk; exact (ih _ _ _ hk).trans (heap_setCell_other w _ k v hk)
theorem same_setCells {n : Nat} (vs : List Value) : ∀ (w : World) (off : Nat), (w.setCells n off vs).os = w.os ∧ (w.setCells n off vs).tape = w.tape ∧ (w.setCells n off vs).output = w.output ∧ (w.setCells n off vs).heap.size = w.heap.size := by
 induction vs with
 | nil => intro w off; exact ⟨rfl, rfl, rfl, rfl⟩
 | cons v vs ih =>
  intro w off
  obtain ⟨h1, h2, h3, h4⟩ := ih (w.setCell ⟨n, off, none⟩ v) (off + 1)
  exact ⟨h1, h2, h3, h4.trans (by simp)⟩
theorem Own.put (hO : Own M w0 X R S w) {n off : Nat} {cs vs : List Value} {t' : TypeId} (hu : Upd X ⟨n, cs, t'⟩ ⟨n, putAt cs off vs, t'⟩ X') : Own M w0 X' R S (w.setCells n off vs) := by
 obtain ⟨i, hi, rfl⟩ := hu.at
 obtain ⟨h1, h2, h3, h4⟩ := same_setCells (n := n) vs w off
 exact hO.setChunk hi _ h1 h2 h3 h4 (fun k hk => heap_setCells_other vs w off k hk) (blk_setCells vs w cs off (hO.chunk _ (List.mem_of_getElem? hi)))
theorem Own.put1 (hO : Own M w0 X R S w) {n off : Nat} {cs : List Value} {v : Value} {t' : TypeId} (hu : Upd X ⟨n, cs, t'⟩ ⟨n, cs.set off v, t'⟩ X') : Own M w0 X' R S (w.setCell ⟨n, off, none⟩ v) :=
 Own.put (vs := [v]) hO hu
theorem Upd.mem {X X' : List Chunk} {c c' : Chunk} (h : Upd X c c' X') : c ∈ X := by
 obtain ⟨i, hi, _⟩ := h.at; exact List.mem_of_getElem? hi
theorem own_store (hO : Own M w0 X R S w) (hw : Region.wanted o (yielded ops a.tmps) = true) {t : TypeId} {x y : Operand} (ho : o.op = .store t x y) {n off s : Nat} (hx : a.eval x = .pointer (some ⟨n, off, none⟩))
  {vs : List Value} (hy : a.eval y = .agg vs.toArray) (ht : RowT P t s) (hs : vs.length = s) {cs : List Value} {t' : TypeId} (hu : Upd X ⟨n, cs, t'⟩ ⟨n, putAt cs off vs, t'⟩ X') (hl : off + s ≤ cs.length) (h1 : vs.all (·.oneCell') = true)
  (h : ∀ w', Own M w0 X' R S w' → wpList P ops Q rest (a.put o.dst undef) w') : wpList P ops Q (o :: rest) a w := by
 have hb := hO.chunk _ hu.mem
 refine wpList_skp hw _ (rx_store ho hx hy ht hs (fun j hj => ⟨?_, hb.free _⟩) h1) (h _ (hO.put hu))
 rw [hb.cell (off + j), Option.isSome_iff_exists]
 exact ⟨cs[off + j]'(by omega), List.getElem?_eq_getElem _⟩
theorem own_store1 (hO : Own M w0 X R S w) (hw : Region.wanted o (yielded ops a.tmps) = true) {t : TypeId} {x y : Operand} (ho : o.op = .store t x y) {n off : Nat} (hx : a.eval x = .pointer (some ⟨n, off, none⟩))
  {v : Value} (hy : a.eval y = v) (ht : OneT P t) {cs : List Value} {t' : TypeId} (hu : Upd X ⟨n, cs, t'⟩ ⟨n, cs.set off v, t'⟩ X') (hl : off < cs.length) (h1 : v.oneCell' = true)
  (h : ∀ w', Own M w0 X' R S w' → wpList P ops Q rest (a.put o.dst undef) w') : wpList P ops Q (o :: rest) a w := by
 have hb := hO.chunk _ hu.mem
 refine wpList_skp hw _ (rx_store1 ho hx hy ht ?_ (hb.free _) h1) (h _ (hO.put1 hu))
 rw [hb.cell off, Option.isSome_iff_exists]
 exact ⟨cs[off]'hl, List.getElem?_eq_getElem _⟩
theorem Own.sub {X' : List Chunk} {R' : List Row} {S' : List Ro} (hO : Own M w0 X R S w) (hX : X'.Sublist X) (hR : R'.Sublist R) (hS : ∀ s ∈ S', s ∈ S) : Own M w0 X' R' S' w := by
 have he : (excl X' R').Sublist (excl X R) := (hX.map _).append (hR.filterMap _)
 exact ⟨hO.keep, fun c hc => hO.chunk c (hX.subset hc), fun r hr => hO.row r (hR.subset hr), fun s hs => hO.ro s (hS s hs), hO.nd.sublist he, fun n hn => hO.free n (he.subset hn),
  fun s hs hne hm => hO.apart s (hS s hs) hne (he.subset hm)⟩
theorem Own.nilRow (hO : Own M w0 X R S w) (e : TypeId) (size : Nat) : Own M w0 X (⟨.slice none 0 0, 0, [], e, size⟩ :: R) S w :=
 ⟨hO.keep, hO.chunk, fun r hr => by
  rcases List.mem_cons.1 hr with rfl | hr
  ·exact World.ownsRow_nil w 0 e size
  ·exact hO.row r hr, hO.ro, hO.nd, hO.free, hO.apart⟩
theorem Own.addRo (hO : Own M w0 X R S w) (s : Ro) (hs : w.rangeAt s.g s.o s.xs) (ha : s.xs ≠ [] → s.g ∉ excl X R) : Own M w0 X R (s :: S) w :=
 ⟨hO.keep, hO.chunk, hO.row, fun s' h' => by
  rcases List.mem_cons.1 h' with rfl | h'
  ·exact hs
  ·exact hO.ro s' h', hO.nd, hO.free, fun s' h' => by
  rcases List.mem_cons.1 h' with rfl | h'
  ·exact ha
  ·exact hO.apart s' h'⟩
theorem q_val {C : World → Prop} {K : Act → Prop} (v : Value) (hrun : ∀ w, C w → (execOp a.eval o).run P w = .ok (.value v) w) (h : K (a.put o.dst v)) : o.quiet P a C K :=
 ⟨v, fun w hw => by unfold Oper.quietAt; rw [hrun w hw]; exact ⟨rfl, rfl⟩, h⟩
theorem q_call {f : FuncId} {args : Array Value} {v : Value} (hc : Calls P f args w fun e w' => e = .returned v ∧ Below w.heap.size w w') (hO : Own M w0 X R S w) :
  Calls P f args w fun e w' => e = .returned v ∧ Own M w0 X R S w' := hc.mono fun _ _ ⟨h1, h2⟩ => ⟨h1, hO.call h2⟩
theorem q_same {f : FuncId} {args : Array Value} {v : Value} (hc : Calls P f args w fun e w' => e = .returned v ∧ w = w') (hO : Own M w0 X R S w) :
  Calls P f args w fun e w' => e = .returned v ∧ Own M w0 X R S w' := hc.mono fun _ _ ⟨h1, h2⟩ => ⟨h1, h2 ▸ hO⟩
theorem own_quiet {id : Nat} {l : List Oper} (hO : Own M w0 X R S w) (hm : P.follows .mixedOrders = true) (hB : Region.lexB .any l.toArray = true)
  (h : wpQuiet P l.toArray (Own M w0 X R S) (fun a' => ∀ w', Own M w0 X R S w' → Q .normal a' w') l a) : (Code.region id l.toArray true).wp P Q a w :=
 wp_region_quiet (C := Own M w0 X R S) hm hB hO.drew (by simpa using h)
theorem s_val {K : Act → Prop} (v : Value) (hrun : (execOp a.eval o).run P w = .ok (.value v) w) (h : K (a.put o.dst v)) : o.still P a w K := by
 unfold Oper.still; rw [hrun, Oper.stillUpon_value]; exact h
inductive Split {α : Type} : Nat → List α → List α → List α → Prop
 | zero (l : List α) : Split 0 l [] l
 | succ {n : Nat} {x : α} {l a b : List α} (h : Split n l a b) : Split (n + 1) (x :: l) (x :: a) b
theorem Split.eq {α : Type} {n : Nat} {l a b : List α} (h : Split n l a b) : a = l.take n ∧ b = l.drop n := by
 induction h with
 | zero l => exact ⟨rfl, rfl⟩
 | succ h ih => exact ⟨by rw [ih.1]; rfl, by rw [ih.2]; rfl⟩
theorem own_tail {id : Nat} {l l1 l2 : List Oper} (n : Nat) (hO : Own M w0 X R S w) (hm : P.follows .mixedOrders = true) (hB : Region.lexTailB .any l.toArray n = true) (hs : Split n l l1 l2)
  (h : ∀ w', Own M w0 X R S w' → wpStill P l.toArray w' (fun a' => wpList P l.toArray Q l2 a' w') l1 a) : (Code.region id l.toArray true).wp P Q a w := by
 obtain ⟨rfl, rfl⟩ := hs.eq
 exact wp_region_still_tail n hm hB (h _ hO.drew)
theorem own_res_cell {fn : Func} {p n : Nat} {ty : TypeId} (hO : Own M w0 X R S w) (h : fn.results = #[.cell p ty]) {tmps : Array Value} (hp : tmps.getD p undef = .pointer (some ⟨n, 0, none⟩)) {cs : List Value} {t' : TypeId}
  (hm : (⟨n, cs, t'⟩ : Chunk) ∈ X) {s : Nat} (ht : RowT P ty s) (hs : cs.length = s) : (results fn tmps).run P w = .ok (.agg cs.toArray) w := by
 obtain ⟨d, hu, hd, hi⟩ := ht
 exact results_cell_row h tmps w n t' cs.toArray (0, 0) d hp (hO.chunk _ hm) hu (by cases d <;> simp_all) (by simpa [hs] using hi)
theorem own_res_cell_tmp {fn : Func} {p u n : Nat} {ty : TypeId} (hO : Own M w0 X R S w) (h : fn.results = #[.cell p ty, .tmp u]) {tmps : Array Value} (hp : tmps.getD p undef = .pointer (some ⟨n, 0, none⟩)) {cs : List Value} {t' : TypeId}
  (hm : (⟨n, cs, t'⟩ : Chunk) ∈ X) {s : Nat} (ht : RowT P ty s) (hs : cs.length = s) {v : Value} (hv : tmps.getD u undef = v) : (results fn tmps).run P w = .ok (.tuple #[.agg cs.toArray, v]) w := by
 obtain ⟨d, hu, hd, hi⟩ := ht
 rw [results_cell_tmp h, hp]
 simp only [asAddr, Sem.run_pure, Result.andThen_ok]
 rw [run_loadVar_row w n t' ty cs.toArray (0, 0) d (hO.chunk _ hm) hu (by cases d <;> simp_all) (by simpa [hs] using hi), hv]
 rfl
theorem rx_build {t e : TypeId} {len : Nat} {parts : Array (Nat × Operand)} {cs : List Value} (ho : o.op = .buildSlice t len parts) (hu : P.underlying t = some (.slice e))
  (hf : Program.builtSlice P e len (parts.map fun (i, x) => (i, a.eval x)).toList = some cs.toArray) :
  (execOp a.eval o).run P w = .ok (.value (.slice (some ⟨w.heap.size, 0, none⟩) len len)) (w.alloc (.cells cs.toArray e (0, 0))) := by
 unfold Program.builtSlice at hf
 cases hie : P.info? e with
 | none => simp [hie] at hf
 | some i =>
  simp only [hie] at hf
  cases hz : i.zero with
  | none => simp [hz] at hf
  | some z =>
   simp only [hz] at hf
   split at hf
   ·cases hf
   ·rename_i hn
    have h1 : ¬ len * i.size > 2 ^ 24 := fun h => hn (.inl h)
    have h2 : ¬ len * i.size = 0 := fun h => hn (.inr h)
    unfold execOp
    simp only [ho, Sem.run_bind, Instr.buildSlice, underlying, run_program, hu, Sem.run_pure, Result.andThen_ok, sizeOf, typeInfo, hie, h1, if_false, h2, zeroValue, hz, hf, newRow, run_newObj_alloc]
theorem own_build1 (hO : Own M w0 X R S w) (hw : Region.wanted o (yielded ops a.tmps) = true) {t e : TypeId} {x : Operand} (ho : o.op = .buildSlice t 1 #[(0, x)]) {vs : List Value} (hx : a.eval x = .agg vs.toArray)
  (hu : P.underlying t = some (.slice e)) (hf : Program.builtSlice P e 1 [(0, .agg vs.toArray)] = some vs.toArray)
  (h : ∀ n w', Own M w0 (⟨n, vs, e⟩ :: X) R S w' → wpList P ops Q rest (a.put o.dst (.slice (some ⟨n, 0, none⟩) 1 1)) w') : wpList P ops Q (o :: rest) a w :=
 wpList_val hw _ _ (rx_build ho hu (by simp only [List.map_toArray, List.map_cons, List.map_nil, hx]; exact hf)) (h _ _ (hO.alloc vs e))
theorem mem_blocks {A B : List Row} {r : Row} {g : Nat} : g ∈ excl X (A ++ r :: B) ↔ g ∈ X.map (·.n) ++ (A.filterMap (·.v.ownBlock) ++ B.filterMap (·.v.ownBlock)) ∨ r.v.ownBlock = some g := by
 unfold excl
 simp only [List.filterMap_append, List.filterMap_cons, List.mem_append]
 cases e : r.v.ownBlock with
 | none => simp
 | some b =>
  have e2 : (b = g) ↔ (g = b) := eq_comm
  simp only [List.mem_cons, Option.some.injEq, e2]
  constructor
  ·rintro (h | h | h | h)
   ·exact .inl (.inl h)
   ·exact .inl (.inr (.inl h))
   ·exact .inr h
   ·exact .inl (.inr (.inr h))
  ·rintro ((h | h | h) | h)
   ·exact .inl h
   ·exact .inr (.inl h)
   ·exact .inr (.inr (.inr h))
   ·exact .inr (.inr (.inl h))
theorem nodup_blocks {A B : List Row} {r : Row} : (excl X (A ++ r :: B)).Nodup ↔ (X.map (·.n) ++ (A.filterMap (·.v.ownBlock) ++ B.filterMap (·.v.ownBlock))).Nodup ∧ ∀ g, r.v.ownBlock = some g → g ∉ X.map (·.n) ++ (A.filterMap (·.v.ownBlock) ++ B.filterMap (·.v.ownBlock)) := by
 unfold excl
 simp only [List.filterMap_append, List.filterMap_cons]
 cases e : r.v.ownBlock with
 | none => simp
 | some b =>
  have hp : (X.map (·.n) ++ (A.filterMap (·.v.ownBlock) ++ b :: B.filterMap (·.v.ownBlock))).Perm (b :: (X.map (·.n) ++ (A.filterMap (·.v.ownBlock) ++ B.filterMap (·.v.ownBlock)))) := by
   rw [← List.append_assoc, ← List.append_assoc]; exact List.perm_middle
  rw [hp.nodup_iff, List.nodup_cons]
  simp [and_comm]
theorem Own.grow {w' : World} {A B : List Row} {r r' : Row} (hO : Own M w0 X (A ++ r :: B) S w) (hg : w.grownBy w' r.v.ownBlock) (hr : w'.ownsRow 0 r'.e r'.size r'.v r'.k r'.xs)
  (hb : ∀ g, r'.v.ownBlock = some g → r.v.ownBlock = some g ∨ g = w.heap.size) : Own M w0 X (A ++ r' :: B) S w' := by
 have hnd0 := nodup_blocks.1 hO.nd
 have hmem : ∀ g, r.v.ownBlock = some g → g ∈ excl X (A ++ r :: B) := fun g hg => mem_blocks.2 (.inr hg)
 have hin : ∀ g, g ∈ excl X (A ++ r' :: B) → g ∈ excl X (A ++ r :: B) ∨ g = w.heap.size := by
  intro g hg'
  rcases mem_blocks.1 hg' with h | h
  ·exact .inl (mem_blocks.2 (.inl h))
  ·rcases hb g h with h1 | h1
   ·exact .inl (hmem g h1)
   ·exact .inr h1
 have hnd : (excl X (A ++ r' :: B)).Nodup := by
  refine nodup_blocks.2 ⟨hnd0.1, fun g e hm => ?_⟩
  rcases hb g e with h1 | h1
  ·exact hnd0.2 g h1 hm
  ·have := hO.lt g (mem_blocks.2 (.inl hm)); omega
 have hapart : ∀ q, q ∈ A ∨ q ∈ B → q.v.ownBlock = none ∨ q.v.ownBlock ≠ r.v.ownBlock := by
  intro q hq
  cases e1 : q.v.ownBlock with
  | none => exact .inl rfl
  | some b =>
   right
   intro e2
   refine hnd0.2 b e2.symm (List.mem_append.2 (.inr (List.mem_append.2 ?_)))
   exact hq.imp (fun h => List.mem_filterMap.2 ⟨q, h, e1⟩) (fun h => List.mem_filterMap.2 ⟨q, h, e1⟩)
 refine ⟨?_, fun c hc => ?_, fun q hq => ?_, fun s hs => ?_, hnd, fun n hn => ?_, fun s hs hne hm => ?_⟩
 ·refine ⟨hg.os.trans hO.keep.os, hg.tape.trans hO.keep.tape, hg.output.trans hO.keep.output, Nat.le_trans hO.keep.size hg.size, fun k hk hm => ?_⟩
  by_cases e : r.v.ownBlock = some k
  ·rcases hO.free k (hmem k e) with hf | hf
   ·exact absurd hf hm
   ·omega
  ·rw [hg.block k (Nat.lt_of_lt_of_le hk hO.keep.size) (fun e' => e e'.symm)]; exact hO.keep.block k hk hm
 ·refine (hO.chunk c hc).grown hg fun e => ?_
  exact hnd0.2 c.n e (List.mem_append.2 (.inl (List.mem_map.2 ⟨c, hc, rfl⟩)))
 ·rcases List.mem_append.1 hq with h | h
  ·exact (hO.row q (List.mem_append.2 (.inl h))).kept hg (hapart q (.inl h))
  ·rcases List.mem_cons.1 h with rfl | h
   ·exact hr
   ·exact (hO.row q (List.mem_append.2 (.inr (List.mem_cons_of_mem _ h)))).kept hg (hapart q (.inr h))
 ·intro j v hv
  have h1 := hO.ro s hs j v hv
  have hne : r.v.ownBlock ≠ some s.g := fun e => hO.apart s hs (fun e0 => by rw [e0] at hv; cases hv) (hmem _ e)
  rw [World.cell?_of_block (w := w) (hg.block _ (World.block_lt_of_cell? w _ h1) (fun e => hne e.symm))]; exact h1
 ·rcases hin n hn with h | h
  ·exact hO.free n h
  ·exact .inr (by rw [h]; exact hO.keep.size)
 ·rcases hin _ hm with h | h
  ·exact hO.apart s hs hne h
  ·have := ro_lt (hO.ro s hs) hne
   omega
theorem UpdR.split {X X' : List Row} {c c' : Row} (h : UpdR X c c' X') : ∃ A B, X = A ++ c :: B ∧ X' = A ++ c' :: B := by
 induction h with
 | @here _ _ X => exact ⟨[], X, rfl, rfl⟩
 | @there _ _ d _ _ _ ih => obtain ⟨A, B, h1, h2⟩ := ih; exact ⟨d :: A, B, by simp [h1], by simp [h2]⟩
theorem own_append (hO : Own M w0 X R S w) (hgd : o.guard = none) {s x : Operand} {t e : TypeId} (ho : o.op = .call { callee := .builtin .append, args := #[s, x], argTypes := #[t, t] }) {size bytes : Nat} (ht : SliceT P t e size bytes)
  {v : Value} (hs : a.eval s = v) {b m c : Nat} (hx : a.eval x = .slice (some ⟨b, 0, none⟩) m c) {news : List Value} {t' : TypeId} (hm : (⟨b, news, t'⟩ : Chunk) ∈ X) (hl : news.length = m * size) (hm0 : 0 < m) (h1 : news.all (·.oneCell') = true)
  {k : Nat} {xs : List Value} {R1 : Nat → Nat → List Row} (hu : ∀ g cap, UpdR R ⟨v, k, xs, e, size⟩ ⟨.slice (some ⟨g, 0, none⟩) (k + m) cap, k + m, xs ++ news, e, size⟩ (R1 g cap)) (hbytes : (k + m) * bytes ≤ 140737488355328) (hk : k + m ≤ maxLen)
  (h : ∀ g cap w', Own M w0 X (R1 g cap) S w' → wpList P ops Q rest (a.put o.dst (.slice (some ⟨g, 0, none⟩) (k + m) cap)) w') : wpList P ops Q (o :: rest) a w := by
 obtain ⟨hu1, hsz, i, z, hi, hz, hi1, hi2, hz1⟩ := ht
 obtain ⟨A0, B0, hR0, _⟩ := (hu 0 0).split
 have hrow := hO.row ⟨v, k, xs, e, size⟩ (by rw [hR0]; exact List.mem_append.2 (.inr List.mem_cons_self))
 refine wpList_append_lies (P := P) w hgd s x t ho 0 e i z size bytes hu1 hi hz hi1 hi2 hz1 hsz v k xs hs hrow ⟨b, 0, none⟩ m c news hx hl ?_ ?_ hm0 hk hbytes (Nat.zero_le _) _ rfl ?_
 ·intro q u hq
  have hadd : (⟨b, 0, none⟩ : Addr).add q = ⟨b, q, none⟩ := by unfold Addr.add; split <;> simp_all
  rw [hadd]; exact hO.cellAt hm hq
 ·intro u hu'; exact (List.all_eq_true.1 h1) u hu'
 ·intro g cap w' h2 h3 h4 _
  refine h g cap w' ?_
  obtain ⟨A, B, hR, hR'⟩ := (hu g cap).split
  rw [hR']
  refine Own.grow (r := ⟨v, k, xs, e, size⟩) (hR ▸ hO) h3 h2 fun g' hg' => ?_
  have : g' = g := by simpa [Value.ownBlock] using hg'.symm
  subst this; exact h4
end
def fcs (p : Nat → Int) : List Value := [.int .u32 (p 0), .int .u32 (p 1), .int .u32 (p 2), .int .u32 (p 3), .int .u32 (p 4)]
abbrev pv (p : Nat → Int) : Value := .agg (fcs p).toArray
def fupd (p : Nat → Int) (k : Nat) (v : Int) : Nat → Int := fun i => if i = k then v else p i
theorem fset {p : Nat → Int} {k : Nat} (h : k < 5) {v : Int} : (fcs p).set k (.int .u32 v) = fcs (fupd p k v) := by
 rcases five h with rfl | rfl | rfl | rfl | rfl <;> rfl
theorem fcs_at (p : Nat → Int) {k : Nat} (h : k < 5) : (fcs p)[k]? = some (.int .u32 (p k)) := by
 rcases five h with rfl | rfl | rfl | rfl | rfl <;> rfl
theorem fcs_congr {p q : Nat → Int} (h : ∀ k, k < 5 → p k = q k) : fcs p = fcs q := by simp [fcs, h 0, h 1, h 2, h 3, h 4]
def zeroBx : Bx := Bx.of fun _ => ⟨0, 0⟩
theorem row_Range : RowT Tryz.prog 96 2 := ⟨_, Tryz.underlying96, rfl, by kernel_rfl⟩
theorem row_Box : RowT Tryz.prog 98 10 := ⟨_, Tryz.underlying98, rfl, by kernel_rfl⟩
theorem row_Header : RowT Tryz.prog 48 5 := ⟨_, Tryz.underlying48, rfl, by kernel_rfl⟩
theorem row_Five : RowT Tryz.prog 158 5 := ⟨_, Tryz.underlying158, rfl, by kernel_rfl⟩
theorem one_u32 : OneT Tryz.prog 45 := ⟨_, Tryz.underlying45, rfl, by kernel_rfl⟩
theorem one_u16 : OneT Tryz.prog 46 := ⟨_, Tryz.underlying46, rfl, by kernel_rfl⟩
theorem one_u8 : OneT Tryz.prog 5 := ⟨_, Tryz.underlying5, rfl, by kernel_rfl⟩
theorem one_int : OneT Tryz.prog 3 := ⟨_, Tryz.underlying3, rfl, by kernel_rfl⟩
theorem zero_Box : ZeroT Tryz.prog 98 (bcs zeroBx) := by unfold ZeroT; kernel_rfl
theorem zero_Range : ZeroT Tryz.prog 96 [.int .u32 0, .int .u32 0] := by unfold ZeroT; kernel_rfl
theorem zero_Header : ZeroT Tryz.prog 48 [.int .u32 0, .int .u32 0, .int .u8 0, .int .u16 0, .int .u16 0] := by unfold ZeroT; kernel_rfl
theorem zero_Five : ZeroT Tryz.prog 158 (fcs fun _ => 0) := by unfold ZeroT; kernel_rfl
theorem slice_Boxes : SliceT Tryz.prog 81 98 10 40 := ⟨Tryz.underlying81, by omega, by
 obtain ⟨i, h1, h2, h3, h4⟩ := info_parts (show (Tryz.prog.info? 98).map (fun i => (i.zero, i.size, i.bytes)) = some (some (.agg (bcs zeroBx).toArray), 10, 40) by kernel_rfl)
 exact ⟨i, _, h1, h2, h3, h4, rfl⟩⟩
theorem tk_all (cs : List Value) : (cs.drop 0).take cs.length = cs := by simp
theorem tk_rg (b : Bx) {k : Nat} (h : k < 5) : ((bcs b).drop (k * 2)).take ([Value.int .u32 (b.at k).lo, .int .u32 (b.at k).hi] : List Value).length = [.int .u32 (b.at k).lo, .int .u32 (b.at k).hi] := by
 rcases five h with rfl | rfl | rfl | rfl | rfl <;> rfl
theorem bput_rg {b : Bx} {k : Nat} (h : k < 5) {l u : Int} : putAt (bcs b) (k * 2) [.int .u32 l, .int .u32 u] = bcs (b.set k ⟨l, u⟩) := by
 rcases five h with rfl | rfl | rfl | rfl | rfl <;> rfl
abbrev topsL : List Value := fcs topOf
theorem tops_get {k : Nat} (h : k < 5) : topsL[k]? = some (.int .u32 (topOf k)) := by
 rcases five h with rfl | rfl | rfl | rfl | rfl <;> rfl
theorem Own.tops {w0 w : World} {X : List Chunk} {R : List Row} {S : List Ro} {M : List Nat} (hO : Own M w0 X R S w) (ht : Tops w0) (hM : 0 ∉ M) : Tops w := fun k hk => by
 rw [World.cell?_of_block (w := w0) (hO.keep.block _ ht.lt hM)]; exact ht k hk
theorem own_tops {w : World} (ht : Tops w) : Own [] w [] [] [⟨0, 0, topsL⟩] w :=
 (own_start [] w).addRo ⟨0, 0, topsL⟩ (fun j v hj => by
  have hl := (List.getElem?_eq_some_iff.1 hj).1
  have hl' : j < 5 := hl
  have := ht j hl'
  rw [tops_get hl'] at hj
  cases hj
  simpa using this) (by simp [excl])
section
variable (w : World)
theorem ixb_at (b : Bx) {k : Nat} (hk : k < 5) : Sem.run Tryz.prog (Instr.index 98 (.agg (bcs b).toArray) (.int .i64 ↑k)) w = .ok (.agg #[.int .u32 (b.at k).lo, .int .u32 (b.at k).hi]) w := by
 rcases five hk with rfl | rfl | rfl | rfl | rfl <;> kernel_rfl
theorem ix5_at (p : Nat → Int) {k : Nat} (hk : k < 5) : Sem.run Tryz.prog (Instr.index 158 (pv p) (.int .i64 ↑k)) w = .ok (.int .u32 (p k)) w := by
 rcases five hk with rfl | rfl | rfl | rfl | rfl <;> kernel_rfl
end
def LoadsAt (P : Program) (w : World) (t : TypeId) (n off : Nat) (v : Value) : Prop :=
 (∃ s vs, RowT P t s ∧ vs.length = s ∧ w.rangeAt n off vs ∧ v = .agg vs.toArray) ∨ (OneT P t ∧ w.cell? ⟨n, off, none⟩ = some v)
section
variable {P : Program} {w : World} {t : TypeId} {n off : Nat}
theorem ld_row {s : Nat} {vs : List Value} (ht : RowT P t s) (hr : w.rangeAt n off vs) (hs : vs.length = s) : LoadsAt P w t n off (.agg vs.toArray) := .inl ⟨s, vs, ht, hs, hr, rfl⟩
theorem ld_one {v : Value} (ht : OneT P t) (hc : w.cell? ⟨n, off, none⟩ = some v) : LoadsAt P w t n off v := .inr ⟨ht, hc⟩
end
section
variable {P : Program} {ops : Array Oper} {rest : List Oper} {o : Oper} {a : Act} {w w0 w' : World} {Q : Exit → Act → World → Prop} {M : List Nat} {X X' : List Chunk} {R : List Row} {S : List Ro}
theorem rx_ld {t : TypeId} {x : Operand} {n off : Nat} {v : Value} (ho : o.op = .load t x) (hx : a.eval x = .pointer (some ⟨n, off, none⟩)) (hl : LoadsAt P w t n off v) : (execOp a.eval o).run P w = .ok (.value v) w := by
 rcases hl with ⟨s, vs, ht, hs, hr, rfl⟩ | ⟨ht, hc⟩
 ·exact rx_load ho hx ht hs hr
 ·exact rx_load1 ho hx ht hc
theorem Own.roRangeG (hO : Own M w0 X R S w) {g j : Nat} {xs vs : List Value} (hm : (⟨g, 0, xs⟩ : Ro) ∈ S) (hv : (xs.drop j).take vs.length = vs) : w.rangeAt g j vs := Nat.zero_add j ▸ hO.roRange hm hv
theorem Own.roCellG (hO : Own M w0 X R S w) {g j : Nat} {xs : List Value} (hm : (⟨g, 0, xs⟩ : Ro) ∈ S) {v : Value} (hv : xs[j]? = some v) : w.cell? ⟨g, j, none⟩ = some v := Nat.zero_add j ▸ hO.roCell hm hv
theorem Own.roRange3 (hO : Own M w0 X R S w) {g off i j : Nat} {xs vs : List Value} (hm : (⟨g, off, xs⟩ : Ro) ∈ S) (hv : (xs.drop (i + j)).take vs.length = vs) : w.rangeAt g (off + i + j) vs := by
 rw [Nat.add_assoc]; exact hO.roRange hm hv
theorem Own.roCell3 (hO : Own M w0 X R S w) {g off i j : Nat} {xs : List Value} {v : Value} (hm : (⟨g, off, xs⟩ : Ro) ∈ S) (hv : xs[i + j]? = some v) : w.cell? ⟨g, off + i + j, none⟩ = some v := by
 rw [Nat.add_assoc]; exact hO.roCell hm hv
theorem Own.roCell4 (hO : Own M w0 X R S w) {g off i j m : Nat} {xs : List Value} {v : Value} (hm : (⟨g, off, xs⟩ : Ro) ∈ S) (hv : xs[i + j + m]? = some v) : w.cell? ⟨g, off + i + j + m, none⟩ = some v := by
 rw [show off + i + j + m = off + (i + j + m) by omega]; exact hO.roCell hm hv
theorem Own.roRange0 (hO : Own M w0 X R S w) {g off : Nat} {xs vs : List Value} (hm : (⟨g, off, xs⟩ : Ro) ∈ S) (hv : xs.take vs.length = vs) : w.rangeAt g off vs := by
 have := hO.roRange (j := 0) hm (vs := vs) (by simpa using hv)
 simpa using this
theorem Own.rowCell (hO : Own M w0 X R S w) {g k cap j size : Nat} {xs : List Value} {e : TypeId} {v : Value} (hm : (⟨.slice (some ⟨g, 0, none⟩) k cap, k, xs, e, size⟩ : Row) ∈ R) (hv : xs[j]? = some v) : w.cell? ⟨g, j, none⟩ = some v := by
 have h := hO.row _ hm
 have hl := (List.getElem?_eq_some_iff.1 hv).1
 rw [h.cellAt j (by rw [← h.1]; exact hl)]; exact hv
theorem Own.rowRange (hO : Own M w0 X R S w) {g k cap j size : Nat} {xs vs : List Value} {e : TypeId} (hm : (⟨.slice (some ⟨g, 0, none⟩) k cap, k, xs, e, size⟩ : Row) ∈ R) (hv : (xs.drop j).take vs.length = vs) : w.rangeAt g j vs := by
 intro i u hu
 refine hO.rowCell hm ?_
 have hl := (List.getElem?_eq_some_iff.1 hu).1
 rw [← hv, List.getElem?_take, if_pos hl, List.getElem?_drop] at hu
 exact hu
theorem ldS9 {P : Program} {w : World} {t : TypeId} {n off : Nat} {v : Value} (hl : LoadsAt P w t n off v := by (first | (refine' ld_row ?ht (hO.range ?hm ?hv) ?hs; (case ht => (with_reducible (first | exact row_Box | exact row_Range | exact row_Header | exact row_Five | exact row_Tape | exact row_Prefix | exact row_Truths | exact row_Packet | exact row_Group))); (case hm => (repeat (first | exact List.mem_cons_self | refine List.mem_cons_of_mem _ ?_))); (case hv => (first | assumption | exact tk_rg _ (by assumption) | exact tk_box _ (by assumption) | exact tk_all _)); (case hs => rfl)) | (refine' ld_one ?ht (hO.cellAt ?hm ?hv); (case ht => (with_reducible (first | exact one_u32 | exact one_int | exact one_u16 | exact one_u8 | exact one_ints | exact one_bool | exact one_bytes | exact one_u64 | exact one_set | exact one_boxes))); (case hm => (repeat (first | exact List.mem_cons_self | refine List.mem_cons_of_mem _ ?_))); (case hv => (first | assumption | exact tcs5_at _ (by assumption) | exact ints_at (by assumption) | exact cb_lo _ (by assumption) (by assumption) | exact cb_hi _ (by assumption) (by assumption) | exact fcs_at _ (by assumption) | exact tops_get (by assumption) | exact bcs_lo _ (by assumption) | exact bcs_hi _ (by assumption) | rfl))) | (refine' ld_row ?ht (hO.roRange ?hm ?hv) ?hs; (case ht => (with_reducible (first | exact row_Box | exact row_Range | exact row_Header | exact row_Five | exact row_Tape | exact row_Prefix | exact row_Truths | exact row_Packet | exact row_Group))); (case hm => (repeat (first | exact List.mem_cons_self | refine List.mem_cons_of_mem _ ?_))); (case hv => (first | assumption | exact tk_rg _ (by assumption) | exact tk_box _ (by assumption) | exact tk_all _)); (case hs => rfl)) | (refine' ld_one ?ht (hO.roCell ?hm ?hv); (case ht => (with_reducible (first | exact one_u32 | exact one_int | exact one_u16 | exact one_u8 | exact one_ints | exact one_bool | exact one_bytes | exact one_u64 | exact one_set | exact one_boxes))); (case hm => (repeat (first | exact List.mem_cons_self | refine List.mem_cons_of_mem _ ?_))); (case hv => (first | assumption | exact tcs5_at _ (by assumption) | exact ints_at (by assumption) | exact cb_lo _ (by assumption) (by assumption) | exact cb_hi _ (by assumption) (by assumption) | exact fcs_at _ (by assumption) | exact tops_get (by assumption) | exact bcs_lo _ (by assumption) | exact bcs_hi _ (by assumption) | rfl))) | (refine' ld_row ?ht (hO.roRangeG ?hm ?hv) ?hs; (case ht => (with_reducible (first | exact row_Box | exact row_Range | exact row_Header | exact row_Five | exact row_Tape | exact row_Prefix | exact row_Truths | exact row_Packet | exact row_Group))); (case hm => (repeat (first | exact List.mem_cons_self | refine List.mem_cons_of_mem _ ?_))); (case hv => (first | assumption | exact tk_rg _ (by assumption) | exact tk_box _ (by assumption) | exact tk_all _)); (case hs => rfl)) | (refine' ld_one ?ht (hO.roCellG ?hm ?hv); (case ht => (with_reducible (first | exact one_u32 | exact one_int | exact one_u16 | exact one_u8 | exact one_ints | exact one_bool | exact one_bytes | exact one_u64 | exact one_set | exact one_boxes))); (case hm => (repeat (first | exact List.mem_cons_self | refine List.mem_cons_of_mem _ ?_))); (case hv => (first | assumption | exact tcs5_at _ (by assumption) | exact ints_at (by assumption) | exact cb_lo _ (by assumption) (by assumption) | exact cb_hi _ (by assumption) (by assumption) | exact fcs_at _ (by assumption) | exact tops_get (by assumption) | exact bcs_lo _ (by assumption) | exact bcs_hi _ (by assumption) | rfl))) | (refine' ld_row ?ht (hO.roRange3 ?hm ?hv) ?hs; (case ht => (with_reducible (first | exact row_Box | exact row_Range | exact row_Header | exact row_Five | exact row_Tape | exact row_Prefix | exact row_Truths | exact row_Packet | exact row_Group))); (case hm => (repeat (first | exact List.mem_cons_self | refine List.mem_cons_of_mem _ ?_))); (case hv => (first | assumption | exact tk_rg _ (by assumption) | exact tk_box _ (by assumption) | exact tk_all _)); (case hs => rfl)) | (refine' ld_row ?ht (hO.roRange0 ?hm ?hv) ?hs; (case ht => (with_reducible (first | exact row_Box | exact row_Range | exact row_Header | exact row_Five | exact row_Tape | exact row_Prefix | exact row_Truths | exact row_Packet | exact row_Group))); (case hm => (repeat (first | exact List.mem_cons_self | refine List.mem_cons_of_mem _ ?_))); (case hv => (first | exact tk_boxOne _ | exact tk_box0 _ (by assumption))); (case hs => rfl)) | (refine' ld_one ?ht (hO.roCell3 ?hm ?hv); (case ht => (with_reducible (first | exact one_u32 | exact one_int | exact one_u16 | exact one_u8 | exact one_ints | exact one_bool | exact one_bytes | exact one_u64 | exact one_set | exact one_boxes))); (case hm => (repeat (first | exact List.mem_cons_self | refine List.mem_cons_of_mem _ ?_))); (case hv => (first | assumption | exact tcs5_at _ (by assumption) | exact ints_at (by assumption) | exact cb_lo _ (by assumption) (by assumption) | exact cb_hi _ (by assumption) (by assumption) | exact fcs_at _ (by assumption) | exact tops_get (by assumption) | exact bcs_lo _ (by assumption) | exact bcs_hi _ (by assumption) | rfl))) | (refine' ld_one ?ht (hO.roCell4 ?hm ?hv); (case ht => (with_reducible (first | exact one_u32 | exact one_int | exact one_u16 | exact one_u8 | exact one_ints | exact one_bool | exact one_bytes | exact one_u64 | exact one_set | exact one_boxes))); (case hm => (repeat (first | exact List.mem_cons_self | refine List.mem_cons_of_mem _ ?_))); (case hv => (first | assumption | exact tcs5_at _ (by assumption) | exact ints_at (by assumption) | exact cb_lo _ (by assumption) (by assumption) | exact cb_hi _ (by assumption) (by assumption) | exact fcs_at _ (by assumption) | exact tops_get (by assumption) | exact bcs_lo _ (by assumption) | exact bcs_hi _ (by assumption) | rfl))) | (refine' ld_row ?ht (hO.rowRange ?hm ?hv) ?hs; (case ht => (with_reducible (first | exact row_Box | exact row_Range | exact row_Header | exact row_Five | exact row_Tape | exact row_Prefix | exact row_Truths | exact row_Packet | exact row_Group))); (case hm => (repeat (first | exact List.mem_cons_self | refine List.mem_cons_of_mem _ ?_))); (case hv => (first | assumption | exact tk_rg _ (by assumption) | exact tk_box _ (by assumption) | exact tk_all _)); (case hs => rfl)) | (refine' ld_one ?ht (hO.rowCell ?hm ?hv); (case ht => (with_reducible (first | exact one_u32 | exact one_int | exact one_u16 | exact one_u8 | exact one_ints | exact one_bool | exact one_bytes | exact one_u64 | exact one_set | exact one_boxes))); (case hm => (repeat (first | exact List.mem_cons_self | refine List.mem_cons_of_mem _ ?_))); (case hv => (first | assumption | exact tcs5_at _ (by assumption) | exact ints_at (by assumption) | exact cb_lo _ (by assumption) (by assumption) | exact cb_hi _ (by assumption) (by assumption) | exact fcs_at _ (by assumption) | exact tops_get (by assumption) | exact bcs_lo _ (by assumption) | exact bcs_hi _ (by assumption) | rfl))))) : LoadsAt P w t n off v := hl
theorem own_ld (hw : Region.wanted o (yielded ops a.tmps) = true := by rfl) {t : TypeId} {x : Operand} (ho : o.op = .load t x := by rfl) {n off : Nat} (hx : a.eval x = .pointer (some ⟨n, off, none⟩) := by rfl) {v : Value}
  (hl : LoadsAt P w t n off v := by exact ldS9)
  (h : wpList P ops Q rest (a.put o.dst v) w) : wpList P ops Q (o :: rest) a w :=
 wpList_val hw _ _ (rx_ld ho hx hl) h
theorem q_ld {K : Act → Prop} {t : TypeId} {x : Operand} (ho : o.op = .load t x := by rfl) {n off : Nat} (hx : a.eval x = .pointer (some ⟨n, off, none⟩) := by rfl) {v : Value}
  (hl : ∀ wq, Own M w0 X R S wq → LoadsAt P wq t n off v := by (intro wq hO; exact ldS9))
  (h : K (a.put o.dst v)) : o.quiet P a (Own M w0 X R S) K := q_val _ (fun _ hO => rx_ld ho hx (hl _ hO)) h
theorem s_ld {K : Act → Prop} {t : TypeId} {x : Operand} (ho : o.op = .load t x := by rfl) {n off : Nat} (hx : a.eval x = .pointer (some ⟨n, off, none⟩) := by rfl) {v : Value}
  (hl : LoadsAt P w t n off v := by exact ldS9)
  (h : K (a.put o.dst v)) : o.still P a w K := s_val _ (rx_ld ho hx hl) h
theorem own_stR (hO : Own M w0 X R S w) (hw : Region.wanted o (yielded ops a.tmps) = true := by rfl) {t : TypeId} {x y : Operand} (ho : o.op = .store t x y := by rfl) {n off s : Nat} (hx : a.eval x = .pointer (some ⟨n, off, none⟩) := by rfl)
  {vs : List Value} (hy : a.eval y = .agg vs.toArray := by rfl) (ht : RowT P t s := by (with_reducible (first | exact row_Box | exact row_Range | exact row_Header | exact row_Five | exact row_Tape | exact row_Prefix | exact row_Truths | exact row_Packet | exact row_Group))) (hs : vs.length = s := by rfl) {cs cs2 : List Value} {t' : TypeId} (hu : Upd X ⟨n, cs, t'⟩ ⟨n, cs2, t'⟩ X' := by (repeat (first | exact Upd.here | apply Upd.there))) (hn : putAt cs off vs = cs2 := by (first | exact bput_rg (by assumption) | exact putAt_all _ _ rfl | rfl)) (hl : off + s ≤ cs.length := by (first | (simp; done) | (show _ < 10; omega) | (show _ < 5; omega) | (show _ ≤ 10; omega) | omega)) (h1 : vs.all (·.oneCell') = true := by rfl)
  (h : ∀ w', Own M w0 X' R S w' → wpList P ops Q rest (a.put o.dst undef) w') : wpList P ops Q (o :: rest) a w := by
 subst hn
 exact own_store hO hw ho hx hy ht hs hu hl h1 h
theorem own_st1 (hO : Own M w0 X R S w) (hw : Region.wanted o (yielded ops a.tmps) = true := by rfl) {t : TypeId} {x y : Operand} (ho : o.op = .store t x y := by rfl) {n off : Nat} (hx : a.eval x = .pointer (some ⟨n, off, none⟩) := by rfl)
  {v : Value} (hy : a.eval y = v := by (first | exact (rfl : _ = Value.int _ _) | exact (rfl : _ = Value.bool _) | exact (rfl : _ = Value.slice _ _ _) | exact (rfl : _ = Value.pointer _) | exact (rfl : _ = Value.string _))) (ht : OneT P t := by (with_reducible (first | exact one_u32 | exact one_int | exact one_u16 | exact one_u8 | exact one_ints | exact one_bool | exact one_bytes | exact one_u64 | exact one_set | exact one_boxes))) {cs cs2 : List Value} {t' : TypeId} (hu : Upd X ⟨n, cs, t'⟩ ⟨n, cs2, t'⟩ X' := by (repeat (first | exact Upd.here | apply Upd.there))) (hn : cs.set off v = cs2 := by (first | exact bset_lo (by assumption) | exact bset_hi (by assumption) | exact fset (by assumption) | exact tset (by assumption) | (simp only [List.set_cons_zero, List.set_cons_succ]; done) | rfl)) (hl : off < cs.length := by (first | (simp; done) | (show _ < 10; omega) | (show _ < 5; omega) | (show _ ≤ 10; omega) | omega)) (h1 : v.oneCell' = true := by rfl)
  (h : ∀ w', Own M w0 X' R S w' → wpList P ops Q rest (a.put o.dst undef) w') : wpList P ops Q (o :: rest) a w := by
 subst hn
 exact own_store1 hO hw ho hx hy ht hu hl h1 h
theorem own_al (hO : Own M w0 X R S w) (hw : Region.wanted o (yielded ops a.tmps) = true := by rfl) {t : TypeId} (ho : o.op = .alloc t := by rfl) {cs : List Value} (hz : ZeroT P t cs := by (with_reducible (first | exact zero_Group | exact zero_Truths | exact zero_Packet | exact zero_Set | exact zero_Prefix | exact zero_Box | exact zero_Range | exact zero_Five | exact zero_Header)))
  (h : ∀ n w', Own M w0 (⟨n, cs, t⟩ :: X) R S w' → wpList P ops Q rest (a.put o.dst (.pointer (some ⟨n, 0, none⟩))) w') : wpList P ops Q (o :: rest) a w := own_alloc hO hw ho hz h
theorem own_bx (hO : Own M w0 X R S w) (hw : Region.wanted o (yielded ops a.tmps) = true := by rfl) {t : TypeId} {x : Operand} (ho : o.op = .box t x := by rfl) {cs : List Value} (hx : (a.eval x).cells = cs.toArray := by rfl)
  (h : ∀ n w', Own M w0 (⟨n, cs, t⟩ :: X) R S w' → wpList P ops Q rest (a.put o.dst (.pointer (some ⟨n, 0, none⟩))) w') : wpList P ops Q (o :: rest) a w := own_box hO hw ho hx h
theorem own_ap (hO : Own M w0 X R S w) (hgd : o.guard = none := by rfl) {s x : Operand} {t e : TypeId} (ho : o.op = .call { callee := .builtin .append, args := #[s, x], argTypes := #[t, t] } := by rfl) {size bytes : Nat} (ht : SliceT P t e size bytes := by (with_reducible (first | exact slice_Boxes | exact slice_Set | exact slice_u8 | exact slice_u64 | exact slice_Groups | exact slice_Ranges)))
  {v : Value} (hs : a.eval s = v := by rfl) {b m c : Nat} (hx : a.eval x = .slice (some ⟨b, 0, none⟩) m c := by rfl) {news : List Value} {t' : TypeId} (hm : (⟨b, news, t'⟩ : Chunk) ∈ X := by (repeat (first | exact List.mem_cons_self | refine List.mem_cons_of_mem _ ?_))) (hl : news.length = m * size := by rfl) (hm0 : 0 < m := by omega) (h1 : news.all (·.oneCell') = true := by rfl)
  {k : Nat} {xs : List Value} {R1 : Nat → Nat → List Row} (hu : ∀ g cap, UpdR R ⟨v, k, xs, e, size⟩ ⟨.slice (some ⟨g, 0, none⟩) (k + m) cap, k + m, xs ++ news, e, size⟩ (R1 g cap) := by (intro _ _; (repeat (first | exact UpdR.here | apply UpdR.there)))) (hbytes : (k + m) * bytes ≤ 140737488355328 := by (first | omega | (simp; omega))) (hk : k + m ≤ maxLen := by (unfold maxLen; (first | omega | (simp; omega))))
  (h : ∀ g cap w', Own M w0 X (R1 g cap) S w' → wpList P ops Q rest (a.put o.dst (.slice (some ⟨g, 0, none⟩) (k + m) cap)) w') : wpList P ops Q (o :: rest) a w :=
 own_append hO hgd ho ht hs hx hm hl hm0 h1 hu hbytes hk h
theorem ldN {t : TypeId} {x : Operand} {n off : Nat} {v : Value} (h : wpList P ops Q rest (a.put o.dst v) w) (ho : o.op = .load t x := by rfl) (hw : Region.wanted o (yielded ops a.tmps) = true := by rfl) (hx : a.eval x = .pointer (some ⟨n, off, none⟩) := by rfl) (hl : LoadsAt P w t n off v := by exact ldS9) : wpList P ops Q (o :: rest) a w :=
 own_ld (hw := hw) (ho := ho) (hx := hx) (hl := hl) (h := h)
theorem stN {t : TypeId} {x y : Operand} {n off s : Nat} {vs : List Value} {cs cs2 : List Value} {t' : TypeId} (hO : Own M w0 X R S w) (h : ∀ w', Own M w0 X' R S w' → wpList P ops Q rest (a.put o.dst undef) w') (ho : o.op = .store t x y := by rfl) (hw : Region.wanted o (yielded ops a.tmps) = true := by rfl) (hx : a.eval x = .pointer (some ⟨n, off, none⟩) := by rfl) (hy : a.eval y = .agg vs.toArray := by rfl) (ht : RowT P t s := by (with_reducible (first | exact row_Box | exact row_Range | exact row_Header | exact row_Five | exact row_Tape | exact row_Prefix | exact row_Truths | exact row_Packet | exact row_Group))) (hs : vs.length = s := by rfl) (hu : Upd X ⟨n, cs, t'⟩ ⟨n, cs2, t'⟩ X' := by (repeat (first | exact Upd.here | apply Upd.there))) (hn : putAt cs off vs = cs2 := by (first | exact bput_rg (by assumption) | exact putAt_all _ _ rfl | rfl)) (hl : off + s ≤ cs.length := by (first | (simp; done) | (show _ < 10; omega) | (show _ < 5; omega) | (show _ ≤ 10; omega) | omega)) (h1 : vs.all (·.oneCell') = true := by rfl) : wpList P ops Q (o :: rest) a w :=
 own_stR (hO := hO) (hw := hw) (ho := ho) (hx := hx) (hy := hy) (ht := ht) (hs := hs) (hu := hu) (hn := hn) (hl := hl) (h1 := h1) (h := h)
theorem st1N {t : TypeId} {x y : Operand} {n off : Nat} {v : Value} {cs cs2 : List Value} {t' : TypeId} (hO : Own M w0 X R S w) (h : ∀ w', Own M w0 X' R S w' → wpList P ops Q rest (a.put o.dst undef) w') (ho : o.op = .store t x y := by rfl) (hw : Region.wanted o (yielded ops a.tmps) = true := by rfl) (hx : a.eval x = .pointer (some ⟨n, off, none⟩) := by rfl) (hy : a.eval y = v := by (first | exact (rfl : _ = Value.int _ _) | exact (rfl : _ = Value.bool _) | exact (rfl : _ = Value.slice _ _ _) | exact (rfl : _ = Value.pointer _) | exact (rfl : _ = Value.string _))) (ht : OneT P t := by (with_reducible (first | exact one_u32 | exact one_int | exact one_u16 | exact one_u8 | exact one_ints | exact one_bool | exact one_bytes | exact one_u64 | exact one_set | exact one_boxes))) (hu : Upd X ⟨n, cs, t'⟩ ⟨n, cs2, t'⟩ X' := by (repeat (first | exact Upd.here | apply Upd.there))) (hn : cs.set off v = cs2 := by (first | exact bset_lo (by assumption) | exact bset_hi (by assumption) | exact fset (by assumption) | exact tset (by assumption) | (simp only [List.set_cons_zero, List.set_cons_succ]; done) | rfl)) (hl : off < cs.length := by (first | (simp; done) | (show _ < 10; omega) | (show _ < 5; omega) | (show _ ≤ 10; omega) | omega)) (h1 : v.oneCell' = true := by rfl) : wpList P ops Q (o :: rest) a w :=
 own_st1 (hO := hO) (hw := hw) (ho := ho) (hx := hx) (hy := hy) (ht := ht) (hu := hu) (hn := hn) (hl := hl) (h1 := h1) (h := h)
theorem al9 {t : TypeId} {cs : List Value} (d : Nat) (hO : Own M w0 X R S w) (h : ∀ n w', Own M w0 (⟨n, cs, t⟩ :: X) R S w' → wpList P ops Q rest (a.put o.dst (.pointer (some ⟨n, 0, none⟩))) w') (_hd : o.dst = some d := by rfl) (ho : o.op = .alloc t := by rfl) (hw : Region.wanted o (yielded ops a.tmps) = true := by rfl) (hz : ZeroT P t cs := by (with_reducible (first | exact zero_Group | exact zero_Truths | exact zero_Packet | exact zero_Set | exact zero_Prefix | exact zero_Box | exact zero_Range | exact zero_Five | exact zero_Header))) : wpList P ops Q (o :: rest) a w :=
 own_al (hO := hO) (hw := hw) (ho := ho) (hz := hz) (h := h)
theorem bx9 {t : TypeId} {x : Operand} {cs : List Value} (d : Nat) (hO : Own M w0 X R S w) (h : ∀ n w', Own M w0 (⟨n, cs, t⟩ :: X) R S w' → wpList P ops Q rest (a.put o.dst (.pointer (some ⟨n, 0, none⟩))) w') (_hd : o.dst = some d := by rfl) (ho : o.op = .box t x := by rfl) (hw : Region.wanted o (yielded ops a.tmps) = true := by rfl) (hx : (a.eval x).cells = cs.toArray := by rfl) : wpList P ops Q (o :: rest) a w :=
 own_bx (hO := hO) (hw := hw) (ho := ho) (hx := hx) (h := h)
theorem ap9 {s x : Operand} {t e : TypeId} {size bytes : Nat} {v : Value} {b m c : Nat} {news : List Value} {t' : TypeId} {k : Nat} {xs : List Value} {R1 : Nat → Nat → List Row} (d : Nat) (hO : Own M w0 X R S w) (h : ∀ g cap w', Own M w0 X (R1 g cap) S w' → wpList P ops Q rest (a.put o.dst (.slice (some ⟨g, 0, none⟩) (k + m) cap)) w') (_hd : o.dst = some d := by rfl) (ho : o.op = .call { callee := .builtin .append, args := #[s, x], argTypes := #[t, t] } := by rfl) (hgd : o.guard = none := by rfl) (ht : SliceT P t e size bytes := by (with_reducible (first | exact slice_Boxes | exact slice_Set | exact slice_u8 | exact slice_u64 | exact slice_Groups | exact slice_Ranges))) (hs : a.eval s = v := by rfl) (hx : a.eval x = .slice (some ⟨b, 0, none⟩) m c := by rfl) (hm : (⟨b, news, t'⟩ : Chunk) ∈ X := by (repeat (first | exact List.mem_cons_self | refine List.mem_cons_of_mem _ ?_))) (hl : news.length = m * size := by rfl) (hm0 : 0 < m := by omega) (h1 : news.all (·.oneCell') = true := by rfl) (hu : ∀ g cap, UpdR R ⟨v, k, xs, e, size⟩ ⟨.slice (some ⟨g, 0, none⟩) (k + m) cap, k + m, xs ++ news, e, size⟩ (R1 g cap) := by (intro _ _; (repeat (first | exact UpdR.here | apply UpdR.there)))) (hbytes : (k + m) * bytes ≤ 140737488355328 := by (first | omega | (simp; omega))) (hk : k + m ≤ maxLen := by (unfold maxLen; (first | omega | (simp; omega)))) : wpList P ops Q (o :: rest) a w :=
 own_ap (hO := hO) (hgd := hgd) (ho := ho) (ht := ht) (hs := hs) (hx := hx) (hm := hm) (hl := hl) (hm0 := hm0) (h1 := h1) (hu := hu) (hbytes := hbytes) (hk := hk) (h := h)
theorem bl9 {t e : TypeId} {x : Operand} {vs : List Value} (d : Nat) (hO : Own M w0 X R S w) (h : ∀ n w', Own M w0 (⟨n, vs, e⟩ :: X) R S w' → wpList P ops Q rest (a.put o.dst (.slice (some ⟨n, 0, none⟩) 1 1)) w') (_hd : o.dst = some d := by rfl) (ho : o.op = .buildSlice t 1 #[(0, x)] := by exact rfl) (hw : Region.wanted o (yielded ops a.tmps) = true := by rfl) (hx : a.eval x = .agg vs.toArray := by exact rfl) (hu : P.underlying t = some (.slice e) := by (first | exact Tryz.underlying81)) (hf : Program.builtSlice P e 1 [(0, .agg vs.toArray)] = some vs.toArray := by kernel_rfl) : wpList P ops Q (o :: rest) a w :=
 own_build1 (hO := hO) (hw := hw) (ho := ho) (hx := hx) (hu := hu) (hf := hf) (h := h)
end
def fullBx : Bx := Bx.of fun k => ⟨0, topOf k⟩
def Hd.of (p : Nat → Int) : Hd := ⟨p 0, p 1, p 2, p 3, p 4⟩
theorem values_any (h : Hd) (w : World) (ho : h.ok) :
  Calls Tryz.prog 192 #[hv h] w fun e w' => e = .returned (pv h.at) ∧ Below w.heap.size w w' := by
 obtain ⟨⟨a0, a1⟩, ⟨b0, b1⟩, ⟨c0, c1⟩, ⟨d0, d1⟩, e0, e1⟩ := ho
 have hO := own_start [] w
 go_enter Tryz.func192, Tryz.ntmps192
 go_wp2_with (first | refine ldN ?_ | (refine stN hO ?_; clear hO; intro wv hO) | (refine bx9 1 hO ?_; clear hO; intro n1 wv hO) | (refine al9 2 hO ?_; clear hO; intro n2 wv hO))
 exact bodyPost_ret (own_res_cell hO Tryz.results192 rfl List.mem_cons_self (by (exact row_len (by (with_reducible (exact row_Five))) (by rfl))) rfl) rfl ⟨rfl, hO.keep.below⟩
theorem header_any (p : Nat → Int) (w : World) (ho : (Hd.of p).ok) :
  Calls Tryz.prog 202 #[pv p] w fun e w' => e = .returned (hv (Hd.of p)) ∧ Below w.heap.size w w' := by
 obtain ⟨⟨a0, a1⟩, ⟨b0, b1⟩, ⟨c0, c1⟩, ⟨d0, d1⟩, e0, e1⟩ := ho
 simp only [Hd.of] at a0 a1 b0 b1 c0 c1 d0 d1 e0 e1
 have hO := own_start [] w
 go_enter Tryz.func202, Tryz.ntmps202
 go_wp2_with (first | refine ldN ?_ | (refine stN hO ?_; clear hO; intro wv hO) | (refine bx9 1 hO ?_; clear hO; intro n1 wv hO) | (refine al9 2 hO ?_; clear hO; intro n2 wv hO))
 exact bodyPost_ret (own_res_cell hO Tryz.results202 rfl List.mem_cons_self (by (exact row_len (by (with_reducible (exact row_Header))) (by rfl))) rfl) rfl ⟨rfl, hO.keep.below⟩
def fullK (k : Nat) : Bx := Bx.of fun i => if i < k then ⟨0, topOf i⟩ else ⟨0, 0⟩
theorem bx_step {f : Nat → Nat → Rg} {z : Nat → Rg} {k : Nat} : (Bx.of fun i => if i < k then f k i else z i).set k (f k k) = Bx.of fun i => if i < k + 1 then f k i else z i := by
 refine Bx.of_congr fun i hi => ?_
 by_cases e : i = k
 ·subst e; simp
 ·rw [if_neg e, Bx.at_of _ hi]
  by_cases h1 : i < k
  ·rw [if_pos h1, if_pos (by omega)]
  ·rw [if_neg h1, if_neg (by omega)]
theorem fullK_succ (k : Nat) (h : k < 5) : (fullK k).set k ⟨((fullK k).at k).lo, topOf k⟩ = fullK (k + 1) := by
 rw [show ((fullK k).at k).lo = 0 by unfold fullK; rw [Bx.at_of _ h]; simp]
 exact bx_step (f := fun _ i => ⟨0, topOf i⟩) (z := fun _ => ⟨0, 0⟩)
theorem fullK_five : fullK 5 = fullBx := Bx.of_congr fun i hi => by rw [if_pos hi]
theorem full_any (w : World) (ht : Tops w) :
  Calls Tryz.prog 152 #[] w fun e w' => e = .returned (bv fullBx) ∧ Below w.heap.size w w' := by
 have hO := own_tops ht
 go_enter Tryz.func152, Tryz.ntmps152
 go_wp2_with (first | refine ldN ?_ | (refine al9 0 hO ?_; clear hO; intro n0 wv hO) | (refine al9 1 hO ?_; clear hO; intro n1 wv hO))
 go_loopw [5] (fun i wr => ∃ k : Nat, k ≤ 5 ∧ i = .int .i64 k ∧ Own [] w [⟨n1, bcs (fullK k), 98⟩, ⟨n0, bcs zeroBx, 98⟩] [] [⟨0, 0, topsL⟩] wr) (fun i _ => 5 - (intOf i).toNat)
 case atStart => exact ⟨0, by omega, rfl, hO⟩
 case round =>
  clear hO
  obtain ⟨k, hk, rfl, hO⟩ := hrel
  by_cases hlt : k < 5
  ·have hix := fun w => ix5_at w topOf hlt
   go_wp2_with (refine st1N hO ?_; clear hO; intro wv hO)
   go_roundw
   case rel => exact ⟨k + 1, by omega, by go_num, by rw [← fullK_succ k hlt]; exact hO⟩
   case measure => simp [intOf]; omega
  ·obtain rfl : k = 5 := by omega
   rw [fullK_five] at hO
   go_wp2_with (first | refine ldN ?_ | (refine stN hO ?_; clear hO; intro wv hO))
   exact bodyPost_ret (own_res_cell hO Tryz.results152 rfl (by (repeat (first | exact List.mem_cons_self | refine List.mem_cons_of_mem _ ?_))) (by (exact row_len (by (with_reducible (exact row_Box))) (by rfl))) rfl) rfl ⟨rfl, hO.keep.below⟩
theorem top_any (f : Nat) (w : World) (ht : Tops w) (h5 : f < 5) :
  Calls Tryz.prog 153 #[.int .i64 f] w fun e w' => e = .returned (.int .u32 (topOf f)) ∧ w = w' := by
 have g' := ht f h5
 clear ht
 go_enter Tryz.func153, Tryz.ntmps153
 go_wp2
 go_ret
 exact ⟨rfl, rfl⟩
def Hd.set (h : Hd) (k : Nat) (v : Int) : Hd := Hd.of fun i => if i = k then v else h.at i
theorem Hd.set_ok {h : Hd} (ho : h.ok) {k : Nat} {v : Int} (h0 : 0 ≤ v) (h1 : v ≤ topOf k) (hk : k < 5) : (h.set k v).ok := by
 obtain ⟨⟨a0, a1⟩, ⟨b0, b1⟩, ⟨c0, c1⟩, ⟨d0, d1⟩, e0, e1⟩ := ho
 rcases five hk with rfl | rfl | rfl | rfl | rfl <;> simp [topOf] at h1 <;> refine ⟨⟨?_, ?_⟩, ⟨?_, ?_⟩, ⟨?_, ?_⟩, ⟨?_, ?_⟩, ?_, ?_⟩ <;> simp [Hd.set, Hd.of, Hd.at] <;> omega
def withHd (h : Hd) (f : Int) (v : Int) : Hd := if 0 ≤ f ∧ f < 5 ∧ v ≤ topOf f.toNat then h.set f.toNat v else h
theorem with_out (h : Hd) (f v : Int) (w : World) (hf : f < 0 ∨ 5 ≤ f) :
  Calls Tryz.prog 167 #[hv h, .int .i64 f, .int .u32 v] w fun e w' => e = .returned (hv h) ∧ Below w.heap.size w w' := by
 have hO := own_start [] w
 rcases hf with hf | hf
 ·go_enter Tryz.func167, Tryz.ntmps167
  go_wp2_with (first | refine ldN ?_ | (refine stN hO ?_; clear hO; intro wv hO) | (refine bx9 3 hO ?_; clear hO; intro n3 wv hO) | (refine al9 6 hO ?_; clear hO; intro n6 wv hO))
  exact bodyPost_ret (own_res_cell hO Tryz.results167 rfl List.mem_cons_self (by (exact row_len (by (with_reducible (exact row_Header))) (by rfl))) rfl) rfl ⟨rfl, hO.keep.below⟩
 ·have h' : ¬ f < 0 := by omega
  go_enter Tryz.func167, Tryz.ntmps167
  go_wp2_with (first | refine ldN ?_ | (refine stN hO ?_; clear hO; intro wv hO) | (refine bx9 3 hO ?_; clear hO; intro n3 wv hO) | (refine al9 6 hO ?_; clear hO; intro n6 wv hO))
  exact bodyPost_ret (own_res_cell hO Tryz.results167 rfl List.mem_cons_self (by (exact row_len (by (with_reducible (exact row_Header))) (by rfl))) rfl) rfl ⟨rfl, hO.keep.below⟩
theorem with_in (h : Hd) (f : Nat) (v : Int) (w : World) (ht : Tops w) (hf : f < 5) (ho : h.ok) (h0 : 0 ≤ v) :
  Calls Tryz.prog 167 #[hv h, .int .i64 f, .int .u32 v] w fun e w' => e = .returned (hv (withHd h f v)) ∧ Below w.heap.size w w' := by
 have hO := own_tops ht
 have q0 : decide ((f : Int) < 0) = false := by simp
 have q5 : decide ((5 : Int) ≤ f) = false := by simp; omega
 by_cases h1 : v ≤ topOf f
 ·have h1' : decide (topOf f < v) = false := by simp; omega
  have E := Lib.hid (show withHd h f v = h.set f v by unfold withHd; rw [if_pos ⟨by omega, by omega, by simpa using h1⟩]; simp)
  have hs := Hd.set_ok ho h0 h1 hf
  have hp : fcs (fupd h.at f v) = fcs (h.set f v).at := rfl
  go_enter Tryz.func167, Tryz.ntmps167
  go_wp2_with (first | refine ldN ?_ | ((first | refine stN hO ?_ | refine st1N hO ?_); clear hO; intro wv hO) | (refine bx9 3 hO ?_; clear hO; intro n3 wv hO) | (refine al9 6 hO ?_; clear hO; intro n6 wv hO) | (refine al9 7 hO ?_; clear hO; intro n7 wv hO) | (go_at_call 192; refine (values_any h _ ho).mono ?_; rintro e wv ⟨rfl, hb⟩; replace hO := hO.call hb; clear hb) | (go_at_call 202; refine (header_any (fupd h.at f v) _ hs).mono ?_; rintro e wv ⟨rfl, hb⟩; replace hO := hO.call hb; clear hb))
  refine bodyPost_ret (own_res_cell hO Tryz.results167 rfl (by (repeat (first | exact List.mem_cons_self | refine List.mem_cons_of_mem _ ?_))) (by (exact row_len (by (with_reducible (exact row_Header))) (by rfl))) rfl) rfl ⟨?_, hO.keep.below⟩
  rw [E.out]
  rfl
 ·have h1' : decide (topOf f < v) = true := by simp; omega
  have E := Lib.hid (show withHd h f v = h by unfold withHd; rw [if_neg]; rintro ⟨_, _, h2⟩; simp at h2; omega)
  go_enter Tryz.func167, Tryz.ntmps167
  go_wp2_with (first | refine ldN ?_ | (refine stN hO ?_; clear hO; intro wv hO) | (refine bx9 3 hO ?_; clear hO; intro n3 wv hO) | (refine al9 6 hO ?_; clear hO; intro n6 wv hO))
  refine bodyPost_ret (own_res_cell hO Tryz.results167 rfl List.mem_cons_self (by (exact row_len (by (with_reducible (exact row_Header))) (by rfl))) rfl) rfl ⟨?_, hO.keep.below⟩
  rw [E.out]
def vldTo (b : Bx) (k : Nat) : Prop := ∀ i, i < k → (b.at i).lo ≤ (b.at i).hi ∧ (b.at i).hi ≤ topOf i
instance (b : Bx) (k : Nat) : Decidable (vldTo b k) := inferInstanceAs (Decidable (∀ i, i < k → _))
def vld (b : Bx) : Bool := decide (vldTo b 5)
theorem vldTo_snoc {b : Bx} {k : Nat} (h : vldTo b k) (h1 : (b.at k).lo ≤ (b.at k).hi) (h2 : (b.at k).hi ≤ topOf k) : vldTo b (k + 1) := fun i hi => by
 by_cases e : i = k
 ·subst e; exact ⟨h1, h2⟩
 ·exact h i (by omega)
theorem vld_no {b : Bx} {k : Nat} (hk : k < 5) (h1 : ¬ ((b.at k).lo ≤ (b.at k).hi ∧ (b.at k).hi ≤ topOf k)) : vld b = false := by
 unfold vld; exact decide_eq_false fun h => h1 (h k hk)
theorem vld_yes {b : Bx} (h : vldTo b 5) : vld b = true := decide_eq_true h
theorem vld_iff {b : Bx} : vld b = true ↔ vldTo b 5 := by unfold vld; simp
theorem ret_bool {a b : Bool} (h : a = b) : Ending.returned (.bool a) = .returned (.bool b) := by rw [h]
theorem ret_int {k : IntKind} {a b : Int} (h : a = b) : Ending.returned (.int k a) = .returned (.int k b) := by rw [h]
set_option maxRecDepth 100000 in
set_option maxHeartbeats 400000 in
theorem valid_any (b : Bx) (w : World) (ht : Tops w) :
  Calls Tryz.prog 100 #[bv b] w fun e w' => e = .returned (.bool (vld b)) ∧ Below w.heap.size w w' := by
 have hO := own_tops ht
 go_enter Tryz.func100, Tryz.ntmps100
 go_wp2_with (first | refine ldN ?_ | (refine bx9 1 hO ?_; clear hO; intro n1 wv hO))
 go_loopw [6] (fun i wr => ∃ k : Nat, k ≤ 5 ∧ i = .int .i64 k ∧ vldTo b k ∧ Own [] w [⟨n1, bcs b, 98⟩] [] [⟨0, 0, topsL⟩] wr) (fun i _ => 5 - (intOf i).toNat)
 case atStart => exact ⟨0, by omega, rfl, fun i hi => by omega, hO⟩
 case round =>
  clear hO
  obtain ⟨k, hk, rfl, hv, hO⟩ := hrel
  have HV := Lib.hid hv
  clear hv
  by_cases hlt : k < 5
  ·have hix := fun w => ixb_at w b hlt
   by_cases h1 : (b.at k).lo ≤ (b.at k).hi
   ·have h1' : decide ((b.at k).hi < (b.at k).lo) = false := by simp; omega
    by_cases h2 : (b.at k).hi ≤ topOf k
    ·have h2' : decide (topOf k < (b.at k).hi) = false := by simp; omega
     go_wp2_with (first | (refine stN hO ?_; clear hO; intro wv hO) | (refine al9 4 hO ?_; clear hO; intro n4 wv hO))
     (try simp only [Act.put]); (refine own_quiet hO (by kernel_rfl) (by kernel_rfl) ?_; clear hO; (repeat (go_big_quiet_want; (first | ((with_reducible refine is_loadQ ?_); (refine q_ld (h := ?_)); (try simp only [Act.put]); (try simp only [sI9, sZ9, sS9]); go_big_quiet_on) | (go_big_quiet_op; (first | go_big_quiet_on | ((refine ⟨_, fun _ _ => rfl, ?_⟩); go_big_quiet_on)))))); (refine wpQuiet_nil ?_); intro wv hO)
     go_wp2_with fail
     go_roundw
     case rel => exact ⟨k + 1, by omega, by go_num, vldTo_snoc HV.out h1 h2, hO.sub (.cons _ (.refl _)) (.refl _) (fun _ h => h)⟩
     case measure => simp [intOf]; omega
    ·have h2' : decide (topOf k < (b.at k).hi) = true := by simp; omega
     have HF := Lib.hid (vld_no hlt (fun h => h2 h.2))
     go_wp2_with (first | (refine stN hO ?_; clear hO; intro wv hO) | (refine al9 4 hO ?_; clear hO; intro n4 wv hO))
     (refine own_quiet hO (by kernel_rfl) (by kernel_rfl) ?_; clear hO; (repeat (go_big_quiet_want; (first | ((with_reducible refine is_loadQ ?_); (refine q_ld (h := ?_)); (try simp only [Act.put]); (try simp only [sI9, sZ9, sS9]); go_big_quiet_on) | (go_big_quiet_op; (first | go_big_quiet_on | ((refine ⟨_, fun _ _ => rfl, ?_⟩); go_big_quiet_on)))))); (refine wpQuiet_nil ?_); intro wv hO)
     go_wp2_with fail
     go_ret
     exact ⟨ret_bool HF.out.symm, hO.keep.below⟩
   ·have h1' : decide ((b.at k).hi < (b.at k).lo) = true := by simp; omega
    have HF := Lib.hid (vld_no hlt (fun h => h1 h.1))
    go_wp2_with (first | (refine stN hO ?_; clear hO; intro wv hO) | (refine al9 4 hO ?_; clear hO; intro n4 wv hO))
    (refine own_quiet hO (by kernel_rfl) (by kernel_rfl) ?_; clear hO; (repeat (first | go_big_quiet_skip | (go_big_quiet_want; (first | ((with_reducible refine is_loadQ ?_); (refine q_ld (h := ?_)); (try simp only [Act.put]); (try simp only [sI9, sZ9, sS9]); go_big_quiet_on) | (go_big_quiet_op; (first | go_big_quiet_on | ((refine ⟨_, fun _ _ => rfl, ?_⟩); go_big_quiet_on))))))); (refine wpQuiet_nil ?_); intro wv hO)
    go_wp2_with fail
    go_ret
    exact ⟨ret_bool HF.out.symm, hO.keep.below⟩
  ·go_wp2_with fail
   go_ret
   exact ⟨ret_bool (vld_yes (fun i hi => HV.out i (by omega))).symm, hO.keep.below⟩
def inTo (b : Bx) (h : Hd) (k : Nat) : Prop := ∀ i, i < k → (b.at i).lo ≤ h.at i ∧ h.at i ≤ (b.at i).hi
instance (b : Bx) (h : Hd) (k : Nat) : Decidable (inTo b h k) := inferInstanceAs (Decidable (∀ i, i < k → _))
def hasB (b : Bx) (h : Hd) : Bool := vld b && decide (inTo b h 5)
theorem inTo_snoc {b : Bx} {h : Hd} {k : Nat} (h0 : inTo b h k) (h1 : (b.at k).lo ≤ h.at k) (h2 : h.at k ≤ (b.at k).hi) : inTo b h (k + 1) := fun i hi => by
 by_cases e : i = k
 ·subst e; exact ⟨h1, h2⟩
 ·exact h0 i (by omega)
theorem hasB_no {b : Bx} {h : Hd} {k : Nat} (hk : k < 5) (h1 : ¬ ((b.at k).lo ≤ h.at k ∧ h.at k ≤ (b.at k).hi)) : hasB b h = false := by
 unfold hasB; rw [decide_eq_false fun h => h1 (h k hk)]; simp
theorem hasB_yes {b : Bx} {h : Hd} (hv : vld b = true) (h1 : inTo b h 5) : hasB b h = true := by
 unfold hasB; rw [hv, decide_eq_true h1]; rfl
set_option maxRecDepth 100000 in
set_option maxHeartbeats 400000 in
theorem contains_any (b : Bx) (h : Hd) (w : World) (ht : Tops w) (ho : h.ok) :
  Calls Tryz.prog 149 #[bv b, hv h] w fun e w' => e = .returned (.bool (hasB b h)) ∧ Below w.heap.size w w' := by
 have hO := own_start [] w
 cases hv : vld b
 ·go_enter Tryz.func149, Tryz.ntmps149
  go_wp2_with (first | refine ldN ?_ | (refine bx9 2 hO ?_; clear hO; intro n2 wv hO) | (refine bx9 3 hO ?_; clear hO; intro n3 wv hO) | (go_at_call 100; refine (valid_any b _ (hO.tops ht (by simp))).mono ?_; rintro e wv ⟨rfl, hb⟩; replace hO := hO.call hb; clear hb))
  go_ret
  exact ⟨ret_bool (by simp [hasB, hv]), hO.keep.below⟩
 ·go_enter Tryz.func149, Tryz.ntmps149
  go_wp2_with (first | refine ldN ?_ | (refine bx9 2 hO ?_; clear hO; intro n2 wv hO) | (refine bx9 3 hO ?_; clear hO; intro n3 wv hO) | (go_at_call 100; refine (valid_any b _ (hO.tops ht (by simp))).mono ?_; rintro e wv ⟨rfl, hb⟩; replace hO := hO.call hb; clear hb) | (go_at_call 192; refine (values_any h _ ho).mono ?_; rintro e wv ⟨rfl, hb⟩; replace hO := hO.call hb; clear hb))
  go_loopw [12] (fun i wr => ∃ k : Nat, k ≤ 5 ∧ i = .int .i64 k ∧ inTo b h k ∧ Own [] w [⟨n2, bcs b, 98⟩] [] [] wr) (fun i _ => 5 - (intOf i).toNat)
  case atStart => exact ⟨0, by omega, rfl, fun i hi => by omega, hO.sub (.cons _ (.refl _)) (.refl _) (fun _ h => h)⟩
  case round =>
   clear hO
   obtain ⟨k, hk, rfl, hin, hO⟩ := hrel
   have HI := Lib.hid hin
   have HV := Lib.hid hv
   clear hin hv
   by_cases hlt : k < 5
   ·have hix := fun w => ix5_at w h.at hlt
    by_cases h1 : (b.at k).lo ≤ h.at k
    ·have h1' : decide (h.at k < (b.at k).lo) = false := by simp; omega
     by_cases h2 : h.at k ≤ (b.at k).hi
     ·have h2' : decide ((b.at k).hi < h.at k) = false := by simp; omega
      go_wp2_with (refine ldN ?_)
      go_roundw
      case rel => exact ⟨k + 1, by omega, by go_num, inTo_snoc HI.out h1 h2, hO⟩
      case measure => simp [intOf]; omega
     ·have h2' : decide ((b.at k).hi < h.at k) = true := by simp; omega
      have HF := Lib.hid (hasB_no (b := b) hlt (fun h => h2 h.2))
      go_wp2_with (refine ldN ?_)
      go_ret
      exact ⟨ret_bool HF.out.symm, hO.keep.below⟩
    ·have h1' : decide (h.at k < (b.at k).lo) = true := by simp; omega
     have HF := Lib.hid (hasB_no (b := b) hlt (fun h => h1 h.1))
     go_wp2_with (refine ldN ?_)
     go_ret
     exact ⟨ret_bool HF.out.symm, hO.keep.below⟩
   ·go_wp2_with fail
    go_ret
    exact ⟨ret_bool (hasB_yes HV.out fun i hi => HI.out i (by omega)).symm, hO.keep.below⟩
def subTo (a b : Bx) (k : Nat) : Prop := ∀ i, i < k → (b.at i).lo ≤ (a.at i).lo ∧ (a.at i).hi ≤ (b.at i).hi
instance (a b : Bx) (k : Nat) : Decidable (subTo a b k) := inferInstanceAs (Decidable (∀ i, i < k → _))
set_option maxRecDepth 100000
def interR (a b : Rg) : Rg := ⟨max a.lo b.lo, min a.hi b.hi⟩
def interTo (a b : Bx) : Bx := Bx.of fun k => interR (a.at k) (b.at k)
def interB (a b : Bx) : Bx × Bool := if vld a && vld b && vld (interTo a b) then (interTo a b, true) else (zeroBx, false)
def interK (a b : Bx) (k : Nat) : Bx := Bx.of fun i => if i < k then interR (a.at i) (b.at i) else ⟨0, 0⟩
theorem interK_succ (a b : Bx) (k : Nat) : (interK a b k).set k ⟨max (a.at k).lo (b.at k).lo, min (a.at k).hi (b.at k).hi⟩ = interK a b (k + 1) :=
 bx_step (f := fun _ i => interR (a.at i) (b.at i)) (z := fun _ => ⟨0, 0⟩)
theorem interK_five (a b : Bx) : interK a b 5 = interTo a b := Bx.of_congr fun i hi => by rw [if_pos hi]
set_option maxHeartbeats 400000 in
theorem intersect_any (a b : Bx) (w : World) (ht : Tops w) :
  Calls Tryz.prog 163 #[bv a, bv b] w fun e w' => e = .returned (.tuple #[bv (interB a b).1, .bool (interB a b).2]) ∧ Below w.heap.size w w' := by
 have hO := own_start [] w
 cases ha : vld a
 ·have E := Lib.hid (show interB a b = (zeroBx, false) by simp [interB, ha])
  go_enter Tryz.func163, Tryz.ntmps163
  go_wp2_with (first | refine ldN ?_ | (refine stN hO ?_; clear hO; intro wv hO) | (refine bx9 2 hO ?_; clear hO; intro n2 wv hO) | (refine bx9 3 hO ?_; clear hO; intro n3 wv hO) | (refine al9 4 hO ?_; clear hO; intro n4 wv hO) | (go_at_call 100; refine (valid_any _ _ (hO.tops ht (by simp))).mono ?_; rintro e wv ⟨rfl, hb⟩; replace hO := hO.call hb; clear hb))
  refine bodyPost_ret (own_res_cell_tmp hO Tryz.results163 rfl List.mem_cons_self (by (exact row_len (by (with_reducible (exact row_Box))) (by rfl))) rfl rfl) rfl ⟨?_, hO.keep.below⟩
  rw [E.out]; rfl
 cases hb : vld b
 ·have E := Lib.hid (show interB a b = (zeroBx, false) by simp [interB, hb])
  go_enter Tryz.func163, Tryz.ntmps163
  go_wp2_with (first | refine ldN ?_ | (refine stN hO ?_; clear hO; intro wv hO) | (refine bx9 2 hO ?_; clear hO; intro n2 wv hO) | (refine bx9 3 hO ?_; clear hO; intro n3 wv hO) | (refine al9 4 hO ?_; clear hO; intro n4 wv hO) | (go_at_call 100; refine (valid_any _ _ (hO.tops ht (by simp))).mono ?_; rintro e wv ⟨rfl, hb⟩; replace hO := hO.call hb; clear hb))
  refine bodyPost_ret (own_res_cell_tmp hO Tryz.results163 rfl List.mem_cons_self (by (exact row_len (by (with_reducible (exact row_Box))) (by rfl))) rfl rfl) rfl ⟨?_, hO.keep.below⟩
  rw [E.out]; rfl
 go_enter Tryz.func163, Tryz.ntmps163
 go_wp2_with (first | refine ldN ?_ | (refine bx9 2 hO ?_; clear hO; intro n2 wv hO) | (refine bx9 3 hO ?_; clear hO; intro n3 wv hO) | (refine al9 4 hO ?_; clear hO; intro n4 wv hO) | (refine al9 6 hO ?_; clear hO; intro n6 wv hO) | (go_at_call 100; refine (valid_any _ _ (hO.tops ht (by simp))).mono ?_; rintro e wv ⟨rfl, hb⟩; replace hO := hO.call hb; clear hb))
 go_loopw [17] (fun i wr => ∃ k : Nat, k ≤ 5 ∧ i = .int .i64 k ∧ Own [] w [⟨n6, bcs (interK a b k), 98⟩, ⟨n4, bcs zeroBx, 98⟩, ⟨n3, bcs b, 98⟩, ⟨n2, bcs a, 98⟩] [] [] wr) (fun i _ => 5 - (intOf i).toNat)
 case atStart => exact ⟨0, by omega, rfl, hO⟩
 case round =>
  clear hO
  obtain ⟨k, hk, rfl, hO⟩ := hrel
  by_cases hlt : k < 5
  ·go_wp2_with fail
   (refine own_tail 21 hO (by kernel_rfl) (by kernel_rfl) (by repeat (first | exact Split.zero _ | apply Split.succ)) ?_; clear hO; intro wv hO; (repeat ((refine wpStill_step (fun K hK => ?_)); (first | ((rw [if_pos (by rfl)]); (with_reducible refine is_loadS ?_); (refine s_ld (h := ?_)); (try simp only [Act.put]); (try simp only [sI9, sZ9, sS9]); (refine hK _ ?_); clear hK K) | (go_simp; (refine hK _ ?_); clear hK K)))); (refine wpStill_nil ?_))
   go_wp2_with (refine stN hO ?_; clear hO; intro wv hO)
   go_roundw
   case rel => exact ⟨k + 1, by omega, by go_num, by rw [← interK_succ a b k]; exact hO⟩
   case measure => simp [intOf]; omega
  ·obtain rfl : k = 5 := by omega
   rw [interK_five] at hO
   have HA := Lib.hid ha
   have HB := Lib.hid hb
   clear ha hb
   cases hi : vld (interTo a b)
   ·have E := Lib.hid (show interB a b = (zeroBx, false) by simp [interB, hi])
    go_wp2_with (first | refine ldN ?_ | (refine stN hO ?_; clear hO; intro wv hO) | (go_at_call 100; refine (valid_any _ _ (hO.tops ht (by simp))).mono ?_; rintro e wv ⟨rfl, hb⟩; replace hO := hO.call hb; clear hb))
    refine bodyPost_ret (own_res_cell_tmp hO Tryz.results163 rfl (by (repeat (first | exact List.mem_cons_self | refine List.mem_cons_of_mem _ ?_))) (by (exact row_len (by (with_reducible (exact row_Box))) (by rfl))) rfl rfl) rfl ⟨?_, hO.keep.below⟩
    rw [E.out]; rfl
   ·have E := Lib.hid (show interB a b = (interTo a b, true) by simp [interB, hi, HA.out, HB.out])
    go_wp2_with (first | refine ldN ?_ | (refine stN hO ?_; clear hO; intro wv hO) | (go_at_call 100; refine (valid_any _ _ (hO.tops ht (by simp))).mono ?_; rintro e wv ⟨rfl, hb⟩; replace hO := hO.call hb; clear hb))
    refine bodyPost_ret (own_res_cell_tmp hO Tryz.results163 rfl (by (repeat (first | exact List.mem_cons_self | refine List.mem_cons_of_mem _ ?_))) (by (exact row_len (by (with_reducible (exact row_Box))) (by rfl))) rfl rfl) rfl ⟨?_, hO.keep.below⟩
    rw [E.out]; rfl
def cellsB : List Bx → List Value
 | [] => []
 | b :: l => bcs b ++ cellsB l
theorem cellsB_append (l m : List Bx) : cellsB (l ++ m) = cellsB l ++ cellsB m := by
 induction l with
 | nil => rfl
 | cons b l ih => simp [cellsB, ih]
theorem cellsB_one (b : Bx) : cellsB [b] = bcs b := by simp [cellsB]
theorem cellsB_length (l : List Bx) : (cellsB l).length = l.length * 10 := by
 induction l with
 | nil => rfl
 | cons b l ih => simp only [cellsB, List.length_append, ih, bcs_length, List.length_cons]; omega
def IsBoxes (w : World) (v : Value) (l : List Bx) : Prop :=
 (v = .slice none 0 0 ∧ l = []) ∨ ∃ g o c, v = .slice (some ⟨g, o, none⟩) l.length c ∧ l.length ≤ c ∧ w.rangeAt g o (cellsB l)
theorem own_boxes {M : List Nat} {w0 w : World} {X : List Chunk} {R : List Row} {S : List Ro} (hO : Own M w0 X R S w) {v : Value} {k : Nat} {l : List Bx} (hm : (⟨v, k, cellsB l, 98, 10⟩ : Row) ∈ R) : IsBoxes w v l := by
 obtain ⟨h1, h2⟩ := hO.row _ hm
 dsimp only at h1 h2
 have hk : l.length = k := by rw [cellsB_length] at h1; omega
 rcases h2 with ⟨hv, h0⟩ | ⟨g, cap, cur, hv, _, hg, hc, _, _, ht⟩
 ·left; refine ⟨hv, List.length_eq_zero_iff.1 (by omega)⟩
 ·right
  refine ⟨g, 0, cap, by rw [hv, hk], by rw [hk]; exact hc, fun j u hj => ?_⟩
  have hjl := (List.getElem?_eq_some_iff.1 hj).1
  rw [cell_of_row w g (0 + j) cur _ _ hg]
  rw [← ht, List.getElem?_take] at hj
  split at hj
  ·simpa using hj
  ·cases hj
def Bx.ok (b : Bx) : Prop := ∀ k, k < 5 → (0 ≤ (b.at k).lo ∧ (b.at k).lo ≤ 4294967295) ∧ (0 ≤ (b.at k).hi ∧ (b.at k).hi ≤ 4294967295)
theorem own_boxesC {M : List Nat} {w0 w : World} {X : List Chunk} {R : List Row} {S : List Ro} (hO : Own M w0 X R S w) {n c : Nat} {cs : List Value} {t : TypeId} {l : List Bx} (hm : (⟨n, cs, t⟩ : Chunk) ∈ X) (hl : cs = cellsB l) (hc : l.length ≤ c) : IsBoxes w (.slice (some ⟨n, 0, none⟩) l.length c) l := by
 subst hl
 exact .inr ⟨n, 0, c, rfl, hc, fun j u hj => by rw [(hO.chunk _ hm).cell (0 + j)]; simpa using hj⟩
def NewFrom (w : World) (v : Value) : Prop := ∀ g, v.ownBlock = some g → w.heap.size ≤ g
def RetBoxes (w : World) (l : List Bx) (e : Ending) (w' : World) : Prop := ∃ v, e = .returned v ∧ (IsBoxes w' v l ∧ NewFrom w v) ∧ Below w.heap.size w w'
theorem own_new {w0 w : World} {X : List Chunk} {R : List Row} {S : List Ro} (hO : Own [] w0 X R S w) {v : Value} {k e size : Nat} {xs : List Value} (hm : (⟨v, k, xs, e, size⟩ : Row) ∈ R) : NewFrom w0 v := fun g hg => by
 have := hO.free g (List.mem_append.2 (.inr (List.mem_filterMap.2 ⟨_, hm, hg⟩)))
 simpa using this
theorem own_newC {w0 w : World} {X : List Chunk} {R : List Row} {S : List Ro} (hO : Own [] w0 X R S w) {n l c : Nat} {cs : List Value} {t : TypeId} (hm : (⟨n, cs, t⟩ : Chunk) ∈ X) : NewFrom w0 (.slice (some ⟨n, 0, none⟩) l c) := fun g hg => by
 have := hO.free n (List.mem_append.2 (.inl (List.mem_map.2 ⟨_, hm, rfl⟩)))
 cases hg
 simpa using this
section
variable (w : World)
theorem stoodR : (Tryz.prog).stoodInHeld 96 = false := by kernel_rfl
theorem fieldsR : (Tryz.prog).underlying 96 = some (.struct ((Tryz.prog).fieldsOf 96)) := by kernel_rfl
theorem eq_rg (d : Nat) (r s : Rg) : (Op.equalIn (d + 1 + 1) 96 (.agg #[.int .u32 r.lo, .int .u32 r.hi]) (.agg #[.int .u32 s.lo, .int .u32 s.hi])).run Tryz.prog w = .ok (decide (r = s)) w := by
 rw [run_equalIn_struct w (d + 1) _ _ _ fieldsR stoodR]
 obtain ⟨a, b⟩ := r
 obtain ⟨c, e⟩ := s
 by_cases h1 : a = c <;> by_cases h2 : b = e <;> simp [go_sem, Tryz.underlying96, Tryz.underlying45, h1, h2]
theorem size_rg : (sizeOf 96).run Tryz.prog w = .ok 2 w := by kernel_rfl
theorem part_rg (b : Bx) {k : Nat} (hk : k < 5) : (part 96 (bcs b).toArray (k * 2)).run Tryz.prog w = .ok (.agg #[.int .u32 (b.at k).lo, .int .u32 (b.at k).hi]) w := by
 rcases five hk with rfl | rfl | rfl | rfl | rfl <;> kernel_rfl
theorem eq_bx (d : Nat) (a b : Bx) : (Op.equalIn (d + 1 + 1 + 1) 98 (.agg (bcs a).toArray) (.agg (bcs b).toArray)).run Tryz.prog w = .ok (decide (a = b)) w := by
 have e : decide (a = b) = (decide (a.at 0 = b.at 0) && (decide (a.at 1 = b.at 1) && (decide (a.at 2 = b.at 2) && (decide (a.at 3 = b.at 3) && decide (a.at 4 = b.at 4))))) := by
  rw [Bool.eq_iff_iff]
  simp only [decide_eq_true_eq, Bool.and_eq_true]
  constructor
  ·rintro rfl; simp
  ·rintro ⟨h0, h1, h2, h3, h4⟩
   exact Bx.ext_at fun k hk => by rcases five hk with rfl | rfl | rfl | rfl | rfl <;> assumption
 rw [e]
 unfold Op.equalIn
 simp only [Sem.run_bind, run_underlying Tryz.underlying98, Result.andThen_ok, size_rg]
 simp only [Std.Legacy.Range.forIn_eq_forIn_range', Std.Legacy.Range.size, Nat.sub_zero, Nat.add_sub_cancel, Nat.div_one, List.range'_succ, List.range'_zero, List.forIn_cons, List.forIn_nil, Nat.zero_add]
 have pa0 := fun b : Bx => part_rg w b (k := 0) (by omega)
 have pa1 := fun b : Bx => part_rg w b (k := 1) (by omega)
 have pa2 := fun b : Bx => part_rg w b (k := 2) (by omega)
 have pa3 := fun b : Bx => part_rg w b (k := 3) (by omega)
 have pa4 := fun b : Bx => part_rg w b (k := 4) (by omega)
 have eq := fun r s : Rg => eq_rg w d r s
 simp only [Nat.reduceMul, Nat.reduceAdd] at pa0 pa1 pa2 pa3 pa4 ⊢
 simp only [Sem.run_bind, pa0, Result.andThen_ok, eq]
 by_cases h0 : a.at 0 = b.at 0
 ·by_cases h1 : a.at 1 = b.at 1
  ·by_cases h2 : a.at 2 = b.at 2
   ·by_cases h3 : a.at 3 = b.at 3
    ·by_cases h4 : a.at 4 = b.at 4
     ·simp only [Sem.run_pure, Result.andThen_ok, Sem.run_bind, pa1, pa2, pa3, pa4, eq, h0, h1, h2, h3, h4, decide_true, Bool.not_true, Bool.false_eq_true, if_false, Bool.and_self]
     ·simp [Sem.run_pure, Result.andThen_ok, Sem.run_bind, pa1, pa2, pa3, pa4, eq, h0, h1, h2, h3, h4]
    ·simp [Sem.run_pure, Result.andThen_ok, Sem.run_bind, pa1, pa2, pa3, eq, h0, h1, h2, h3]
   ·simp [Sem.run_pure, Result.andThen_ok, Sem.run_bind, pa1, pa2, eq, h0, h1, h2]
  ·simp [Sem.run_pure, Result.andThen_ok, Sem.run_bind, pa1, eq, h0, h1]
 ·simp [Sem.run_pure, Result.andThen_ok, h0]
theorem run_eql_bx (a b : Bx) : (binOp .eql 98 (.agg (bcs a).toArray) (.agg (bcs b).toArray)).run Tryz.prog w = .ok (.bool (decide (a = b))) w := by
 rw [run_eql_struct]
 rw [show (10000 : Nat) = 9997 + 1 + 1 + 1 from rfl, eq_bx, Result.andThen_ok]
theorem run_neq_bx (a b : Bx) : (binOp .neq 98 (.agg (bcs a).toArray) (.agg (bcs b).toArray)).run Tryz.prog w = .ok (.bool (!decide (a = b))) w := by
 rw [run_neq_struct]
 rw [show (10000 : Nat) = 9997 + 1 + 1 + 1 from rfl, eq_bx, Result.andThen_ok]
theorem run_eql_rg (r s : Rg) : (binOp .eql 96 (.agg #[.int .u32 r.lo, .int .u32 r.hi]) (.agg #[.int .u32 s.lo, .int .u32 s.hi])).run Tryz.prog w = .ok (.bool (decide (r = s))) w := by
 rw [run_eql_struct]
 rw [show (10000 : Nat) = 9998 + 1 + 1 from rfl, eq_rg, Result.andThen_ok]
theorem guard_bx (op : BinOp) (x y : Operand) (u v : Array Value) : (eqGuard op 98 x y (.agg u) (.agg v)).run Tryz.prog w = .ok () w := run_eqGuard_agg w op _ x y u v (by kernel_rfl)
theorem guard_rg (op : BinOp) (x y : Operand) (u v : Array Value) : (eqGuard op 96 x y (.agg u) (.agg v)).run Tryz.prog w = .ok () w := run_eqGuard_agg w op _ x y u v (by kernel_rfl)
theorem guard_hd (op : BinOp) (x y : Operand) (u v : Array Value) : (eqGuard op 48 x y (.agg u) (.agg v)).run Tryz.prog w = .ok () w := run_eqGuard_agg w op _ x y u v (by kernel_rfl)
theorem stoodH : (Tryz.prog).stoodInHeld 48 = false := by kernel_rfl
theorem fieldsH : (Tryz.prog).underlying 48 = some (.struct ((Tryz.prog).fieldsOf 48)) := by kernel_rfl
theorem eq_hd (d : Nat) (g h : Hd) : (Op.equalIn (d + 1 + 1) 48 (hv g) (hv h)).run Tryz.prog w = .ok (decide (g = h)) w := by
 rw [run_equalIn_struct w (d + 1) _ _ _ fieldsH stoodH]
 obtain ⟨g0, g1, g2, g3, g4⟩ := g
 obtain ⟨h0, h1, h2, h3, h4⟩ := h
 by_cases e0 : g0 = h0 <;> by_cases e1 : g1 = h1 <;> by_cases e2 : g2 = h2 <;> by_cases e3 : g3 = h3 <;> by_cases e4 : g4 = h4 <;> simp [go_sem, Tryz.underlying48, Tryz.underlying45, Tryz.underlying5, Tryz.underlying46, e0, e1, e2, e3, e4]
theorem run_eql_hd (g h : Hd) : (binOp .eql 48 (hv g) (hv h)).run Tryz.prog w = .ok (.bool (decide (g = h))) w := by
 rw [run_eql_struct]
 rw [show (10000 : Nat) = 9998 + 1 + 1 from rfl, eq_hd, Result.andThen_ok]
theorem run_neq_hd (g h : Hd) : (binOp .neq 48 (hv g) (hv h)).run Tryz.prog w = .ok (.bool (!decide (g = h))) w := by
 rw [run_neq_struct]
 rw [show (10000 : Nat) = 9998 + 1 + 1 from rfl, eq_hd, Result.andThen_ok]
end
attribute [go_sem high] run_eql_bx run_neq_bx run_eql_rg run_eql_hd run_neq_hd guard_bx guard_rg guard_hd
def roS (v : Value) (cs : List Value) : List Ro := match v with | .slice (some a) _ _ => [⟨a.block, a.off, cs⟩] | _ => []
theorem IsBoxes.view {w : World} {v : Value} {l : List Bx} (h : IsBoxes w v l) : ∃ a c, v = .slice a l.length c ∧ (0 < l.length → ∃ g o, a = some ⟨g, o, none⟩) := by
 rcases h with ⟨rfl, rfl⟩ | ⟨g, o, c, rfl, _, _⟩
 ·exact ⟨none, 0, rfl, fun h => by simp at h⟩
 ·exact ⟨some ⟨g, o, none⟩, c, rfl, fun _ => ⟨g, o, rfl⟩⟩
theorem own_arg {w : World} {v : Value} {l : List Bx} (h : IsBoxes w v l) : Own [] w [] [] (roS v (cellsB l)) w := by
 rcases h with ⟨rfl, rfl⟩ | ⟨g, o, c, rfl, _, hr⟩
 ·exact own_start [] w
 ·exact (own_start [] w).addRo ⟨g, o, cellsB l⟩ hr (by simp [excl])
theorem tk_box (l : List Bx) {k : Nat} (h : k < l.length) : List.take (bcs l[k]).length (List.drop (k * 10) (cellsB l)) = bcs l[k] := by
 induction l generalizing k with
 | nil => simp at h
 | cons b l ih =>
  cases k with
  | zero =>
   simp only [List.getElem_cons_zero, Nat.zero_mul, List.drop_zero, cellsB]
   exact List.take_left' rfl
  | succ k =>
   have := ih (k := k) (by simpa using h)
   simp only [List.getElem_cons_succ, cellsB]
   rw [show (k + 1) * 10 = (bcs b).length + k * 10 by rw [bcs_length]; omega, List.drop_append, List.drop_of_length_le (by omega), List.nil_append, Nat.add_sub_cancel_left]
   exact this
def hullTo (a b : Bx) : Bx := Bx.of fun k => ⟨min (a.at k).lo (b.at k).lo, max (a.at k).hi (b.at k).hi⟩
def hullK (a b : Bx) (k : Nat) : Bx := Bx.of fun i => if i < k then ⟨min (a.at i).lo (b.at i).lo, max (a.at i).hi (b.at i).hi⟩ else a.at i
theorem hullK_succ (a b : Bx) (k : Nat) : (hullK a b k).set k ⟨min (a.at k).lo (b.at k).lo, max (a.at k).hi (b.at k).hi⟩ = hullK a b (k + 1) :=
 bx_step (f := fun _ i => ⟨min (a.at i).lo (b.at i).lo, max (a.at i).hi (b.at i).hi⟩) (z := a.at)
theorem hullK_at (a b : Bx) {k : Nat} (h : k < 5) : (hullK a b k).at k = a.at k := by unfold hullK; rw [Bx.at_of _ h]; simp
theorem hullK_five (a b : Bx) : hullK a b 5 = hullTo a b := Bx.of_congr fun i hi => by rw [if_pos hi]
theorem hullK_zero (a b : Bx) : hullK a b 0 = a := Bx.of_at a
def hullStep (s : Bx × Bool) (b : Bx) : Bx × Bool := if vld b then (hullTo (if s.2 then s.1 else b) b, true) else s
def hullL (l : List Bx) : Bx × Bool := l.foldl hullStep (zeroBx, false)
theorem hullL_take (l : List Bx) {k : Nat} (h : k < l.length) : hullL (l.take (k + 1)) = hullStep (hullL (l.take k)) l[k] := by
 unfold hullL; rw [List.take_succ_eq_append_getElem h, List.foldl_append]; rfl
set_option maxHeartbeats 2000000 in
theorem hull_any (v : Value) (l : List Bx) (w : World) (ht : Tops w) (hv : IsBoxes w v l) (hm : l.length ≤ 9223372036854775807) :
  Calls Tryz.prog 164 #[v] w fun e w' => e = .returned (.tuple #[bv (hullL l).1, .bool (hullL l).2]) ∧ Below w.heap.size w w' := by
 have hO := own_arg hv
 obtain ⟨a, c, rfl, ha⟩ := hv.view
 clear hv
 go_enter Tryz.func164, Tryz.ntmps164
 go_wp2_with (first | (refine al9 2 hO ?_; clear hO; intro n2 wv hO) | (refine al9 4 hO ?_; clear hO; intro n4 wv hO))
 go_loopw [5, 12] (fun f i wr => ∃ k : Nat, k ≤ l.length ∧ i = .int .i64 k ∧ f = .bool (hullL (l.take k)).2 ∧ Own [] w [⟨n4, bcs (hullL (l.take k)).1, 98⟩, ⟨n2, bcs zeroBx, 98⟩] [] (roS (.slice a l.length c) (cellsB l)) wr) (fun _ i _ => l.length - (intOf i).toNat)
 case atStart => exact ⟨0, by omega, rfl, rfl, hO⟩
 case round =>
  clear hO
  obtain ⟨k, hk, rfl, rfl, hO⟩ := hrel
  by_cases hlt : k < l.length
  ·obtain ⟨g, o, rfl⟩ := ha (by omega)
   have HT := Lib.hid (hullL_take l hlt)
   simp only [roS] at hO
   cases hvb : vld l[k]
   ·have HV := Lib.hid (show hullStep (hullL (l.take k)) l[k] = hullL (l.take k) by simp [hullStep, hvb])
    go_wp2_with (first | refine ldN ?_ | (refine stN hO ?_; clear hO; intro wv hO) | (refine al9 7 hO ?_; clear hO; intro n7 wv hO) | (go_at_call 100; refine (valid_any _ _ (hO.tops ht (by simp))).mono ?_; rintro e wv ⟨rfl, hb⟩; replace hO := hO.call hb; clear hb))
    go_roundw
    case rel => exact ⟨k + 1, by omega, by go_num, by rw [HT.out, HV.out], by rw [HT.out, HV.out]; exact hO.sub (.cons _ (.refl _)) (.refl _) (fun _ h => h)⟩
    case measure => simp [intOf]; omega
   ·have HB := Lib.hid (show ∃ b, b = l[k] from ⟨_, rfl⟩)
    generalize hc : hullL (l.take k) = s at *
    obtain ⟨cur, f⟩ := s
    cases f
    ·have HV := Lib.hid (show hullStep (cur, false) l[k] = (hullTo l[k] l[k], true) by simp [hullStep, hvb])
     clear hc
     go_wp2_with (first | refine ldN ?_ | (refine stN hO ?_; clear hO; intro wv hO) | (refine al9 7 hO ?_; clear hO; intro n7 wv hO) | (go_at_call 100; refine (valid_any _ _ (hO.tops ht (by simp))).mono ?_; rintro e wv ⟨rfl, hb⟩; replace hO := hO.call hb; clear hb))
     generalize l[k] = b at *
     skip
     go_loopw [25] (fun i wr => ∃ j : Nat, j ≤ 5 ∧ i = .int .i64 j ∧ Own [] w [⟨n4, bcs (hullK b b j), 98⟩, ⟨n2, bcs zeroBx, 98⟩] [] [⟨g, o, cellsB l⟩] wr) (fun i _ => 5 - (intOf i).toNat)
     case atStart => exact ⟨0, by omega, rfl, by rw [hullK_zero]; exact hO.sub (.cons _ (.refl _)) (.refl _) (fun _ h => h)⟩
     case round =>
      clear hO
      obtain ⟨j, hj, rfl, hO⟩ := hrel
      by_cases hjl : j < 5
      ·have hix := fun w => ixb_at w b hjl
       have hat := hullK_at b b hjl
       go_wp2_with (first | (refine stN hO ?_; clear hO; intro wv hO) | (refine al9 9 hO ?_; clear hO; intro n9 wv hO))
       (try simp only [Act.put]); (refine own_tail 17 hO (by kernel_rfl) (by kernel_rfl) (by repeat (first | exact Split.zero _ | apply Split.succ)) ?_; clear hO; intro wv hO; (repeat ((refine wpStill_step (fun K hK => ?_)); (first | ((rw [if_pos (by rfl)]); (with_reducible refine is_loadS ?_); (refine s_ld (h := ?_)); (try simp only [Act.put]); (try simp only [sI9, sZ9, sS9]); (refine hK _ ?_); clear hK K) | (go_simp; (refine hK _ ?_); clear hK K)))); (refine wpStill_nil ?_))
       go_wp2_with (refine stN hO ?_; clear hO; intro wv hO)
       go_roundw
       case rel =>
        refine ⟨j + 1, by omega, by go_num, ?_⟩
        rw [← hullK_succ]
        first
         | exact hO.sub (.cons _ (.refl _)) (.refl _) (fun _ h => h)
         | (simp only [Int.min_self, Int.max_self]; exact hO.sub (.cons _ (.refl _)) (.refl _) (fun _ h => h))
       case measure => simp [intOf]; omega
      ·obtain rfl : j = 5 := by omega
       rw [hullK_five] at hO
       go_wp2_with fail
       go_roundw
       case rel => exact ⟨k + 1, by omega, by go_num, by rw [HT.out, HV.out], by rw [HT.out, HV.out]; exact hO⟩
       case measure => simp [intOf]; omega
    ·have HV := Lib.hid (show hullStep (cur, true) l[k] = (hullTo cur l[k], true) by simp [hullStep, hvb])
     clear hc
     go_wp2_with (first | refine ldN ?_ | (refine stN hO ?_; clear hO; intro wv hO) | (refine al9 7 hO ?_; clear hO; intro n7 wv hO) | (go_at_call 100; refine (valid_any _ _ (hO.tops ht (by simp))).mono ?_; rintro e wv ⟨rfl, hb⟩; replace hO := hO.call hb; clear hb))
     generalize l[k] = b at *
     skip
     go_loopw [25] (fun i wr => ∃ j : Nat, j ≤ 5 ∧ i = .int .i64 j ∧ Own [] w [⟨n4, bcs (hullK cur b j), 98⟩, ⟨n2, bcs zeroBx, 98⟩] [] [⟨g, o, cellsB l⟩] wr) (fun i _ => 5 - (intOf i).toNat)
     case atStart => exact ⟨0, by omega, rfl, by rw [hullK_zero]; exact hO.sub (.cons _ (.refl _)) (.refl _) (fun _ h => h)⟩
     case round =>
      clear hO
      obtain ⟨j, hj, rfl, hO⟩ := hrel
      by_cases hjl : j < 5
      ·have hix := fun w => ixb_at w b hjl
       have hat := hullK_at cur b hjl
       go_wp2_with (first | (refine stN hO ?_; clear hO; intro wv hO) | (refine al9 9 hO ?_; clear hO; intro n9 wv hO))
       (try simp only [Act.put]); (refine own_tail 17 hO (by kernel_rfl) (by kernel_rfl) (by repeat (first | exact Split.zero _ | apply Split.succ)) ?_; clear hO; intro wv hO; (repeat ((refine wpStill_step (fun K hK => ?_)); (first | ((rw [if_pos (by rfl)]); (with_reducible refine is_loadS ?_); (refine s_ld (h := ?_)); (try simp only [Act.put]); (try simp only [sI9, sZ9, sS9]); (refine hK _ ?_); clear hK K) | (go_simp; (refine hK _ ?_); clear hK K)))); (refine wpStill_nil ?_))
       go_wp2_with (refine stN hO ?_; clear hO; intro wv hO)
       go_roundw
       case rel =>
        refine ⟨j + 1, by omega, by go_num, ?_⟩
        rw [← hullK_succ]
        first
         | exact hO.sub (.cons _ (.refl _)) (.refl _) (fun _ h => h)
         | (simp only [Int.min_self, Int.max_self]; exact hO.sub (.cons _ (.refl _)) (.refl _) (fun _ h => h))
       case measure => simp [intOf]; omega
      ·obtain rfl : j = 5 := by omega
       rw [hullK_five] at hO
       go_wp2_with fail
       go_roundw
       case rel => exact ⟨k + 1, by omega, by go_num, by rw [HT.out, HV.out], by rw [HT.out, HV.out]; exact hO⟩
       case measure => simp [intOf]; omega
  ·obtain rfl : k = l.length := by omega
   rw [List.take_length] at hO ⊢
   go_wp2_with (first | refine ldN ?_ | (refine stN hO ?_; clear hO; intro wv hO))
   refine bodyPost_ret (own_res_cell_tmp hO Tryz.results164 rfl (by (repeat (first | exact List.mem_cons_self | refine List.mem_cons_of_mem _ ?_))) (by (exact row_len (by (with_reducible (exact row_Box))) (by rfl))) rfl rfl) rfl ⟨rfl, hO.keep.below⟩
def cmpI (x y : Int) : Int := if x < y then -1 else if y < x then 1 else 0
theorem isNaN_any (x : Int) (w : World) : Calls Tryz.prog 216 #[.int .u32 x] w fun e w' => e = .returned (.bool false) ∧ w = w' := by
 go_enter Tryz.func216, Tryz.ntmps216
 go_wp2
 go_ret
 exact ⟨ret_bool (by simp), rfl⟩
theorem compare_u32 (x y : Int) (w : World) : Calls Tryz.prog 208 #[.int .u32 x, .int .u32 y] w fun e w' => e = .returned (.int .i64 (cmpI x y)) ∧ w = w' := by
 by_cases h1 : x < y
 ·have E := Lib.hid (show cmpI x y = -1 by unfold cmpI; rw [if_pos h1])
  go_enter Tryz.func208, Tryz.ntmps208
  go_wp2_with (go_at_call 216; refine (isNaN_any _ _).mono ?_; rintro e _ ⟨rfl, rfl⟩)
  go_ret
  exact ⟨by rw [E.out]; rfl, rfl⟩
 ·by_cases h2 : y < x
  ·have E := Lib.hid (show cmpI x y = 1 by unfold cmpI; rw [if_neg h1, if_pos h2])
   go_enter Tryz.func208, Tryz.ntmps208
   go_wp2_with (go_at_call 216; refine (isNaN_any _ _).mono ?_; rintro e _ ⟨rfl, rfl⟩)
   go_ret
   exact ⟨by rw [E.out]; rfl, rfl⟩
  ·have E := Lib.hid (show cmpI x y = 0 by unfold cmpI; rw [if_neg h1, if_neg h2])
   go_enter Tryz.func208, Tryz.ntmps208
   go_wp2_with (go_at_call 216; refine (isNaN_any _ _).mono ?_; rintro e _ ⟨rfl, rfl⟩)
   go_ret
   exact ⟨by rw [E.out]; rfl, rfl⟩
abbrev Fact := Value → World → Prop
abbrev Facts := List (Tmp × Fact)
def Facts.at (T : Facts) (d : Tmp) : Option Fact := (T.find? fun p => p.1 == d).map (·.2)
def insF (d : Tmp) (F : Tmp → Prop) : Tmp → Prop := fun s => s = d ∨ F s
theorem insF_comm (d e : Tmp) (F : Tmp → Prop) : insF d (insF e F) = insF e (insF d F) := by
 funext s; exact propext ⟨fun h => h.elim (fun h => .inr (.inl h)) fun h => h.elim .inl fun h => .inr (.inr h), fun h => h.elim (fun h => .inr (.inl h)) fun h => h.elim .inl fun h => .inr (.inr h)⟩
def plainUpon (w : World) (v : Value) : Result Next → Prop
 | .ok (.value u) w' => w' = w ∧ u = v
 | .ok .skip w' => w' = w ∧ v = undef
 | _ => False
theorem plainUpon_det {w : World} {v v' : Value} {r : Result Next} (h : plainUpon w v r) (h' : plainUpon w v' r) : v = v' := by
 cases r with
 | halt x w' => exact h.elim
 | ok n w' => cases n <;> simp_all [plainUpon]
def looseUpon (P : Program) (C : World → Prop) (M : List Nat) (Φ : Fact) (w : World) : Result Next → Prop
 | .ok (.value u) w' => Keep M w w' ∧ C w' ∧ Φ u w'
 | .ok (.enter f args) w' => w' = w ∧ Calls P f args w fun e w3 => ∃ v, e = .returned v ∧ Keep M w w3 ∧ C w3 ∧ Φ v w3
 | _ => False
section
variable (P : Program) (ops : Array Oper) (C : World → Prop) (M : List Nat) (T : Facts)
def FactsAt (F : Tmp → Prop) (L : List Tmp) (a : Act) (w : World) : Prop := ∀ s, F s → s ∈ L → ∀ Φ, T.at s = some Φ → Φ (a.eval (.tmp s)) w
def Inv (F : Tmp → Prop) (a : Act) (w : World) : Prop := C w ∧ ∀ s, F s → ∀ Φ, T.at s = some Φ → Φ (a.eval (.tmp s)) w
def looseOp (F : Tmp → Prop) (o : Oper) (a : Act) (K : (Tmp → Prop) → Act → Prop) : Prop :=
 (∃ d Φ, o.dst = some d ∧ T.at d = some Φ ∧ (∀ w, C w → FactsAt T F (o.looksAt ops) a w → looseUpon P C M Φ w ((execOp a.eval o).run P w)) ∧ ∀ v, (∃ w, Inv C T (insF d F) (a.put (some d) v) w) → K (insF d F) (a.put (some d) v)) ∨
 ((∀ d, o.dst = some d → T.at d = none) ∧ ∃ v, (∀ w, C w → FactsAt T F (o.looksAt ops) a w → plainUpon w v ((execOp a.eval o).run P w)) ∧ K F (a.put o.dst v))
def wpLoose (Q : (Tmp → Prop) → Act → Prop) : List Oper → (Tmp → Prop) → Act → Prop
 | [], F, a => Q F a
 | o :: rest, F, a => if Region.wanted o (yielded ops a.tmps) then looseOp P ops C M T F o a (wpLoose Q rest) else wpLoose Q rest F (a.put o.dst undef)
def lOp (i : Nat) (K : (Tmp → Prop) → Act → Prop) (F : Tmp → Prop) (a : Act) : Prop :=
 match ops[i]? with
 | none => K F a
 | some o => if Region.wanted o (yielded ops a.tmps) then looseOp P ops C M T F o a K else K F (a.put o.dst undef)
def wpAnyF (md : Region.Mode) (n : Nat) (L : Array Bool → (Tmp → Prop) → Act → Prop) : Nat → Array Bool → (Tmp → Prop) → Act → Prop
 | 0, listed, F, a => L listed F a
 | f + 1, listed, F, a => Region.ready md ops listed ≠ [] ∧ ∀ i ∈ Region.ready md ops listed, i < n ∧ lOp P ops C M T i (wpAnyF md n L f (listed.setIfInBounds i true)) F a
end
section
variable {P : Program} {ops : Array Oper} {C : World → Prop} {M : List Nat} {T : Facts} {md : Region.Mode}
def Lasts (M : List Nat) (C : World → Prop) (T : Facts) : Prop := ∀ d Φ, T.at d = some Φ → ∀ v w w', C w → C w' → Keep M w w' → Φ v w → Φ v w'
def dstsB (ops : Array Oper) : Bool := (List.range ops.size).all fun i => (List.range ops.size).all fun j => i == j || match ops[i]?, ops[j]? with
 | some x, some y => (match x.dst with | some d => y.dst != some d | none => true)
 | _, _ => true
theorem dstsB_spec (h : dstsB ops = true) {i j : Nat} {x y : Oper} (hi : ops[i]? = some x) (hj : ops[j]? = some y) (hij : i ≠ j) {d : Tmp} (hd : x.dst = some d) : y.dst ≠ some d := by
 have h1 := List.all_eq_true.1 h i (List.mem_range.2 (Array.getElem?_eq_some_iff.1 hi).1)
 have h2 := List.all_eq_true.1 h1 j (List.mem_range.2 (Array.getElem?_eq_some_iff.1 hj).1)
 simp only [hi, hj, hd, Bool.or_eq_true, beq_iff_eq, hij, false_or, bne_iff_ne, ne_eq] at h2
 exact h2
theorem looseOp_mono {F : Tmp → Prop} {o : Oper} {a : Act} {K K' : (Tmp → Prop) → Act → Prop} (h : ∀ F a, K F a → K' F a) (hh : looseOp P ops C M T F o a K) : looseOp P ops C M T F o a K' := by
 rcases hh with ⟨d, Φ, h1, h2, h3, h4⟩ | ⟨h1, v, h2, h3⟩
 ·exact .inl ⟨d, Φ, h1, h2, h3, fun v hv => h _ _ (h4 v hv)⟩
 ·exact .inr ⟨h1, v, h2, h _ _ h3⟩
theorem lOp_mono {i : Nat} {F : Tmp → Prop} {a : Act} {K K' : (Tmp → Prop) → Act → Prop} (h : ∀ F a, K F a → K' F a) (hh : lOp P ops C M T i K F a) : lOp P ops C M T i K' F a := by
 unfold lOp at *
 split
 ·rename_i ho; simp only [ho] at hh; exact h _ _ hh
 ·rename_i o ho
  simp only [ho] at hh
  split
  ·rename_i hw; simp only [hw, if_true] at hh; exact looseOp_mono h hh
  ·rename_i hw; simp only [hw] at hh; exact h _ _ hh
theorem put_size (a : Act) (d : Option Tmp) (v : Value) : (a.put d v).tmps.size = a.tmps.size := by
 cases d <;> simp [Act.put]
theorem eval_put_self (a : Act) (d : Tmp) (v : Value) (hd : d < a.tmps.size) : (a.put (some d) v).eval (.tmp d) = v := by
 simp [Act.eval, Act.put, hd]
theorem eval_put_ne (a : Act) {d s : Tmp} (v : Value) (h : s ≠ d) : (a.put (some d) v).eval (.tmp s) = a.eval (.tmp s) :=
 Act.eval_put fun e he hx => by cases he; cases hx; exact h rfl
theorem eval_put_ne' (a : Act) {o : Option Tmp} {s : Tmp} (v : Value) (h : o ≠ some s) : (a.put o v).eval (.tmp s) = a.eval (.tmp s) :=
 Act.eval_put fun e he hx => by cases he; cases hx; exact h rfl
theorem factsAt_put {F : Tmp → Prop} {L : List Tmp} {a : Act} {o : Option Tmp} {v : Value} {w : World} (h : ∀ d, o = some d → d ∉ L) : FactsAt T F L (a.put o v) w ↔ FactsAt T F L a w := by
 unfold FactsAt
 constructor
 ·intro H s hs hl Φ hΦ
  have := H s hs hl Φ hΦ
  rwa [eval_put_ne' a v (fun e => h s e hl)] at this
 ·intro H s hs hl Φ hΦ
  rw [eval_put_ne' a v (fun e => h s e hl)]
  exact H s hs hl Φ hΦ
theorem factsAt_ins {F : Tmp → Prop} {L : List Tmp} {a : Act} {d : Tmp} {w : World} (h : d ∉ L) : FactsAt T (insF d F) L a w ↔ FactsAt T F L a w :=
 ⟨fun H s hs => H s (.inr hs), fun H s hs hl => hs.elim (fun e => absurd hl (e ▸ h)) (fun hs => H s hs hl)⟩
theorem Inv.factsAt {F : Tmp → Prop} {a : Act} {w : World} (h : Inv C T F a w) (L : List Tmp) : FactsAt T F L a w := fun s hs _ => h.2 s hs
theorem loose_alive {F : Tmp → Prop} {o : Oper} {a : Act} {d : Tmp} {Φ : Fact} (hL : Lasts M C T) (hd : o.dst = some d) (hsz : d < a.tmps.size) (hT : T.at d = some Φ)
  (h : ∀ w, C w → FactsAt T F (o.looksAt ops) a w → looseUpon P C M Φ w ((execOp a.eval o).run P w)) {w : World} (hi : Inv C T F a w) : ∃ v w', Inv C T (insF d F) (a.put (some d) v) w' := by
 have fin : ∀ v w', Keep M w w' → C w' → Φ v w' → Inv C T (insF d F) (a.put (some d) v) w' := fun v w' hk hc hv => ⟨hc, fun s hs Φ' hΦ' => by
  by_cases e : s = d
  ·subst e
   rw [eval_put_self a s v hsz]
   rw [hT] at hΦ'; cases hΦ'; exact hv
  ·rw [eval_put_ne a v e]
   exact hL s Φ' hΦ' _ _ _ hi.1 hc hk (hi.2 s (hs.resolve_left e) Φ' hΦ')⟩
 have h1 := h w hi.1 (hi.factsAt _)
 generalize (execOp a.eval o).run P w = r at h1
 cases r with
 | halt x w' => exact h1.elim
 | ok n w' =>
  cases n <;> simp only [looseUpon] at h1
  case value u => exact ⟨u, w', fin u w' h1.1 h1.2.1 h1.2.2⟩
  case enter f args =>
   obtain ⟨rfl, h2⟩ := h1
   obtain ⟨e, w3, fr, ⟨v, -, h4, h5, h6⟩, -⟩ := h2 []
   exact ⟨v, w3, fin v w3 h4 h5 h6⟩
def DetAt (P : Program) (ops : Array Oper) (C : World → Prop) (T : Facts) (F : Tmp → Prop) (o : Oper) (a : Act) (v : Value) : Prop :=
 (Region.wanted o (yielded ops a.tmps) = false ∧ v = undef) ∨
 (Region.wanted o (yielded ops a.tmps) = true ∧ (∀ d, o.dst = some d → T.at d = none) ∧ ∀ w, C w → FactsAt T F (o.looksAt ops) a w → plainUpon w v ((execOp a.eval o).run P w))
def LooseAt (P : Program) (ops : Array Oper) (C : World → Prop) (M : List Nat) (T : Facts) (F : Tmp → Prop) (o : Oper) (a : Act) (d : Tmp) (Φ : Fact) : Prop :=
 Region.wanted o (yielded ops a.tmps) = true ∧ o.dst = some d ∧ T.at d = some Φ ∧ ∀ w, C w → FactsAt T F (o.looksAt ops) a w → looseUpon P C M Φ w ((execOp a.eval o).run P w)
def Alive (C : World → Prop) (T : Facts) (F : Tmp → Prop) (a : Act) : Prop := ∃ w, Inv C T F a w
theorem lOp_iff {i : Nat} {o : Oper} {F : Tmp → Prop} {a : Act} {K : (Tmp → Prop) → Act → Prop} (hi : ops[i]? = some o) :
  lOp P ops C M T i K F a ↔ (∃ v, DetAt P ops C T F o a v ∧ K F (a.put o.dst v)) ∨
   ∃ d Φ, LooseAt P ops C M T F o a d Φ ∧ ∀ v, Alive C T (insF d F) (a.put (some d) v) → K (insF d F) (a.put (some d) v) := by
 unfold lOp
 simp only [hi]
 by_cases hw : Region.wanted o (yielded ops a.tmps) = true
 ·simp only [hw, if_true]
  constructor
  ·rintro (⟨d, Φ, h1, h2, h3, h4⟩ | ⟨h1, v, h2, h3⟩)
   ·exact .inr ⟨d, Φ, ⟨hw, h1, h2, h3⟩, h4⟩
   ·exact .inl ⟨v, .inr ⟨hw, h1, h2⟩, h3⟩
  ·rintro (⟨v, h1 | ⟨_, h1, h2⟩, h3⟩ | ⟨d, Φ, ⟨_, h1, h2, h3⟩, h4⟩)
   ·rw [hw] at h1; cases h1.1
   ·exact .inr ⟨h1, v, h2, h3⟩
   ·exact .inl ⟨d, Φ, h1, h2, h3, h4⟩
 ·simp only [hw]
  have hw' : Region.wanted o (yielded ops a.tmps) = false := by simpa using hw
  constructor
  ·intro h
   exact .inl ⟨undef, .inl ⟨hw', rfl⟩, h⟩
  ·rintro (⟨v, ⟨_, rfl⟩ | ⟨h1, _⟩, h3⟩ | ⟨d, Φ, ⟨h1, _⟩, _⟩)
   ·exact h3
   ·exact absurd h1 hw
   ·exact absurd h1 hw
section
variable {F : Tmp → Prop} {o : Oper} {a : Act} {x : Option Tmp} {u : Value}
theorem detAt_put {v : Value} (hs : ∀ cs b, o.op ≠ .select cs b) (h : ∀ d, x = some d → d ∉ o.looksAt ops) : DetAt P ops C T F o (a.put x u) v ↔ DetAt P ops C T F o a v := by
 unfold DetAt
 rw [wanted_put o a x u h, execOp_put o hs a x u h]
 simp only [factsAt_put h]
theorem detAt_ins {v : Value} {d : Tmp} (h : d ∉ o.looksAt ops) : DetAt P ops C T (insF d F) o a v ↔ DetAt P ops C T F o a v := by
 unfold DetAt
 simp only [factsAt_ins h]
theorem looseAt_put {d : Tmp} {Φ : Fact} (hs : ∀ cs b, o.op ≠ .select cs b) (h : ∀ d, x = some d → d ∉ o.looksAt ops) : LooseAt P ops C M T F o (a.put x u) d Φ ↔ LooseAt P ops C M T F o a d Φ := by
 unfold LooseAt
 rw [wanted_put o a x u h, execOp_put o hs a x u h]
 simp only [factsAt_put h]
theorem looseAt_ins {d e : Tmp} {Φ : Fact} (h : e ∉ o.looksAt ops) : LooseAt P ops C M T (insF e F) o a d Φ ↔ LooseAt P ops C M T F o a d Φ := by
 unfold LooseAt
 simp only [factsAt_ins h]
theorem detAt_uniq {v v' : Value} (ha : Alive C T F a) (h : DetAt P ops C T F o a v) (h' : DetAt P ops C T F o a v') : v = v' := by
 rcases h with ⟨h1, rfl⟩ | ⟨h1, h2, h3⟩ <;> rcases h' with ⟨h1', rfl⟩ | ⟨h1', h2', h3'⟩
 ·rfl
 ·rw [h1] at h1'; cases h1'
 ·rw [h1] at h1'; cases h1'
 ·obtain ⟨w, hw⟩ := ha
  exact plainUpon_det (h3 w hw.1 (hw.factsAt _)) (h3' w hw.1 (hw.factsAt _))
theorem det_loose {v : Value} {d : Tmp} {Φ : Fact} (h : DetAt P ops C T F o a v) (h' : LooseAt P ops C M T F o a d Φ) : False := by
 rcases h with ⟨h1, _⟩ | ⟨_, h2, _⟩
 ·rw [h'.1] at h1; cases h1
 ·have := h2 d h'.2.1
  rw [h'.2.2.1] at this; cases this
theorem Alive.put (h : Alive C T F a) (hx : ∀ d, x = some d → ¬ F d) : Alive C T F (a.put x u) := by
 obtain ⟨w, h1, h2⟩ := h
 exact ⟨w, h1, fun s hs Φ hΦ => by rw [eval_put_ne' a u (fun e => hx s e hs)]; exact h2 s hs Φ hΦ⟩
theorem Alive.unput (h : Alive C T F (a.put x u)) (hx : ∀ d, x = some d → ¬ F d) : Alive C T F a := by
 obtain ⟨w, h1, h2⟩ := h
 exact ⟨w, h1, fun s hs Φ hΦ => by have := h2 s hs Φ hΦ; rwa [eval_put_ne' a u (fun e => hx s e hs)] at this⟩
theorem Alive.less {d : Tmp} (h : Alive C T (insF d F) a) : Alive C T F a := by
 obtain ⟨w, h1, h2⟩ := h
 exact ⟨w, h1, fun s hs => h2 s (.inr hs)⟩
end
theorem lOp_swap {i j : Nat} {oi oj : Oper} (hi : ops[i]? = some oi) (hj : ops[j]? = some oj) (hap : oi.apart ops oj = true) (hL : Lasts M C T)
  (hsi : ∀ cs b, oi.op ≠ .select cs b) (hsj : ∀ cs b, oj.op ≠ .select cs b) {F : Tmp → Prop} {a : Act} {K : (Tmp → Prop) → Act → Prop}
  (hsz : ∀ d, oi.dst = some d → d < a.tmps.size) (hFi : ∀ d, oi.dst = some d → ¬ F d) (hFj : ∀ d, oj.dst = some d → ¬ F d) (ha : Alive C T F a)
  (H : lOp P ops C M T i (fun F' a' => lOp P ops C M T j K F' a') F a) :
  lOp P ops C M T j (fun F' a' => Alive C T F' a' ∧ a'.tmps.size = a.tmps.size ∧ (F' = F ∨ ∃ d, oj.dst = some d ∧ F' = insF d F) ∧ lOp P ops C M T i K F' a') F a := by
 obtain ⟨h1, h2, h3⟩ := Oper.apart_spec hap
 rw [lOp_iff hi] at H
 rw [lOp_iff hj]
 rcases H with ⟨vi, hdi, H⟩ | ⟨d, Φ, hli, H⟩
 ·rw [lOp_iff hj] at H
  rcases H with ⟨vj, hdj, H⟩ | ⟨e, Ψ, hlj, H⟩
  ·rw [detAt_put hsj h1] at hdj
   refine .inl ⟨vj, hdj, ha.put hFj, put_size _ _ _, .inl rfl, (lOp_iff hi).2 (.inl ⟨vi, (detAt_put hsi h3).2 hdi, ?_⟩)⟩
   rw [← Act.put_comm a vi vj h2]; exact H
  ·rw [looseAt_put hsj h1] at hlj
   have hde := hlj.2.1
   refine .inr ⟨e, Ψ, hlj, fun v hv => ⟨hv, put_size _ _ _, .inr ⟨e, hde, rfl⟩, (lOp_iff hi).2 (.inl ⟨vi, (detAt_ins (h3 e hde)).2 ((detAt_put hsi fun y hy => by cases hy; exact h3 e hde).2 hdi), ?_⟩)⟩⟩
   have h2' : ∀ d, oi.dst = some d → (some e : Option Tmp) ≠ some d := fun d hd => hde ▸ h2 d hd
   rw [← Act.put_comm a vi v h2']
   refine H v ?_
   rw [Act.put_comm a vi v h2']
   exact hv.put fun d hd hf => hf.elim (fun e' => h2' d hd (by rw [e'])) (hFi d hd)
 ·have hd := hli.2.1
  obtain ⟨v0, w0, hv0⟩ : ∃ v w', Inv C T (insF d F) (a.put (some d) v) w' := by
   obtain ⟨w, hw⟩ := ha
   exact loose_alive hL hd (hsz d hd) hli.2.2.1 hli.2.2.2 hw
  have H0 := H v0 ⟨w0, hv0⟩
  rw [lOp_iff hj] at H0
  have hdl := h1 d hd
  have hx1 : ∀ e, (some d : Option Tmp) = some e → e ∉ oj.looksAt ops := fun e he => by cases he; exact hdl
  rcases H0 with ⟨vj, hdj, _⟩ | ⟨e, Ψ, hlj, _⟩
  ·rw [detAt_ins hdl, detAt_put hsj hx1] at hdj
   refine .inl ⟨vj, hdj, ha.put hFj, put_size _ _ _, .inl rfl, (lOp_iff hi).2 (.inr ⟨d, Φ, (looseAt_put hsi h3).2 hli, fun v hv => ?_⟩)⟩
   have h2' : ∀ e, (some d : Option Tmp) = some e → oj.dst ≠ some e := fun e he => by cases he; exact h2 d hd
   rw [← Act.put_comm a v vj h2'] at hv ⊢
   have hal : Alive C T (insF d F) (a.put (some d) v) := hv.unput fun e he hf => hf.elim (fun e' => h2 d hd (by rw [he, e'])) (hFj e he)
   have H1 := H v hal
   rw [lOp_iff hj] at H1
   rcases H1 with ⟨vj', hdj', H1⟩ | ⟨e, Ψ, hlj', _⟩
   ·rw [detAt_ins hdl, detAt_put hsj hx1] at hdj'
    rw [detAt_uniq ha hdj hdj']; exact H1
   ·rw [looseAt_ins hdl, looseAt_put hsj hx1] at hlj'
    exact (det_loose hdj hlj').elim
  ·rw [looseAt_ins hdl, looseAt_put hsj hx1] at hlj
   have hde := hlj.2.1
   have hne : d ≠ e := fun he => h2 d hd (by rw [hde, he])
   have h3' : ∀ y, (some e : Option Tmp) = some y → y ∉ oi.looksAt ops := fun y hy => by cases hy; exact h3 e hde
   refine .inr ⟨e, Ψ, hlj, fun vj hvj => ⟨hvj, put_size _ _ _, .inr ⟨e, hde, rfl⟩, (lOp_iff hi).2 (.inr ⟨d, Φ, (looseAt_ins (h3 e hde)).2 ((looseAt_put hsi h3').2 hli), fun v hv => ?_⟩)⟩⟩
   have h2' : ∀ y, (some d : Option Tmp) = some y → (some e : Option Tmp) ≠ some y := fun y hy he => by cases hy; cases he; exact hne rfl
   rw [← Act.put_comm a v vj h2', insF_comm] at hv ⊢
   have hal : Alive C T (insF d F) (a.put (some d) v) := hv.less.unput fun y hy hf => by
    cases hy
    exact hf.elim (fun e' => hne e'.symm) (hFj e hde)
   have H1 := H v hal
   rw [lOp_iff hj] at H1
   rcases H1 with ⟨vj', hdj', _⟩ | ⟨e', Ψ', hlj', H1⟩
   ·rw [detAt_ins hdl, detAt_put hsj hx1] at hdj'
    exact (det_loose hdj' hlj).elim
   ·have e1 : e' = e := Option.some.inj (hlj'.2.1.symm.trans hde)
    subst e1
    exact H1 vj hv
def Fresh (ops : Array Oper) (listed : Array Bool) (F : Tmp → Prop) : Prop := ∀ k ok d, ops[k]? = some ok → listed.getD k true = false → ok.dst = some d → ¬ F d
theorem Fresh.set {listed : Array Bool} {F F' : Tmp → Prop} (hB : dstsB ops = true) {j : Nat} {oj : Oper} (hj : ops[j]? = some oj) (h : Fresh ops listed F) (hF : F' = F ∨ ∃ d, oj.dst = some d ∧ F' = insF d F) :
  Fresh ops (listed.setIfInBounds j true) F' := by
 intro k ok d hk hl hd
 have hne : j ≠ k := by
  intro e; subst e
  rcases Nat.lt_or_ge j listed.size with h' | h'
  ·simp [h'] at hl
  ·simp at hl
 rw [getD_set_ne true hne] at hl
 have h1 := h k ok d hk hl hd
 rcases hF with rfl | ⟨e, he, rfl⟩
 ·exact h1
 ·intro hh
  rcases hh with rfl | hh
  ·exact dstsB_spec hB hj hk hne he hd
  ·exact h1 hh
def Fits (ops : Array Oper) (a : Act) : Prop := ∀ (i : Nat) (o : Oper) (d : Tmp), ops[i]? = some o → o.dst = some d → d < a.tmps.size
theorem lOp_some {i : Nat} {oi : Oper} (hi : ops[i]? = some oi) (hL : Lasts M C T) {F : Tmp → Prop} {a : Act} {K : (Tmp → Prop) → Act → Prop} (hsz : Fits ops a) (ha : Alive C T F a) (h : lOp P ops C M T i K F a) : ∃ F' a', K F' a' := by
 rw [lOp_iff hi] at h
 rcases h with ⟨v, _, h⟩ | ⟨d, Φ, hl, h⟩
 ·exact ⟨_, _, h⟩
 ·obtain ⟨w, hw⟩ := ha
  obtain ⟨v, w', hv⟩ := loose_alive hL hl.2.1 (hsz i oi d hi hl.2.1) hl.2.2.1 hl.2.2.2 hw
  exact ⟨_, _, h v ⟨w', hv⟩⟩
theorem wpAnyF_first {I : Array Bool → Prop} {n i : Nat} {oi : Oper} {L : Array Bool → (Tmp → Prop) → Act → Prop} (hi : ops[i]? = some oi) (hsel : ∀ (j : Nat) (o : Oper) cs b, ops[j]? = some o → o.op ≠ .select cs b)
  (hL : Lasts M C T) (hB : dstsB ops = true) (hI : ∀ listed j, I listed → j ∈ Region.ready md ops listed → j < n → I (listed.setIfInBounds j true))
  (hhead : ∀ listed, I listed → listed.getD i true = false → ∀ j ∈ Region.ready md ops listed, j < n)
  (hdone : ∀ listed F a, L listed F a → ∀ j ∈ Region.ready md ops listed, n ≤ j) :
  ∀ (f : Nat) (listed : Array Bool) (F : Tmp → Prop) (a : Act), I listed → Fresh ops listed F → Fits ops a → Alive C T F a →
   (∀ j oj, ops[j]? = some oj → j ≠ i → listed.getD j true = false → (∀ e ∈ oj.after, Region.binds md e = true → e.on ≠ i) → oi.apart ops oj = true) →
   i ∈ Region.ready md ops listed → lOp P ops C M T i (wpAnyF P ops C M T md n L f (listed.setIfInBounds i true)) F a → wpAnyF P ops C M T md n L (f + 1) listed F a := by
 intro f
 induction f with
 | zero =>
  intro listed F a inv _ hsz ha hfree hr H
  have hun := (mem_ready.1 hr).1
  refine ⟨fun h => (by rw [h] at hr; cases hr), fun j hj => ?_⟩
  have hjn := hhead listed inv hun j hj
  refine ⟨hjn, ?_⟩
  by_cases hji : j = i
  ·subst hji; exact H
  ·obtain ⟨F', a', H'⟩ := lOp_some hi hL hsz ha H
   have := hdone _ _ _ H' j (ready_mono hj hji)
   omega
 | succ f ih =>
  intro listed F a inv hFr hsz ha hfree hr H
  have hun := (mem_ready.1 hr).1
  refine ⟨fun h => (by rw [h] at hr; cases hr), fun j hj => ?_⟩
  have hjn := hhead listed inv hun j hj
  refine ⟨hjn, ?_⟩
  by_cases hji : j = i
  ·subst hji; exact H
  ·have hjr := ready_mono hj hji
   obtain ⟨hjun, oj, hoj, hall⟩ := mem_ready.1 hj
   have hnot : ∀ e ∈ oj.after, Region.binds md e = true → e.on ≠ i := fun e he hb heq => by
    have h1 := hall e he hb
    rw [heq, getD_both hun] at h1
    cases h1
   have H1 := lOp_mono (fun F' a' h => (h.2 j hjr).2) H
   have h2 := lOp_swap hi hoj (hfree j oj hoj hji hjun hnot) hL (fun cs b => hsel i oi cs b hi) (fun cs b => hsel j oj cs b hoj) (fun d hd => hsz i oi d hi hd) (fun d hd => hFr i oi d hi hun hd) (fun d hd => hFr j oj d hoj hjun hd) ha H1
   have hfree' : ∀ k ok, ops[k]? = some ok → k ≠ i → (listed.setIfInBounds j true).getD k true = false →
     (∀ e ∈ ok.after, Region.binds md e = true → e.on ≠ i) → oi.apart ops ok = true := fun k ok hk hki hun hno => by
    refine hfree k ok hk hki ?_ hno
    by_cases hjk : j = k
    ·subst hjk; exact hjun
    ·rw [getD_set_ne true hjk] at hun; exact hun
   refine lOp_mono (fun F' a' h3 => ?_) h2
   obtain ⟨hal, hsz', hF', h4⟩ := h3
   refine ih (listed.setIfInBounds j true) F' a' (hI _ _ inv hj hjn) (hFr.set hB hoj hF') (fun i o d h1 h2 => by rw [hsz']; exact hsz i o d h1 h2) hal hfree' (ready_mono hr (Ne.symm hji)) ?_
   rw [Array.setIfInBounds_comm _ _ hji]
   exact h4
def lexK (md : Region.Mode) (ops : Array Oper) (n g : Nat) : List Nat → Array Bool → Bool
 | [], listed => Region.seqB md ops g n listed
 | k :: ks, listed => decide (k < n) && (Region.ready md ops listed).contains k && Region.free md ops listed k && lexK md ops n g ks (listed.setIfInBounds k true)
theorem wpAnyF_lex {I : Array Bool → Prop} {n g : Nat} {Lq : (Tmp → Prop) → Act → Prop} (hsel : Region.noSelect ops = true) (hL : Lasts M C T) (hB : dstsB ops = true)
  (hI : ∀ listed j, I listed → j ∈ Region.ready md ops listed → j < n → I (listed.setIfInBounds j true))
  (hhead : ∀ i listed, i < n → I listed → listed.getD i true = false → ∀ j ∈ Region.ready md ops listed, j < n) :
  ∀ (ks : List (Nat × Oper)) (listed : Array Bool) (F : Tmp → Prop) (a : Act), (∀ p ∈ ks, ops[p.1]? = some p.2) → I listed → Fresh ops listed F → Fits ops a → Alive C T F a →
  lexK md ops n g (ks.map (·.1)) listed = true → wpLoose P ops C M T Lq (ks.map (·.2)) F a →
  wpAnyF P ops C M T md n (fun listed' F' a' => Region.seqB md ops g n listed' = true ∧ Lq F' a') ks.length listed F a
 | [], listed, F, a, _, _, _, _, _, hlex, h => ⟨by simpa [lexK] using hlex, h⟩
 | (k, o) :: ks, listed, F, a, hl, inv, hFr, hsz, ha, hlex, h => by
  have h0 : ops[k]? = some o := hl (k, o) (by simp)
  simp only [List.map_cons, lexK, Bool.and_eq_true, decide_eq_true_eq] at hlex h
  obtain ⟨⟨⟨hkn, hr⟩, hf⟩, hlex'⟩ := hlex
  have hr' : k ∈ Region.ready md ops listed := by simpa using hr
  have hun := (mem_ready.1 hr').1
  have hop : lOp P ops C M T k (wpLoose P ops C M T Lq (ks.map (·.2))) F a := by unfold lOp; simp only [h0]; exact h
  refine wpAnyF_first h0 (Region.noSelect_spec hsel) hL hB hI (fun listed' => hhead k listed' hkn) (fun listed' F' a' h => seqB_ready h.1) ks.length listed F a inv hFr hsz ha (Region.free_spec h0 hf) hr' ?_
  -- behind it: the rest
  rw [lOp_iff h0] at hop ⊢
  have rest : ∀ F' a', a'.tmps.size = a.tmps.size → (F' = F ∨ ∃ d, o.dst = some d ∧ F' = insF d F) → Alive C T F' a' → wpLoose P ops C M T Lq (ks.map (·.2)) F' a' → wpAnyF P ops C M T md n (fun listed' F' a' => Region.seqB md ops g n listed' = true ∧ Lq F' a') ks.length (listed.setIfInBounds k true) F' a' :=
   fun F' a' hs hF hal h => wpAnyF_lex hsel hL hB hI hhead ks _ F' a' (fun p hp => hl p (by simp [hp])) (hI _ _ inv hr' hkn) (hFr.set hB h0 hF)
    (fun i o d h1 h2 => by rw [hs]; exact hsz i o d h1 h2) hal hlex' h
  rcases hop with ⟨v, hd, h⟩ | ⟨d, Φ, hl', h⟩
  ·exact .inl ⟨v, hd, rest F _ (put_size _ _ _) (.inl rfl) (ha.put fun d hd' => hFr k o d h0 hun hd') h⟩
  ·exact .inr ⟨d, Φ, hl', fun v hv => rest _ _ (put_size _ _ _) (.inr ⟨d, hl'.2.1, rfl⟩) hv (h v hv)⟩
theorem wpOp_of_lOp {i : Nat} {oi : Oper} (hi : ops[i]? = some oi) (hL : Lasts M C T) {F : Tmp → Prop} {a : Act} {w : World} {K : (Tmp → Prop) → Act → Prop} {K' : Act → World → Prop} {Q' : Exit → Act → World → Prop} (hsz : Fits ops a) (hFr : ∀ d, oi.dst = some d → ¬ F d) (hw : Inv C T F a w)
  (h : ∀ F' a' w', a'.tmps.size = a.tmps.size → (F' = F ∨ ∃ d, oi.dst = some d ∧ F' = insF d F) → Inv C T F' a' w' → K F' a' → K' a' w') (hh : lOp P ops C M T i K F a) : wpOp P ops Q' i K' a w := by
 rw [lOp_iff hi] at hh
 unfold wpOp
 simp only [hi]
 rcases hh with ⟨v, hd, hk⟩ | ⟨d, Φ, hl, hk⟩
 ·have hw' : Inv C T F (a.put oi.dst v) w := ⟨hw.1, fun s hs Φ hΦ => by rw [eval_put_ne' a v (fun e => hFr s e hs)]; exact hw.2 s hs Φ hΦ⟩
  rcases hd with ⟨h1, rfl⟩ | ⟨h1, h2, h3⟩
  ·simp only [h1, Bool.false_eq_true, if_false]
   exact h _ _ _ (put_size _ _ _) (.inl rfl) hw' hk
  ·simp only [h1, if_true]
   left
   have h4 := h3 w hw.1 (hw.factsAt _)
   unfold Oper.wp
   generalize (execOp a.eval oi).run P w = r at *
   cases r with
   | halt x w' => exact h4.elim
   | ok n w' =>
    cases n <;> simp only [plainUpon] at h4 <;> simp only [Oper.upon]
    case value u => obtain ⟨rfl, rfl⟩ := h4; exact h _ _ _ (put_size _ _ _) (.inl rfl) hw' hk
    case skip => obtain ⟨rfl, rfl⟩ := h4; exact h _ _ _ (put_size _ _ _) (.inl rfl) hw' hk
 ·obtain ⟨h1, h2, h3, h4⟩ := hl
  simp only [h1, if_true]
  left
  have h5 := h4 w hw.1 (hw.factsAt _)
  have fin : ∀ v w', Keep M w w' → C w' → Φ v w' → K' (a.put oi.dst v) w' := fun v w' hk' hc hv => by
   have hi' : Inv C T (insF d F) (a.put (some d) v) w' := ⟨hc, fun s hs Φ' hΦ' => by
    by_cases e : s = d
    ·subst e
     rw [eval_put_self a s v (hsz i oi s hi h2)]
     rw [h3] at hΦ'; cases hΦ'; exact hv
    ·rw [eval_put_ne a v e]
     exact hL s Φ' hΦ' _ _ _ hw.1 hc hk' (hw.2 s (hs.resolve_left e) Φ' hΦ')⟩
   rw [h2]
   exact h _ _ _ (put_size _ _ _) (.inr ⟨d, h2, rfl⟩) hi' (hk v ⟨w', hi'⟩)
  unfold Oper.wp
  generalize (execOp a.eval oi).run P w = r at *
  cases r with
  | halt x w' => exact h5.elim
  | ok n w' =>
   cases n <;> simp only [looseUpon] at h5 <;> simp only [Oper.upon]
   case value u => exact fin u w' h5.1 h5.2.1 h5.2.2
   case enter f args =>
    obtain ⟨rfl, h6⟩ := h5
    refine h6.mono fun e w3 ⟨v, he, h7, h8, h9⟩ => ?_
    subst he
    exact fin v w3 h7 h8 h9
theorem wpAny_of_F {n g : Nat} {L : Array Bool → (Tmp → Prop) → Act → Prop} {Q' : Exit → Act → World → Prop} (hL : Lasts M C T) (hB : dstsB ops = true)
  (hfin : ∀ listed F a w, L listed F a → Inv C T F a w → wpAny P md ops Q' g listed a w) :
  ∀ (f : Nat) (listed : Array Bool) (F : Tmp → Prop) (a : Act) (w : World), Fresh ops listed F → Fits ops a → Inv C T F a w → wpAnyF P ops C M T md n L f listed F a → wpAny P md ops Q' (f + g) listed a w
 | 0, listed, F, a, w, _, _, hi, h => by rw [Nat.zero_add]; exact hfin _ _ _ _ h hi
 | f + 1, listed, F, a, w, hFr, hsz, hi, h => by
  rw [show f + 1 + g = (f + g) + 1 by omega]
  refine ⟨fun h0 => absurd h0 h.1, fun i hir => ?_⟩
  obtain ⟨hun, oi, hoi, _⟩ := mem_ready.1 hir
  exact wpOp_of_lOp hoi hL hsz (fun d hd => hFr i oi d hoi hun hd) hi (fun F' a' w' hs hF hi' h' => wpAny_of_F hL hB hfin f _ F' a' w' (hFr.set hB hoi hF) (fun i o d h1 h2 => by rw [hs]; exact hsz i o d h1 h2) hi' h') (h.2 i hir).2
def sinkF (md : Region.Mode) (ops : Array Oper) (n : Nat) (fl : List Nat) : Bool :=
 (List.range n).all fun i => fl.contains i || (List.range (n + 1)).any fun j => decide (i < j) && !fl.contains j && Region.waitsFor md ops j i
theorem tail_waitsF {n : Nat} {fl : List Nat} {listed : Array Bool} (hs : sinkF md ops n fl = true) (hc : Region.chainB md ops n = true) (hn : n < ops.size) (inv : HeadInv md ops n listed) (hfl : ∀ f ∈ fl, listed.getD f false = true) {t : Nat} (ht : n ≤ t) (hr : t ∈ Region.ready md ops listed) :
  ∀ (d i : Nat), n - i = d → i < n → listed.getD i true = true := by
 intro d
 induction d using Nat.strongRecOn with
 | _ d ih =>
  intro i hd hi
  cases hun : listed.getD i true with
  | true => rfl
  | false =>
   exfalso
   obtain ⟨_, ot, hot, hall⟩ := mem_ready.1 hr
   have htlt : t < ops.size := (Array.getElem?_eq_some_iff.1 hot).1
   by_cases htn : t = n
   ·subst htn
    have h1 := List.all_eq_true.1 hs i (List.mem_range.2 hi)
    rcases (Bool.or_eq_true _ _).mp h1 with hf | h1
    ·have h2 := getD_both hun; rw [hfl i (by simpa using hf)] at h2; cases h2
    ·obtain ⟨j, hj, hj2⟩ := List.any_eq_true.1 h1
     simp only [Bool.and_eq_true, decide_eq_true_eq] at hj2
     obtain ⟨oj, hoj, e, he, hb, hon⟩ := Region.waitsFor_spec hj2.2
     have hjle : j ≤ t := by have := List.mem_range.1 hj; omega
     have hcl : listed.getD j false = true → False := fun hl => by
      have h2 := inv.closed j oj hoj hl e he hb
      rw [hon, getD_both hun] at h2
      cases h2
     by_cases hjt : j = t
     ·subst hjt
      obtain rfl : oj = ot := Option.some.inj (hoj.symm.trans hot)
      have h2 := hall e he hb
      rw [hon, getD_both hun] at h2
      cases h2
     ·have hjl := ih (t - j) (by omega) j rfl (by omega)
      have hjs : j < listed.size := by rw [inv.size]; omega
      exact hcl (by simp [hjs] at hjl ⊢; exact hjl)
   ·have h1 := List.all_eq_true.1 hc t (List.mem_range.2 htlt)
    simp only [Bool.or_eq_true, decide_eq_true_eq] at h1
    rcases h1 with h1 | h1
    ·omega
    ·obtain ⟨o', ho', e, he, hb, hon⟩ := Region.waitsFor_spec h1
     obtain rfl : o' = ot := Option.some.inj (ho'.symm.trans hot)
     have h2 := hall e he hb
     rw [hon, getD_both (inv.tail (t - 1) (by omega) (by omega))] at h2
     cases h2
def listF (fl : List Nat) (listed : Array Bool) : Array Bool := fl.foldl (fun l i => l.setIfInBounds i true) listed
def floatAct (ops : Array Oper) : List Nat → Act → Act
 | [], a => a
 | i :: is, a => floatAct ops is (match ops[i]? with | some o => (match o.op with | .move x => a.put o.dst (a.eval x) | _ => a) | none => a)
def floatB (md : Region.Mode) (ops : Array Oper) : List Nat → Array Bool → Bool
 | [], _ => true
 | i :: is, listed => (match ops[i]? with | some o => o.guard.isNone && (match o.op with | .move _ => true | _ => false) | none => false) && Region.free md ops listed i && (Region.ready md ops listed).contains i && floatB md ops is (listed.setIfInBounds i true)
theorem wpAny_float {Q : Exit → Act → World → Prop} (hs : Region.noSelect ops = true) (hQ : ∀ d v c a w, Q (.panic c) (Act.put a d v) w → Q (.panic c) a w) {w : World} {fuel : Nat} : ∀ (fl : List Nat) (listed : Array Bool) (a : Act), floatB md ops fl listed = true →
  wpAny P md ops Q fuel (listF fl listed) (floatAct ops fl a) w → wpAny P md ops Q (fuel + fl.length) listed a w
 | [], listed, a, _, h => h
 | i :: is, listed, a, hB, h => by
  simp only [floatB, Bool.and_eq_true] at hB
  obtain ⟨⟨⟨h1, h2⟩, h3⟩, h4⟩ := hB
  cases ho : ops[i]? with
  | none => simp [ho] at h1
  | some o =>
   simp only [ho, Bool.and_eq_true] at h1
   cases hop : o.op with
   | move x =>
    have hg : o.guard = none := by simpa using h1.1
    have ih := wpAny_float hs hQ (w := w) (fuel := fuel) is (listed.setIfInBounds i true) (a.put o.dst (a.eval x)) h4 (by simpa [listF, floatAct, ho, hop] using h)
    rw [List.length_cons, ← Nat.add_assoc]
    refine wpAny_take ho hs h2 h3 (hQ _ _) (.inl ⟨by simp [Region.wanted, hg], fun w => ?_⟩) ih
    unfold execOp
    simp only [hop, Sem.run_pure]
   | _ => simp [hop] at h1
theorem getD_listF {fl : List Nat} : ∀ (listed : Array Bool) {j : Nat} {b : Bool}, (∀ f ∈ fl, f < listed.size) → (listF fl listed).getD j b = (fl.contains j || listed.getD j b) := by
 induction fl with
 | nil => intro listed j b _; simp [listF]
 | cons f fl ih =>
  intro listed j b hl
  have := ih (listed.setIfInBounds f true) (j := j) (b := b) (fun g hg => by simpa using hl g (by simp [hg]))
  simp only [listF, List.foldl_cons] at this ⊢
  rw [this]
  by_cases e : f = j
  ·subst e
   have hf := hl f (by simp)
   simp [hf]
  ·rw [getD_set_ne b e]
   have : ¬ j = f := fun h => e h.symm
   simp [this]
theorem size_listF {fl : List Nat} : ∀ (listed : Array Bool), (listF fl listed).size = listed.size := by
 induction fl with
 | nil => intro listed; rfl
 | cons f fl ih => intro listed; simp only [listF, List.foldl_cons]; have := ih (listed.setIfInBounds f true); simpa [listF] using this
def headF (md : Region.Mode) (ops : Array Oper) (n : Nat) (fl ks : List Nat) : Bool :=
 Region.noSelect ops && dstsB ops && (n == ops.size || decide (n < ops.size) && sinkF md ops n fl && Region.chainB md ops n) && fl.all (fun f => decide (f < n) && decide (f < ops.size) && (match ops[f]? with | some o => o.after.all (fun e => !Region.binds md e) | none => true)) &&
 floatB md ops fl (Array.replicate ops.size false) && lexK md ops n (ops.size - n) ks (listF fl (Array.replicate ops.size false)) && decide (ks.length + fl.length = n) && decide (n ≤ ops.size) && ks.all (fun k => decide (k < ops.size))
def headB (md : Region.Mode) (ops : Array Oper) (n : Nat) : Bool := headF md ops n [] (List.range n)
def fitsB (ops : Array Oper) (m : Nat) : Bool := (List.range ops.size).all fun i => match ops[i]? with | some o => (match o.dst with | some d => decide (d < m) | none => true) | none => true
theorem fits_of {a : Act} {m : Nat} (h : fitsB ops m = true) (hm : a.tmps.size = m) : Fits ops a := by
 intro i o d hi hd
 have h1 := List.all_eq_true.1 h i (List.mem_range.2 (Array.getElem?_eq_some_iff.1 hi).1)
 simp only [hi, hd, decide_eq_true_eq] at h1
 rw [hm]; exact h1
theorem floatAct_size : ∀ (fl : List Nat) (a : Act), (floatAct ops fl a).tmps.size = a.tmps.size
 | [], a => rfl
 | i :: is, a => by
  simp only [floatAct]
  rw [floatAct_size is]
  split
  ·split
   ·exact put_size _ _ _
   ·rfl
  ·rfl
def pickK (ops : Array Oper) (ks : List Nat) : List Oper := ks.filterMap fun k => ops[k]?
theorem pickK_of {ops : Array Oper} : ∀ (ks : List Nat), (∀ k ∈ ks, ops[k]? = some (ops.getD k default)) → (ks.map fun k => ops.getD k default) = pickK ops ks
 | [], _ => rfl
 | k :: ks, h => by
  have ih := pickK_of ks (fun k hk => h k (by simp [hk]))
  have hk := h k (by simp)
  unfold pickK at ih ⊢
  rw [List.map_cons, List.filterMap_cons, hk, ih]
theorem wp_region_float {id : Nat} {Q : Exit → Act → World → Prop} {a : Act} {w : World} {l : List Oper} (n m : Nat) (fl ks : List Nat) (T : Facts) (C : World → Prop) (M : List Nat) (hm : P.follows .mixedOrders = true) (hB : headF .any l.toArray n fl ks = true) (hf : fitsB l.toArray m = true) (hs : a.tmps.size = m) (hL : Lasts M C T)
  (hQ : fl = [] ∨ ∀ d v c a w, Q (.panic c) (Act.put a d v) w → Q (.panic c) a w)
  (hC : C w.drew) (h : wpLoose P l.toArray C M T (fun F a' => ∀ w', Inv C T F a' w' → wpList P l.toArray Q (l.drop n) a' w') (pickK l.toArray ks) (fun _ => False) (floatAct l.toArray fl a)) : (Code.region id l.toArray true).wp P Q a w := by
 simp only [headF, Bool.and_eq_true, Bool.or_eq_true, beq_iff_eq, decide_eq_true_eq] at hB
 obtain ⟨⟨⟨⟨⟨⟨⟨⟨hsel, hdst⟩, hn⟩, hfl⟩, hfB⟩, hlex⟩, hlen⟩, hle⟩, hks⟩ := hB
 have hdl : (l.drop n).length = l.toArray.size - n := by simp
 have hflt : ∀ f ∈ fl, f < n ∧ f < l.toArray.size ∧ ∀ o, l.toArray[f]? = some o → ∀ e ∈ o.after, Region.binds .any e = false := fun f hf' => by
  have := List.all_eq_true.1 hfl f hf'
  simp only [Bool.and_eq_true, decide_eq_true_eq] at this
  refine ⟨this.1.1, this.1.2, fun o ho e he => ?_⟩
  have h2 := this.2
  simp only [ho] at h2
  have := Array.all_eq_true_iff_forall_mem.1 h2 e he
  simpa using this
 let L0 := listF fl (Array.replicate l.toArray.size false)
 have hget : ∀ j b, L0.getD j b = (fl.contains j || (Array.replicate l.toArray.size false).getD j b) := fun j b => getD_listF _ (fun f hf' => by simpa using (hflt f hf').2.1)
 have inv0 : HeadInv .any l.toArray n L0 := by
  refine ⟨by show (listF fl _).size = _; rw [size_listF]; simp, fun j oj hj hl e he hb => ?_, fun t ht1 ht => ?_⟩
  ·rw [hget, getD_replicate_false, Bool.or_false] at hl
   have := (hflt j (by simpa using hl)).2.2 oj hj e he
   rw [hb] at this; cases this
  ·rw [hget]
   have h1 : fl.contains t = false := by
    cases hc : fl.contains t with
    | false => rfl
    | true => have := (hflt t (by simpa using hc)).1; omega
   rw [h1, Bool.false_or]
   exact getD_in (by simpa using ht) (getD_replicate_false _ _)
 have hi0 : Inv C T (fun _ => False) (floatAct l.toArray fl a) w.drew := ⟨hC, fun _ h => h.elim⟩
 have hFr0 : Fresh l.toArray L0 (fun _ => False) := fun _ _ _ _ _ _ h => h
 have hsz0 : Fits l.toArray (floatAct l.toArray fl a) := fits_of hf (by rw [floatAct_size]; exact hs)
 let I : Array Bool → Prop := fun listed => HeadInv .any l.toArray n listed ∧ ∀ f ∈ fl, listed.getD f false = true
 have hI0 : I L0 := ⟨inv0, fun f hf' => by rw [hget]; simp [hf']⟩
 have hIset : ∀ listed j, I listed → j ∈ Region.ready .any l.toArray listed → j < n → I (listed.setIfInBounds j true) := fun listed j hi hj hjn =>
  ⟨hi.1.set hj hjn, fun f hf' => getD_set_true (hi.2 f hf')⟩
 have hhead : ∀ i listed, i < n → I listed → listed.getD i true = false → ∀ j ∈ Region.ready .any l.toArray listed, j < n := by
  intro i listed hin inv hun j hj
  rcases hn with hn | ⟨⟨hn, hs⟩, hc⟩
  ·obtain ⟨_, oj, hoj, _⟩ := mem_ready.1 hj
   rw [hn]; exact (Array.getElem?_eq_some_iff.1 hoj).1
  ·rcases Nat.lt_or_ge j n with h | h
   ·exact h
   ·have := tail_waitsF hs hc hn inv.1 inv.2 h hj _ i rfl hin
    rw [this] at hun; cases hun
 let kso : List (Nat × Oper) := ks.map fun k => (k, l.toArray.getD k default)
 have hk1 : kso.map (·.1) = ks := by simp [kso, Function.comp_def]
 have hks' : ∀ k ∈ ks, l.toArray[k]? = some (l.toArray.getD k default) := fun k hk => by
  have := List.all_eq_true.1 hks k hk
  have hk' : k < l.toArray.size := by simpa using this
  rw [Array.getElem?_eq_getElem hk']
  simp at hk' ⊢
  simp [hk']
 have hk2 : kso.map (·.2) = pickK l.toArray ks := by
  simp only [kso, List.map_map, Function.comp_def]
  exact pickK_of ks hks'
 have H := wpAnyF_lex (P := P) (C := C) (M := M) (T := T) (md := .any) (I := I) (n := n) (g := l.toArray.size - n) hsel hL hdst hIset hhead kso L0 _ (floatAct l.toArray fl a) (fun p hp => by
  obtain ⟨k, hk, rfl⟩ := List.mem_map.1 hp
  exact hks' k hk) hI0 hFr0 hsz0 ⟨_, hi0⟩ (by rw [hk1]; exact hlex) (by rw [hk2]; exact h)
 refine wp_region_any hm ?_
 have := wpAny_of_F (P := P) (C := C) (M := M) (T := T) (n := n) (Q' := Q) (g := l.toArray.size - n) hL hdst (fun listed F a' w' hl hi => by
  have := wpAny_of_seq (md := .any) (Q' := Q) (l.drop n) n listed a' w' (fun j => by simp [List.getElem?_drop]) (by rw [hdl]; exact hl.1) (hl.2 w' hi)
  rwa [hdl] at this) _ _ _ _ _ hFr0 hsz0 hi0 H
 have hkl : kso.length = ks.length := by simp [kso]
 rcases hQ with rfl | hQ
 ·simp only [List.length_nil, Nat.add_zero] at hlen
  rw [hkl, hlen, show n + (l.toArray.size - n) = l.toArray.size by omega] at this
  exact this
 ·have h2 := wpAny_float (md := .any) (Q := Q) hsel hQ (w := w.drew) fl (Array.replicate l.toArray.size false) a hfB this
  rw [hkl, show ks.length + (l.toArray.size - n) + fl.length = l.toArray.size by omega] at h2
  exact h2
theorem pickK_range (l : List Oper) {n : Nat} (h : n ≤ l.length) : pickK l.toArray (List.range n) = l.take n := by
 unfold pickK
 induction n with
 | zero => simp
 | succ n ih =>
  rw [List.range_succ, List.filterMap_append, ih (by omega)]
  have : l[n]? = some l[n] := List.getElem?_eq_getElem (by omega)
  rw [List.take_succ_eq_append_getElem (by omega)]
  simp only [List.filterMap_cons, List.filterMap_nil, List.getElem?_toArray, this]
theorem wp_region_loose {id : Nat} {Q : Exit → Act → World → Prop} {a : Act} {w : World} {l : List Oper} (n m : Nat) (T : Facts) (C : World → Prop) (M : List Nat) (hm : P.follows .mixedOrders = true) (hB : headB .any l.toArray n = true) (hf : fitsB l.toArray m = true) (hs : a.tmps.size = m) (hL : Lasts M C T)
  (hC : C w.drew) (h : wpLoose P l.toArray C M T (fun F a' => ∀ w', Inv C T F a' w' → wpList P l.toArray Q (l.drop n) a' w') (l.take n) (fun _ => False) a) : (Code.region id l.toArray true).wp P Q a w := by
 have hle : n ≤ l.length := by
  simp only [headB, headF, Bool.and_eq_true, decide_eq_true_eq] at hB
  simpa using hB.1.2
 exact wp_region_float n m [] (List.range n) T C M hm hB hf hs hL (.inl rfl) hC (by rw [pickK_range l hle]; exact h)
end
def noEnterB : Op → Bool
 | .move _ | .assign _ | .pick _ _ _ | .load _ _ | .fieldAddr _ _ _ | .field _ _ _ | .indexAddr _ _ _ | .index _ _ _ | .binOp _ _ _ _ _ | .unOp _ _ _ | .convert _ _ _ | .build _ _ | .extract _ _ | .slice _ _ _ _ _ => true
 | .call c => match c.callee with
  | .builtin .len => true
  | .builtin .min => true
  | .builtin .max => true
  | _ => false
 | _ => false
theorem val_noEnter {P : Program} {w w' : World} {s : Sem Value} {f : FuncId} {args : Array Value} : (s >>= fun x => pure (Next.value x) : Sem Next).run P w ≠ .ok (.enter f args) w' := by
 simp only [Sem.run_bind]
 cases s.run P w with
 | halt x w' => intro h; cases h
 | ok v w' => simp only [Result.andThen_ok, Sem.run_pure]; intro h; cases h
theorem val_noEnter' {r : Result Value} {w' : World} {f : FuncId} {args : Array Value} : (r.andThen fun a w => Result.ok (Next.value a) w) ≠ .ok (.enter f args) w' := by
 cases r with
 | halt x w' => intro h; cases h
 | ok v w' => simp only [Result.andThen_ok]; intro h; cases h
theorem noEnter {P : Program} {ρ : Operand → Value} {o : Oper} (h : noEnterB o.op = true) (w w' : World) (f : FuncId) (args : Array Value) : (execOp ρ o).run P w ≠ .ok (.enter f args) w' := by
 unfold execOp
 cases ho : o.op <;> rw [ho] at h <;> simp only [noEnterB, Bool.false_eq_true] at h <;> first
  | exact val_noEnter
  | (simp only [Sem.run_pure]; intro h; cases h; done)
  | (simp only [Sem.run_bind]; generalize (asBool _).run P w = r; cases r <;> simp [Result.andThen_ok]; done)
  | skip
 case call c =>
  cases hc : c.callee with
  | builtin b =>
   rw [hc] at h
   cases b <;> first
    | exact absurd h (by decide)
    | (unfold resolve; simp only [hc, Sem.run_bind, Sem.run_pure, Result.andThen_ok, invoke, builtin]; exact val_noEnter')
  | value f => rw [hc] at h; exact absurd h (by simp)
  | invoke r n => rw [hc] at h; exact absurd h (by simp)
section
variable {P : Program} {ops : Array Oper} {C D : World → Prop} {M : List Nat} {T : Facts} {Q : (Tmp → Prop) → Act → Prop} {F : Tmp → Prop} {a : Act} {o : Oper} {rest : List Oper}
theorem wpLoose_nil (h : Q F a) : wpLoose P ops C M T Q [] F a := h
theorem loose_plain (hT : ∀ d, o.dst = some d → T.at d = none) (hn : noEnterB o.op = true) (hD : ∀ w, C w → D w) (h : wpQuiet P ops D (fun a' => wpLoose P ops C M T Q rest F a') [o] a) : wpLoose P ops C M T Q (o :: rest) F a := by
  unfold wpLoose
  unfold wpQuiet at h
  by_cases hw : Region.wanted o (yielded ops a.tmps) = true
  · simp only [hw, if_true] at h ⊢
    obtain ⟨v, h1, h2⟩ := h
    refine .inr ⟨hT, v, fun w hw _ => ?_, h2⟩
    have h3 := h1 w (hD w hw)
    unfold Oper.quietAt at h3
    have hne := fun w' f args => noEnter (P := P) (ρ := a.eval) hn w w' f args
    generalize (execOp a.eval o).run P w = r at *
    cases r with
    | halt x w' => exact h3.elim
    | ok n w' => cases n <;> simp only [Oper.quietUpon] at h3 <;> simp only [plainUpon]
                 case value u => exact h3
                 case skip => exact h3
                 case enter f args => exact absurd rfl (hne w' f args)
  · simp only [hw] at h ⊢
    exact h
theorem loose_fact {d : Tmp} {Φ : Fact} (hw : Region.wanted o (yielded ops a.tmps) = true) (hd : o.dst = some d) (hT : T.at d = some Φ)
  (h : ∀ w, C w → FactsAt T F (o.looksAt ops) a w → looseUpon P C M Φ w ((execOp a.eval o).run P w))
  (hk : ∀ v w, C w → Φ v w → wpLoose P ops C M T Q rest (insF d F) (a.put (some d) v)) (hsz : d < a.tmps.size) : wpLoose P ops C M T Q (o :: rest) F a := by
 unfold wpLoose
 simp only [hw, if_true]
 refine .inl ⟨d, Φ, hd, hT, h, fun v ⟨w, hi⟩ => hk v w hi.1 ?_⟩
 have := hi.2 d (.inl rfl) Φ hT
 rwa [eval_put_self a d v hsz] at this
@[go_sem] theorem looseUpon_enter {Φ : Fact} {w w' : World} {f : FuncId} {args : Array Value} : looseUpon P C M Φ w (.ok (.enter f args) w') ↔ (w' = w ∧ Calls P f args w fun e w3 => ∃ v, e = .returned v ∧ Keep M w w3 ∧ C w3 ∧ Φ v w3) := Iff.rfl
@[go_sem] theorem looseUpon_value {Φ : Fact} {w w' : World} {u : Value} : looseUpon P C M Φ w (.ok (.value u) w') ↔ (Keep M w w' ∧ C w' ∧ Φ u w') := Iff.rfl
theorem lasts_nil : Lasts M C [] := fun d Φ h => by cases h
theorem lasts_cons {d : Tmp} {Φ : Fact} {T : Facts} (h : ∀ v w w', C w → C w' → Keep M w w' → Φ v w → Φ v w') (hT : Lasts M C T) : Lasts M C ((d, Φ) :: T) := by
 intro e Ψ he
 unfold Facts.at at he
 simp only [List.find?_cons] at he
 split at he
 ·simp only [Option.map_some, Option.some.injEq] at he
  subst he; exact h
 ·exact hT e Ψ he
theorem wpList_done {Q : Exit → Act → World → Prop} {w : World} (h : Q .normal a w) : wpList P ops Q [] a w := h
end
section
variable {P : Program} {M : List Nat} {w0 w : World} {X : List Chunk} {R : List Row} {S : List Ro} {Q : Exit → Act → World → Prop} {a : Act}
end
end Go.Proofs.YtbdfblgdmappeaaGreatDoor
