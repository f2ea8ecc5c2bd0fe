/- What a call owns: its blocks and growable slices, said in one word, and the laws of the operations on memory over it. For any program. -/
import Derived.Test.YtnhjcbmlplfpmaaDoorBase
import Derived.Handy
import Derived.Deep.MidRow
import Derived.Deep.QuietTactic
import Derived.BigQuiet
import Derived.BigRegion
import Derived.StillTail
namespace Go.Proofs.YtnhjcbmlplfpmaaDoor
open Go.RowKit

/-- all blocks but those of M are as they were; nothing has gone -/
structure Keep (M : List Nat) (w w' : World) : Prop where
  os : w'.os = w.os
  tape : w'.tape = w.tape
  output : w'.output = w.output
  size : w.heap.size ≤ w'.heap.size
  block : ∀ k, k < w.heap.size → k ∉ M → w'.heap[k]? = w.heap[k]?
theorem Keep.refl (M : List Nat) (w : World) : Keep M w w := ⟨rfl, rfl, rfl, Nat.le_refl _, fun _ _ _ => rfl⟩
theorem Keep.trans {M : List Nat} {a b c : World} (h : Keep M a b) (k : Keep M b c) : Keep M a c :=
  ⟨k.os.trans h.os, k.tape.trans h.tape, k.output.trans h.output, Nat.le_trans h.size k.size, fun i hi hm => (k.block i (Nat.lt_of_lt_of_le hi h.size) hm).trans (h.block i hi hm)⟩
theorem Keep.below {w w' : World} (h : Keep [] w w') : Below w.heap.size w w' := ⟨h.os, h.tape, h.output, h.size, fun k hk => h.block k hk (by simp)⟩
theorem keep_of_below {w w' : World} (h : Below w.heap.size w w') (M : List Nat) : Keep M w w' := ⟨h.os, h.tape, h.output, h.size, fun k hk _ => h.block k hk⟩

/-- a block of the call's own -/
structure Chunk where
  n : Nat
  cs : List Value
  t : TypeId
/-- a growable slice of the call's own: its value, how many elements, their cells, the element's type and size -/
structure Row where
  v : Value
  k : Nat
  xs : List Value
  e : TypeId
  size : Nat
/-- a slice that is only read: block, offset, cells -/
structure Ro where
  g : Nat
  o : Nat
  xs : List Value

def excl (X : List Chunk) (R : List Row) : List Nat := X.map (·.n) ++ R.filterMap (·.v.ownBlock)

structure Own (M : List Nat) (w0 : World) (X : List Chunk) (R : List Row) (S : List Ro) (w : World) : Prop where
  keep : Keep M w0 w
  chunk : ∀ c ∈ X, Blk w c.n c.cs c.t
  row : ∀ r ∈ R, w.ownsRow 0 r.e r.size r.v r.k r.xs
  ro : ∀ s ∈ S, w.rangeAt s.g s.o s.xs
  nd : (excl X R).Nodup
  free : ∀ n ∈ excl X R, n ∈ M ∨ w0.heap.size ≤ n
  apart : ∀ s ∈ S, s.xs ≠ [] → s.g ∉ excl X R

section
variable {M : List Nat} {w0 w : World} {X : List Chunk} {R : List Row} {S : List Ro}

theorem own_start (M : List Nat) (w0 : World) : Own M w0 [] [] [] w0 :=
  ⟨Keep.refl _ _, by simp, by simp, by simp, by simp [excl], by simp [excl], by simp⟩

theorem Own.lt (h : Own M w0 X R S w) : ∀ n ∈ excl X R, n < w.heap.size := by
  intro n hn
  rcases List.mem_append.1 hn with hn | hn
  · obtain ⟨c, hc, rfl⟩ := List.mem_map.1 hn
    exact (h.chunk c hc).lt
  · obtain ⟨r, hr, he⟩ := List.mem_filterMap.1 hn
    exact ((h.row r hr).lt n he).2

theorem ro_lt {w : World} {s : Ro} (h : w.rangeAt s.g s.o s.xs) (hne : s.xs ≠ []) : s.g < w.heap.size := by
  cases hx : s.xs with
  | nil => exact absurd hx hne
  | cons v vs =>
    have := h 0 v (by rw [hx]; rfl)
    exact World.block_lt_of_cell? w _ this

/-- the frame: a world that agrees with the old one on every block but one exclusive one (none: a new block alone) -/
theorem Own.frame {w' : World} (h : Own M w0 X R S w) (os : w'.os = w.os) (tape : w'.tape = w.tape) (out : w'.output = w.output) (hs : w.heap.size ≤ w'.heap.size)
    (ho : ∀ k, k < w.heap.size → w'.heap[k]? = w.heap[k]?) : Own M w0 X R S w' := by
  refine ⟨h.keep.trans ⟨os, tape, out, hs, fun k hk _ => ho k hk⟩, fun c hc => ?_, fun r hr => ?_, fun s hs => ?_, h.nd, h.free, h.apart⟩
  · have := h.chunk c hc
    unfold Blk; rw [ho c.n this.lt]; exact this
  · refine (h.row r hr).kept (row := none) ⟨os, tape, out, hs, fun k hk _ => ho k hk⟩ ?_
    cases e : r.v.ownBlock <;> simp
  · intro j v hv
    have h1 := h.ro s hs j v hv
    rw [World.cell?_of_block (w := w) (ho _ (World.block_lt_of_cell? w _ h1))]; exact h1

theorem Own.drew (h : Own M w0 X R S w) : Own M w0 X R S w.drew := h.frame rfl rfl rfl (Nat.le_refl _) fun _ _ => rfl
theorem Own.drewN (h : Own M w0 X R S w) (n : Nat) : Own M w0 X R S (w.drewN n) := h.frame rfl rfl rfl (Nat.le_refl _) fun _ _ => rfl
theorem Own.call {w' : World} (h : Own M w0 X R S w) (hb : Below w.heap.size w w') : Own M w0 X R S w' := h.frame hb.os hb.tape hb.output hb.size hb.block

theorem Own.alloc (h : Own M w0 X R S w) (cs : List Value) (t : TypeId) : Own M w0 (⟨w.heap.size, cs, t⟩ :: X) R S (w.alloc (.cells cs.toArray t (0, 0))) := by
  have h1 : Own M w0 X R S (w.alloc (.cells cs.toArray t (0, 0))) := h.frame rfl rfl rfl (by simp) fun k hk => Below.heap_alloc _ _ _ hk
  refine ⟨h1.keep, ?_, h1.row, h1.ro, ?_, ?_, ?_⟩
  · intro c hc
    rcases List.mem_cons.1 hc with rfl | hc
    · exact Blk.new w cs t
    · exact h1.chunk c hc
  · show (w.heap.size :: excl X R).Nodup
    exact List.nodup_cons.2 ⟨fun hm => Nat.lt_irrefl _ (h.lt _ hm), h.nd⟩
  · intro n hn
    rcases List.mem_cons.1 (show n ∈ w.heap.size :: excl X R from hn) with rfl | hn
    · exact .inr h.keep.size
    · exact h.free n hn
  · intro s hs hne hm
    rcases List.mem_cons.1 (show s.g ∈ w.heap.size :: excl X R from hm) with e | hm
    · have := ro_lt (h.ro s hs) hne
      omega
    · exact h.apart s hs hne hm

theorem map_set_n {X : List Chunk} {i : Nat} {c : Chunk} (hi : X[i]? = some c) (cs : List Value) : (X.set i ⟨c.n, cs, c.t⟩).map (·.n) = X.map (·.n) := by
  rw [List.map_set]
  have : (X.map (·.n))[i]? = some c.n := by simp [hi]
  obtain ⟨h1, h2⟩ := List.getElem?_eq_some_iff.1 this
  show (X.map (·.n)).set i c.n = _
  rw [← h2, List.set_getElem_self]

/-- a store into one chunk -/
theorem Own.setChunk {w' : World} (h : Own M w0 X R S w) {i : Nat} {n : Nat} {cs : List Value} {t : TypeId} (hi : X[i]? = some ⟨n, cs, t⟩) (cs' : List Value)
    (os : w'.os = w.os) (tape : w'.tape = w.tape) (out : w'.output = w.output) (hs : w'.heap.size = w.heap.size)
    (ho : ∀ k, k ≠ n → w'.heap[k]? = w.heap[k]?) (hn : Blk w' n cs' t) : Own M w0 (X.set i ⟨n, cs', t⟩) R S w' := by
  have he : excl (X.set i ⟨n, cs', t⟩) R = excl X R := by unfold excl; rw [map_set_n hi cs']
  have hmem : n ∈ excl X R := List.mem_append.2 (.inl (List.mem_map.2 ⟨_, List.mem_of_getElem? hi, rfl⟩))
  have hnX : n ∈ X.map (·.n) := List.mem_map.2 ⟨_, List.mem_of_getElem? hi, rfl⟩
  have hnd := List.nodup_append.1 h.nd
  refine ⟨?_, fun c hc => ?_, fun r hr => ?_, fun s hs' => ?_, he ▸ h.nd, he ▸ h.free, he ▸ h.apart⟩
  · refine ⟨os.trans h.keep.os, tape.trans h.keep.tape, out.trans h.keep.output, by rw [hs]; exact h.keep.size, fun k hk hm => ?_⟩
    by_cases e : k = n
    · subst e
      rcases h.free k hmem with hf | hf
      · exact absurd hf hm
      · omega
    · rw [ho k e]; exact h.keep.block k hk hm
  · obtain ⟨j, hj⟩ := List.getElem?_of_mem hc
    by_cases e : j = i
    · subst e
      have hl := (List.getElem?_eq_some_iff.1 hi).1
      rw [List.getElem?_set_self hl] at hj
      cases hj; exact hn
    · rw [List.getElem?_set_ne (fun h => e h.symm)] at hj
      have hc' := h.chunk c (List.mem_of_getElem? hj)
      have hne : c.n ≠ n := by
        intro heq
        have h1 : (X.map (·.n))[j]? = some n := by simp [hj, heq]
        have h2 : (X.map (·.n))[i]? = some n := by simp [hi]
        exact e ((List.getElem?_inj (List.getElem?_eq_some_iff.1 h1).1 hnd.1).1 (h1.trans h2.symm))
      unfold Blk; rw [ho c.n hne]; exact hc'
  · refine (h.row r hr).kept (row := some n) ⟨os, tape, out, Nat.le_of_eq hs.symm, fun k _ hk => ho k (fun e => hk (by rw [e]))⟩ ?_
    cases e : r.v.ownBlock with
    | none => simp
    | some b =>
      right
      intro heq
      have hb : b = n := by simpa using heq
      exact hnd.2.2 n hnX b (List.mem_filterMap.2 ⟨r, hr, e⟩) hb.symm
  · intro j v hv
    have h1 := h.ro s hs' j v hv
    have hne : s.g ≠ n := fun e => h.apart s hs' (fun e0 => by rw [e0] at hv; cases hv) (e ▸ hmem)
    rw [World.cell?_of_block (w := w) (ho _ hne)]; exact h1
end
end Go.Proofs.YtnhjcbmlplfpmaaDoor
