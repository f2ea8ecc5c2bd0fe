/- Law functions that read a tape: what they begin with; loads from the very beginning of what came in. -/
import Derived.Test.YtnhjcbmlplfpmaaDoorTapeE
namespace Go.Proofs.YtnhjcbmlplfpmaaDoor
open Go.RowKit
set_option maxRecDepth 100000
theorem own_law {w : World} {sl : Value} {zs : List Int} (hr : ∀ s ∈ roS sl (ints zs), w.rangeAt s.g s.o s.xs) : Own [] w [] [] (roS sl (ints zs)) w :=
  ⟨Keep.refl _ _, fun c hc => (by cases hc), fun r hr => (by cases hr), hr, by simp [excl], by simp [excl], by simp [excl]⟩
theorem Own.gain {M : List Nat} {w0 w w' : World} {X : List Chunk} {R : List Row} {S : List Ro} (hO : Own M w0 X R S w) (hb : Below w.heap.size w w') {n : Nat} {cs : List Value} {t : TypeId} (hB : Blk w' n cs t) (hn : w.heap.size ≤ n) : Own M w0 (⟨n, cs, t⟩ :: X) R S w' := by
  have h1 := hO.call hb
  refine ⟨h1.keep, fun c hc => ?_, h1.row, h1.ro, ?_, fun k hk => ?_, fun s hs hne hm => ?_⟩
  · rcases List.mem_cons.1 hc with rfl | hc
    · exact hB
    · exact h1.chunk c hc
  · show (n :: excl X R).Nodup
    exact List.nodup_cons.2 ⟨fun hm => by have := hO.lt n hm; omega, hO.nd⟩
  · rcases List.mem_cons.1 (show k ∈ n :: excl X R from hk) with rfl | hk
    · exact .inr (Nat.le_trans hO.keep.size hn)
    · exact hO.free k hk
  · rcases List.mem_cons.1 (show s.g ∈ n :: excl X R from hm) with e | hm
    · have := ro_lt (hO.ro s hs) hne
      omega
    · exact hO.apart s hs hne hm
theorem tk_box0 (l : List Bx) (h : 0 < l.length) : (cellsB l).take (bcs l[0]).length = bcs l[0] := by
  have := tk_box l h
  simpa using this
theorem tk_boxOne (x : Bx) : (cellsB [x]).take (bcs x).length = bcs x := by rw [cellsB_one]; exact List.take_length
theorem intersect_apart {a b : Bx} (h : (interB a b).2 = false) (w : World) (ht : Tops w) :
    Calls Tryd.prog 11 #[bv a, bv b] w fun e w' => e = .returned (.tuple #[bv zeroBx, .bool false]) ∧ Below w.heap.size w w' := by
  have e : interB a b = (zeroBx, false) := by
    unfold interB at h ⊢
    split
    · rename_i hc; rw [if_pos hc] at h; cases h
    · rfl
  have := intersect_any a b w ht
  rw [e] at this
  exact this
theorem subset_is {a b : Bx} {r : Bool} (h : subB a b = r) (w : World) (ht : Tops w) :
    Calls Tryd.prog 14 #[bv a, bv b] w fun e w' => e = .returned (.bool r) ∧ Below w.heap.size w w' := h ▸ subset_any a b w ht
theorem valid_is {a : Bx} {r : Bool} (h : vld a = r) (w : World) (ht : Tops w) :
    Calls Tryd.prog 13 #[bv a] w fun e w' => e = .returned (.bool r) ∧ Below w.heap.size w w' := h ▸ valid_any a w ht
end Go.Proofs.YtnhjcbmlplfpmaaDoor
