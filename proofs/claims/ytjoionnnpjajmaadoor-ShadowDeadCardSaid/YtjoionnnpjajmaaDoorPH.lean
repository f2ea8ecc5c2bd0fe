/- The reference of findings: Ints, Same. -/
import Derived.Test.YtjoionnnpjajmaaDoorPC
import Derived.Test.YtjoionnnpjajmaaDoorPB
import Derived.Test.YtjoionnnpjajmaaDoorPG
import Derived.Test.YtjoionnnpjajmaaDoorPF
import Derived.Test.YtjoionnnpjajmaaDoorOE
namespace Go.Proofs.YtjoionnnpjajmaaDoor
open Go.RowKit
set_option maxRecDepth 100000
theorem anS_by {t : List Rul} {i : Nat} {m : List Fnd} (h : anS t i = some m) : m.length ≤ 2 ∧ ∀ f ∈ m, f.2.2.length ≤ t.length + 1 := by
 have hexc : ∀ o, (excL i o).length ≤ 1 ∧ ∀ f ∈ excL i o, f.2.2.length ≤ t.length + 1 := fun o => by
  cases o with
  | none => exact ⟨by simp [excL], fun f hf => by cases hf⟩
  | some k => exact ⟨by simp [excL], fun f hf => by rw [List.mem_singleton.1 hf]; simp⟩
 unfold anS at h
 split at h
 ·cases h
 ·rename_i r hr
  obtain ⟨hi, rfl⟩ := List.getElem?_eq_some_iff.1 hr
  split at h
  ·cases h
  ·split at h
   ·cases h
    refine ⟨by simp, fun f hf => ?_⟩
    rw [List.mem_singleton.1 hf]
    have := befT_len t[i].1 t i
    dsimp only
    omega
   ·split at h
    ·split at h
     ·cases h
     ·rename_i hs hh
      cases h
      obtain ⟨h1, h2⟩ := hexc (excF t[i] (t.drop (i + 1)) (i + 1))
      refine ⟨by simp only [List.length_cons]; omega, fun f hf => ?_⟩
      rcases List.mem_cons.1 hf with rfl | hf
      ·have := heirN_len hh
       dsimp only
       omega
      ·exact h2 f hf
    ·cases h
     obtain ⟨h1, h2⟩ := hexc (excF t[i] (t.drop (i + 1)) (i + 1))
     exact ⟨by omega, h2⟩
theorem anF_by {t : List Rul} : ∀ {n : Nat} {l : List Fnd}, anF t n = some l → l.length ≤ 2 * n ∧ ∀ f ∈ l, f.2.2.length ≤ t.length + 1
 | 0, l, h => by cases h; exact ⟨by simp, fun f hf => by cases hf⟩
 | n + 1, l, h => by
  rw [anF] at h
  split at h
  ·cases h
  ·rename_i l' hl
   split at h
   ·cases h
   ·rename_i m hm
    cases h
    obtain ⟨h1, h2⟩ := anF_by hl
    obtain ⟨h3, h4⟩ := anS_by hm
    refine ⟨by rw [List.length_append]; omega, fun f hf => ?_⟩
    rcases List.mem_append.1 hf with hf | hf
    ·exact h2 f hf
    ·exact h4 f hf
theorem clF_len {t : List Rul} {ix rm : List Int} {i : Nat} {c : List Rul} {r : List Int} (e : clF t ix rm i = some (c, r)) : c.length ≤ t.length ∧ r.length ≤ rm.length + t.length := by
 by_cases hi : i < t.length
 ·cases hs : stF t i with
  | none => rw [clF_none hi hs] at e; cases e
  | some x =>
   obtain ⟨s, b⟩ := x
   cases b
   ·rw [clF_go hi hs] at e
    exact clF_len e
   ·rw [clF_rm hi hs] at e
    have h := clF_len e
    have hw := woF_length hi
    rw [List.length_append] at h
    simp only [List.length_cons, List.length_nil] at h
    omega
 ·rw [clF_end hi] at e
  cases e
  omega
termination_by (t.length, t.length - i)
decreasing_by
 ·exact Prod.Lex.right _ (by omega)
 ·rw [woF_length hi]; exact Prod.Lex.left _ _ (by omega)
section
variable {M : List Nat} {w0 w w' : World} {X : List Chunk} {R : List Row} {S : List Ro}
theorem Own.gainCl (hO : Own M w0 X R S w) (hb : Below w.heap.size w w') {v vr : Value} {l : List Rul} {m : List Int} (hv : IsTable w' v l) (hn : NewFrom w v) (hr : IsNums w' vr m) (hm : NewFrom w vr) : Own M w0 X R (roS vr (ints m) ++ (roS v (cellsR l) ++ S)) w' :=
 (hO.gainR hb hv hn).addC2 (B := w.heap.size) hO.lt hr hm
end
end Go.Proofs.YtjoionnnpjajmaaDoor
