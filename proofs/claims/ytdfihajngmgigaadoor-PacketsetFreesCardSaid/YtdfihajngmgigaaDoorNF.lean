/- Opening lists of boxes. -/
import Derived.Test.YtdfihajngmgigaaDoorMB
namespace Go.Proofs.YtdfihajngmgigaaDoor
open Go.ChangeShapes Go.WideShapes Go.ChangeAt Go.RowKit
set_option maxRecDepth 100000
theorem addr_add (g o i : Nat) : (⟨g, o, none⟩ : Addr).add i = ⟨g, o + i, none⟩ := by
  unfold Addr.add
  by_cases h0 : i = 0
  · rw [if_pos h0, h0]; rfl
  · rw [if_neg h0]
theorem mapM_get {α β : Type} (f : α → Option β) : ∀ (l : List α) (r : List β), l.mapM f = some r → ∀ (j : Nat) (u : β), ∀ (_ : r[j]? = some u), ∃ x, l[j]? = some x ∧ f x = some u
  | [], r, h, j, u, hj => by
    simp at h
    subst h
    simp at hj
  | x :: l, r, h, j, u, hj => by
    rw [List.mapM_cons] at h
    simp only [Option.bind_eq_bind, Option.bind_eq_some_iff, Option.pure_def, Option.some.injEq] at h
    obtain ⟨y, hy, ys, hys, rfl⟩ := h
    cases j with
    | zero =>
      simp at hj
      subst hj
      exact ⟨x, rfl, hy⟩
    | succ j => exact mapM_get f l ys hys j u (by simpa using hj)
theorem range_of_cells {w : World} {base g o n : Nat} {cs : List Value} (h : w.cells? base ⟨g, o, none⟩ n = some cs) : w.rangeAt g o cs := by
  unfold World.cells? at h
  split at h
  · intro j u hj
    obtain ⟨x, hx, hf⟩ := mapM_get _ _ _ h j u hj
    rw [List.getElem?_range (by
      have := (List.getElem?_eq_some_iff.1 hx).1
      simpa using this)] at hx
    obtain rfl := Option.some.inj hx
    rw [addr_add] at hf
    exact hf
  · cases h
theorem range_cellsB {w : World} {g : Nat} : ∀ (l : List Bx) (o : Nat), (∀ i b, l[i]? = some b → w.rangeAt g (o + 10 * i) (bcs b)) → w.rangeAt g o (cellsB l)
  | [], o, _ => fun j u hj => by simp [cellsB] at hj
  | b :: l, o, h => by
    have h0 := h 0 b rfl
    have ih := range_cellsB l (o + 10) fun i c hc => by
      have := h (i + 1) c (by simpa using hc)
      rwa [show o + 10 + 10 * i = o + 10 * (i + 1) by omega]
    have hl : (bcs b).length = 10 := rfl
    intro j u hj
    simp only [cellsB] at hj
    by_cases hj10 : j < 10
    · rw [List.getElem?_append_left (by omega)] at hj
      exact h0 j u hj
    · rw [List.getElem?_append_right (by omega), hl] at hj
      have := ih (j - 10) u hj
      rwa [show o + 10 + (j - 10) = o + j by omega] at this
section
variable {H : Type} {enc : TypeId × Value → H} {w : World} {base : Nat} {spare : Nat → Bool} {held : Bool}
theorem isBoxes_of {r : Reach} {b0 : Nat} {v : Value} {d : DataW H} {p : List MemPlace} (hv : Value.okWide Tryd.prog w r b0 29 v) (h : DataW.Trod enc Tryd.prog w base spare held 29 v d p) :
    ∃ l : List Bx, IsBoxes w v l ∧ (∀ b ∈ l, b.ok) ∧ l.length ≤ 9223372036854775807 := by
  obtain ⟨n, hn⟩ := h
  have c10 : (Tryd.prog).cellsOf 66 = 10 := by kernel_rfl
  rcases DataW.trod_slice Tryd.underlying29 hn with ⟨h1, _⟩ | ⟨a, len, cap, elems, rest, m, _, h1, _, _, hlc, hcm, hlen, hel, _, _⟩
  · have : v = .slice none 0 0 := by
      cases v with
      | slice a l c => simpa [Value.cells] using h1
      | agg cs => exfalso; simp only [Value.okWide, Tryd.underlying29] at hv; (try (obtain ⟨_, _, _, h, _⟩ := hv; cases h)); (try (cases hv))
      | _ => simp [Value.cells] at h1
    subst this
    exact ⟨[], .inl ⟨rfl, rfl⟩, (fun x hx => by cases hx), by simp⟩
  · have hvs : v = .slice (some a) len cap := by
      cases v with
      | slice a' l c => simpa [Value.cells] using h1
      | agg cs => exfalso; simp only [Value.okWide, Tryd.underlying29] at hv; (try (obtain ⟨_, _, _, h, _⟩ := hv; cases h)); (try (cases hv))
      | _ => simp [Value.cells] at h1
    subst hvs
    have hsp : a.spot = none := by
      unfold Value.okWide at hv
      rw [Tryd.underlying29] at hv
      unfold Cell.okWide at hv
      rw [Tryd.underlying29] at hv
      unfold Cell.ok at hv
      rw [Tryd.underlying29] at hv
      exact hv.2.2.2.1
    obtain ⟨g, o, sp⟩ := a
    dsimp only at hsp
    subst hsp
    have each : ∀ i, i < len → ∃ b : Bx, b.ok ∧ w.rangeAt g (o + 10 * i) (bcs b) := fun i hi => by
      have h2 := hel i hi
      rw [List.getElem?_eq_getElem (by omega), Option.bind_eq_some_iff] at h2
      obtain ⟨cs, hcs, hy⟩ := h2
      obtain ⟨b, rfl, hb⟩ := open_boxCells hy
      rw [addr_add, c10] at hcs
      refine ⟨b, hb, ?_⟩
      rw [Nat.mul_comm]
      exact range_of_cells hcs
    obtain ⟨f, hf⟩ : ∃ f : Nat → Bx, ∀ i, i < len → (f i).ok ∧ w.rangeAt g (o + 10 * i) (bcs (f i)) :=
      ⟨fun i => if h : i < len then Classical.choose (each i h) else zeroBx, fun i hi => by
        simp only [hi, dif_pos]
        exact Classical.choose_spec (each i hi)⟩
    have hl : ((List.range len).map f).length = len := by simp
    refine ⟨(List.range len).map f, .inr ⟨g, o, cap, by rw [hl], by rw [hl]; exact hlc, range_cellsB _ _ fun i b hb => ?_⟩, fun b hb => ?_, by rw [hl]; unfold maxLen at hcm; omega⟩
    · have hi := (List.getElem?_eq_some_iff.1 hb).1
      rw [hl] at hi
      rw [List.getElem?_map, List.getElem?_range hi] at hb
      obtain rfl : f i = b := by simpa using hb
      exact (hf i hi).2
    · obtain ⟨i, hi, rfl⟩ := List.mem_map.1 hb
      exact (hf i (by simpa using hi)).1
end
end Go.Proofs.YtdfihajngmgigaaDoor
