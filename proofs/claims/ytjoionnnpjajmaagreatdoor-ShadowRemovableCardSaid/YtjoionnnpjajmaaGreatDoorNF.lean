/- Opening lists of boxes. -/
import Derived.Test.YtjoionnnpjajmaaGreatDoorMB
namespace Go.Proofs.YtjoionnnpjajmaaGreatDoor
open Go.ChangeShapes Go.WideShapes Go.ChangeAt Go.RowKit
set_option maxRecDepth 100000
theorem addr_add (g o i : Nat) : (⟨g, o, none⟩ : Addr).add i = ⟨g, o + i, none⟩ := by
 unfold Addr.add
 by_cases h0 : i = 0
 ·rw [if_pos h0, h0]; rfl
 ·rw [if_neg h0]
theorem mapM_get {α β : Type} (f : α → Option β) : ∀ (l : List α) (r : List β), l.mapM f = some r → ∀ (j : Nat) (u : β), ∀ (_ : r[j]? = some u), ∃ x, l[j]? = some x ∧ f x = some u
 | [], r, h, j, u, hj => by
  simp at h
  subst h
  simp at hj
 | x :: l, r, h, j, u, hj => by
  rw [List.mapM_cons] at h
  simp only [Option.bind_eq_bind, Option.bind_eq_some_iff, Option.pure_def, Option.some.injEq] at h
  obtain ⟨y, hy, ys, hys, rfl⟩ := h
  cases j with
  | zero =>
   simp at hj
   subst hj
   exact ⟨x, rfl, hy⟩
  | succ j => exact mapM_get f l ys hys j u (by simpa using hj)
theorem range_of_cells {w : World} {base g o n : Nat} {cs : List Value} (h : w.cells? base ⟨g, o, none⟩ n = some cs) : w.rangeAt g o cs := by
 unfold World.cells? at h
 split at h
 ·intro j u hj
  obtain ⟨x, hx, hf⟩ := mapM_get _ _ _ h j u hj
  rw [List.getElem?_range (by
   have := (List.getElem?_eq_some_iff.1 hx).1
   simpa using this)] at hx
  obtain rfl := Option.some.inj hx
  rw [addr_add] at hf
  exact hf
 ·cases h
section
variable {H : Type} {enc : TypeId × Value → H} {w : World} {base : Nat} {spare : Nat → Bool} {held : Bool}
end
end Go.Proofs.YtjoionnnpjajmaaGreatDoor
