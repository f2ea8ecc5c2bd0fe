/- The least member: range by range. No program in sight. -/
import Derived.Test.YtjoionnnpjajmaaGreatDoorMN
import Derived.Test.YtjoionnnpjajmaaGreatDoorMO
import Derived.Test.YtjoionnnpjajmaaGreatDoorME
import Derived.Test.YtjoionnnpjajmaaGreatDoorMP
import Derived.Test.YtjoionnnpjajmaaGreatDoorMB
namespace Go.Proofs.YtjoionnnpjajmaaGreatDoor
open Go.RowKit
set_option maxRecDepth 100000
def BoxesQ (q : Nat) (w : World) (v : Value) (l : List Bx) : Prop := FormB v l ∧ ∀ s ∈ roS v (cellsB l), w.rangeAt s.g s.o s.xs ∧ (s.xs ≠ [] → s.g ≠ q)
theorem BoxesQ.is {q : Nat} {w : World} {v : Value} {l : List Bx} (h : BoxesQ q w v l) : IsBoxes w v l := by
 rcases h.1 with h1 | ⟨g, o, c, rfl, hc⟩
 ·exact .inl h1
 ·exact .inr ⟨g, o, c, rfl, hc, (h.2 ⟨g, o, cellsB l⟩ (by simp [roS])).1⟩
end Go.Proofs.YtjoionnnpjajmaaGreatDoor
