/- The least member: range by range. No program in sight. -/
import Derived.Test.YtmcbbepfakfehaaDoorMN
import Derived.Test.YtmcbbepfakfehaaDoorMO
import Derived.Test.YtmcbbepfakfehaaDoorME
import Derived.Test.YtmcbbepfakfehaaDoorMP
import Derived.Test.YtmcbbepfakfehaaDoorMB
namespace Go.Proofs.YtmcbbepfakfehaaDoor
open Go.RowKit
end Go.Proofs.YtmcbbepfakfehaaDoor

/- Package packetset: least. -/
namespace Go.Proofs.YtmcbbepfakfehaaDoor
open Go.RowKit
set_option maxRecDepth 100000
/-- a list of boxes that lies apart from a block -/
def BoxesQ (q : Nat) (w : World) (v : Value) (l : List Bx) : Prop := FormB v l ∧ ∀ s ∈ roS v (cellsB l), w.rangeAt s.g s.o s.xs ∧ (s.xs ≠ [] → s.g ≠ q)
theorem BoxesQ.is {q : Nat} {w : World} {v : Value} {l : List Bx} (h : BoxesQ q w v l) : IsBoxes w v l := by
 rcases h.1 with h1 | ⟨g, o, c, rfl, hc⟩
 ·exact .inl h1
 ·exact .inr ⟨g, o, c, rfl, hc, (h.2 ⟨g, o, cellsB l⟩ (by simp [roS])).1⟩
end Go.Proofs.YtmcbbepfakfehaaDoor

/- Package packetset: first, Subset; nsggen.HugeBoxes. -/
namespace Go.Proofs.YtmcbbepfakfehaaDoor
open Go.RowKit
set_option maxRecDepth 100000
end Go.Proofs.YtmcbbepfakfehaaDoor
