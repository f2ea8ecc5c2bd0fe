/- Package filter: Prune, Differ. -/
import Derived.Test.YtjoionnnpjajmaaGreatDoorOC
import Derived.Test.YtjoionnnpjajmaaGreatDoorNG
namespace Go.Proofs.YtjoionnnpjajmaaGreatDoor
open Go.RowKit
set_option maxRecDepth 100000
def TabPost (w : World) (r : Option (List Rul)) (e : Ending) (w' : World) : Prop := ∃ v, Below w.heap.size w w' ∧ ((∃ l, r = some l ∧ e = .returned (.tuple #[v, .int .i64 0]) ∧ IsTable w' v l ∧ NewFrom w v) ∨ (r = none ∧ e = .returned (.tuple #[.slice none 0 0, .int .i64 3])))
theorem TabPost.yes {w w' : World} {l : List Rul} {e : Ending} (h : TabPost w (some l) e w') : ∃ v, e = .returned (.tuple #[v, .int .i64 0]) ∧ IsTable w' v l ∧ NewFrom w v ∧ Below w.heap.size w w' := by
 obtain ⟨v, hb, ⟨l', h1, h2, h3, h4⟩ | ⟨h1, _⟩⟩ := h
 ·cases h1; exact ⟨v, h2, h3, h4, hb⟩
 ·cases h1
theorem TabPost.no {w w' : World} {e : Ending} (h : TabPost w none e w') : e = .returned (.tuple #[.slice none 0 0, .int .i64 3]) ∧ Below w.heap.size w w' := by
 obtain ⟨v, hb, ⟨l', h1, h2, h3, h4⟩ | ⟨_, h1⟩⟩ := h
 ·cases h1
 ·exact ⟨h1, hb⟩
def ecdT (r : Option (List Rul)) : Int := match r with
 | none => 3
 | some _ => 0
theorem TabPost.uni {w w' : World} {r : Option (List Rul)} {e : Ending} (h : TabPost w r e w') : ∃ v, e = .returned (.tuple #[v, .int .i64 (ecdT r)]) ∧ IsTable w' v (r.getD []) ∧ NewFrom w v ∧ Below w.heap.size w w' := by
 obtain ⟨v, hb, ⟨l, rfl, h2, h3, h4⟩ | ⟨rfl, h2⟩⟩ := h
 ·exact ⟨v, h2, h3, h4, hb⟩
 ·exact ⟨_, h2, .inl ⟨rfl, rfl⟩, fun g hg => (by cases hg), hb⟩
end Go.Proofs.YtjoionnnpjajmaaGreatDoor
