/- The reference of findings: Clean, Ints, Same. -/
import Derived.Test.YtjoionnnpjajmaaDoorPE
namespace Go.Proofs.YtjoionnnpjajmaaDoor
open Go.RowKit
set_option maxRecDepth 100000
def clR (t : List Rul) : List Rul × List Int × Int := if validT t = true then match clF t (upTo t.length) [] 0 with
  | none => ([], [], 3)
  | some x => (x.1, x.2, 0)
 else ([], [], 1)
def ClPost (w : World) (r : List Rul × List Int × Int) (e : Ending) (w' : World) : Prop := ∃ v vr, e = .returned (.tuple #[v, vr, .int .i64 r.2.2]) ∧ IsTable w' v r.1 ∧ NewFrom w v ∧ IsNums w' vr r.2.1 ∧ NewFrom w vr ∧ Below w.heap.size w w'
def lenV : Value → Nat | .slice _ n _ => n | _ => 0
theorem lenV_form {v : Value} {u : List Rul} (h : FormR v u) : lenV v = u.length := by rcases h with ⟨rfl, rfl⟩ | ⟨g, o, c, rfl, _⟩ <;> rfl
theorem table_nil (w : World) : IsTable w (.slice none 0 0) [] := .inl ⟨rfl, rfl⟩
theorem clR_none {t : List Rul} (hV : validT t = true) (h : clF t (upTo t.length) [] 0 = none) : clR t = ([], [], 3) := by unfold clR; rw [if_pos hV, h]
theorem clR_some {t u : List Rul} {r : List Int} (hV : validT t = true) (h : clF t (upTo t.length) [] 0 = some (u, r)) : clR t = (u, r, 0) := by unfold clR; rw [if_pos hV, h]
theorem getD_at {l : List Int} {i : Nat} (h : i < l.length) : l.getD i 0 = l[i] := by simp [List.getD, h]
end Go.Proofs.YtjoionnnpjajmaaDoor
