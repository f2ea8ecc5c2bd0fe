/- Loads from what came in, at an address of several parts. For any program but for the cells of boxes. -/
import Derived.Test.YtnhjcbmlplfpmaaDoorLawA
namespace Go.Proofs.YtnhjcbmlplfpmaaDoor
open Go.RowKit
section
variable {P : Program} {ops : Array Oper} {rest : List Oper} {o : Oper} {a : Act} {w w0 : World} {Q : Exit → Act → World → Prop} {M : List Nat} {X : List Chunk} {R : List Row} {S : List Ro}
end
theorem cb_at (l : List Bx) {k j : Nat} (hk : k < l.length) (hj : j < 10) : (cellsB l)[k * 10 + j]? = (bcs l[k])[j]? := by
  have h := tk_box l hk
  rw [bcs_length] at h
  have h2 : ((List.take 10 (List.drop (k * 10) (cellsB l))))[j]? = (bcs l[k])[j]? := by rw [h]
  rw [List.getElem?_take, if_pos hj, List.getElem?_drop] at h2
  exact h2
theorem cb_lo (l : List Bx) {k f : Nat} (hk : k < l.length) (hf : f < 5) : (cellsB l)[k * 10 + f * 2]? = some (.int .u32 (l[k].at f).lo) := by
  rw [cb_at l hk (by omega)]; exact bcs_lo _ hf
theorem cb_hi (l : List Bx) {k f : Nat} (hk : k < l.length) (hf : f < 5) : (cellsB l)[k * 10 + f * 2 + 1]? = some (.int .u32 (l[k].at f).hi) := by
  rw [Nat.add_assoc, cb_at l hk (by omega)]; exact bcs_hi _ hf
theorem roS_arg2 {w : World} {v u : Value} {l m : List Bx} (h : IsBoxes w v l) (k : IsBoxes w u m) : Own [] w [] [] (roS v (cellsB l) ++ roS u (cellsB m)) w := by
  rcases h with ⟨rfl, rfl⟩ | ⟨g, o, c, rfl, _, hr⟩
  · exact own_arg k
  · exact (own_arg k).addRo ⟨g, o, cellsB l⟩ hr (by simp [excl])
end Go.Proofs.YtnhjcbmlplfpmaaDoor
