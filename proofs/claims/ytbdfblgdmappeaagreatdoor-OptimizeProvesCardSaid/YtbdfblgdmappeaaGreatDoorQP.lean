/- OptimizeApplies: the walk. -/
import Derived.Deep.CutRange
import Derived.Deep.DeepCutAuto
import Derived.Test.YtbdfblgdmappeaaGreatDoorQM
import Derived.Test.YtbdfblgdmappeaaGreatDoorQJ
import Derived.Test.YtbdfblgdmappeaaGreatDoorQB
import Derived.Test.YtbdfblgdmappeaaGreatDoorMB
namespace Go.Proofs.YtbdfblgdmappeaaGreatDoor
open Go.RowKit
set_option maxRecDepth 100000
theorem same8_self (v u : Value) (l : List Rul) (w : World) (hv : IsTable w v l) (hu : IsTable w u l) (hm : l.length ≤ 20) :
  Calls Tryz.prog 16 #[v, u] w fun e w' => e = .returned (.bool true) ∧ Below w.heap.size w w' := by
 have h := rSame8_any v u l l w hv hu (by omega) (by omega)
 rw [decide_eq_true rfl] at h
 exact h
section
variable (w : World)
theorem stoodS : (Tryz.prog).stoodInHeld 26 = false := by kernel_rfl
theorem fieldsS : (Tryz.prog).underlying 26 = some (.struct ((Tryz.prog).fieldsOf 26)) := by kernel_rfl
theorem eq_stp (d : Nat) (g h : Stp) : (Op.equalIn (d + 1 + 1) 26 (.agg #[.int .i64 g.1, .int .i64 g.2.1, .int .i64 g.2.2]) (.agg #[.int .i64 h.1, .int .i64 h.2.1, .int .i64 h.2.2])).run Tryz.prog w = .ok (decide (g = h)) w := by
 rw [run_equalIn_struct w (d + 1) _ _ _ fieldsS stoodS]
 obtain ⟨g0, g1, g2⟩ := g
 obtain ⟨h0, h1, h2⟩ := h
 by_cases e0 : g0 = h0 <;> by_cases e1 : g1 = h1 <;> by_cases e2 : g2 = h2 <;> simp [go_sem, Tryz.underlying26, Tryz.underlying3, e0, e1, e2]
theorem run_neq_stp (g : Stp) : (binOp .neq 26 (.agg #[.int .i64 g.1, .int .i64 g.2.1, .int .i64 g.2.2]) (.agg #[.int .i64 g.1, .int .i64 g.2.1, .int .i64 g.2.2])).run Tryz.prog w = .ok (.bool false) w := by
 rw [run_neq_struct]
 rw [show (10000 : Nat) = 9998 + 1 + 1 from rfl, eq_stp, Result.andThen_ok]
 simp
theorem guard_stp (op : BinOp) (x y : Operand) (u v : Array Value) : (eqGuard op 26 x y (.agg u) (.agg v)).run Tryz.prog w = .ok () w := run_eqGuard_agg w op _ x y u v (by kernel_rfl)
end
attribute [go_sem high] run_neq_stp guard_stp
theorem Own.isStm {M : List Nat} {w0 w : World} {X : List Chunk} {R : List Row} {S : List Ro} (hO : Own M w0 X R S w) {v : Value} {l : List Stp} (hf : FormC v l.length) (hS : ∀ s ∈ roS v (cellsQ l), s ∈ S := by intro q hq; repeat (first | exact hq | exact List.mem_append_left _ hq | apply List.mem_append_right | apply List.mem_cons_of_mem)) : IsSteps w v l := hO.isC hf (fun h => cellsQ_nil h) hS
end Go.Proofs.YtbdfblgdmappeaaGreatDoor
