/- The least member: range by range. No program in sight. -/
import Derived.Test.YtdfihajngmgigaaDoorMN
import Derived.Test.YtdfihajngmgigaaDoorMO
import Derived.Test.YtdfihajngmgigaaDoorME
import Derived.Test.YtdfihajngmgigaaDoorMP
import Derived.Test.YtdfihajngmgigaaDoorMB
namespace Go.Proofs.YtdfihajngmgigaaDoor
open Go.RowKit
end Go.Proofs.YtdfihajngmgigaaDoor

/- Package packetset: least. -/
namespace Go.Proofs.YtdfihajngmgigaaDoor
open Go.RowKit
set_option maxRecDepth 100000
/-- a list of boxes that lies apart from a block -/
def BoxesQ (q : Nat) (w : World) (v : Value) (l : List Bx) : Prop := FormB v l ∧ ∀ s ∈ roS v (cellsB l), w.rangeAt s.g s.o s.xs ∧ (s.xs ≠ [] → s.g ≠ q)
theorem BoxesQ.is {q : Nat} {w : World} {v : Value} {l : List Bx} (h : BoxesQ q w v l) : IsBoxes w v l := by
  rcases h.1 with h1 | ⟨g, o, c, rfl, hc⟩
  · exact .inl h1
  · exact .inr ⟨g, o, c, rfl, hc, (h.2 ⟨g, o, cellsB l⟩ (by simp [roS])).1⟩
end Go.Proofs.YtdfihajngmgigaaDoor

/- Package packetset: first, Subset; nsggen.HugeBoxes. -/
namespace Go.Proofs.YtdfihajngmgigaaDoor
open Go.RowKit
set_option maxRecDepth 100000
theorem huge_any {vl : Value} {l : List Bx} (w : World) (hv : IsBoxes w vl l) : Calls Tryd.prog 29 #[vl] w fun e w' => e = .returned (.bool (decide (6 < l.length))) ∧ w = w' := by
  obtain ⟨a, c, rfl, -⟩ := hv.view
  clear hv
  have hb : decide ((6 : Int) < (l.length : Int)) = decide (6 < l.length) := decide_eq_decide.2 (by omega)
  have HB := Lib.hid hb
  clear hb
  go_enter Tryd.func29, Tryd.ntmps29
  go_wp2_with (first | ((with_reducible refine is_load ?_); refine own_ld (h := ?_)) | ((with_reducible refine is_store ?_); (first | refine own_stR (hO := hO) (h := ?_) | refine own_st1 (hO := hO) (h := ?_)); clear hO; intro wv hO))
  go_ret
  exact ⟨ret_bool HB.out, rfl⟩
end Go.Proofs.YtdfihajngmgigaaDoor
