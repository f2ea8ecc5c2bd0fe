/- The reference of findings: Clean, Ints, Same. -/
import Derived.Test.YtbdfblgdmappeaaGreatDoorPD
namespace Go.Proofs.YtbdfblgdmappeaaGreatDoor
open Go.RowKit
set_option maxRecDepth 100000
def lenV : Value → Nat | .slice _ n _ => n | _ => 0
theorem lenV_form {v : Value} {u : List Rul} (h : FormR v u) : lenV v = u.length := by rcases h with ⟨rfl, rfl⟩ | ⟨g, o, c, rfl, _⟩ <;> rfl
theorem validT_wo {t : List Rul} (h : validT t = true) (i : Nat) : validT (woF t i) = true := by
 unfold validT at h ⊢
 rw [Bool.and_eq_true, List.all_eq_true, decide_eq_true_iff] at h ⊢
 refine ⟨fun r hr => h.1 r (woF_mem hr), ?_⟩
 have : (woF t i).length ≤ t.length := by simp only [woF, List.length_append, List.length_take, List.length_drop]; omega
 omega
end Go.Proofs.YtbdfblgdmappeaaGreatDoor
