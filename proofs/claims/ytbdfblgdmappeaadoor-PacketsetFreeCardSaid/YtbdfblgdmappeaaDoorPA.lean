/- Tables without a rule, the states of rules, findings, clean tables. No program in sight. -/
import Derived.Test.YtbdfblgdmappeaaDoorOB
namespace Go.Proofs.YtbdfblgdmappeaaDoor
open Go.RowKit
abbrev Fnd := Int × Int × List Int
set_option maxRecDepth 100000
def FormC (v : Value) (n : Nat) : Prop := (v = .slice none 0 0 ∧ n = 0) ∨ ∃ g o c, v = .slice (some ⟨g, o, none⟩) n c ∧ n ≤ c
theorem isCells_form {w : World} {v : Value} {n : Nat} {xs : List Value} (h : IsCells w v n xs) : FormC v n := by
 rcases h with ⟨h1, h2, _⟩ | ⟨g, o, c, h1, h2, _⟩
 ·exact .inl ⟨h1, h2⟩
 ·exact .inr ⟨g, o, c, h1, h2⟩
theorem FormC.view {v : Value} {n : Nat} (h : FormC v n) : ∃ a c, v = .slice a n c ∧ (0 < n → ∃ g o, a = some ⟨g, o, none⟩) := by
 rcases h with ⟨rfl, rfl⟩ | ⟨g, o, c, rfl, _⟩
 ·exact ⟨none, 0, rfl, fun h => absurd h (by omega)⟩
 ·exact ⟨_, c, rfl, fun _ => ⟨g, o, rfl⟩⟩
section
variable {M : List Nat} {w0 w w' : World} {X : List Chunk} {R : List Row} {S : List Ro}
theorem Own.isC (hO : Own M w0 X R S w) {v : Value} {n : Nat} {xs : List Value} (hf : FormC v n) (h0 : n = 0 → xs = []) (hS : ∀ s ∈ roS v xs, s ∈ S) : IsCells w v n xs := by
 rcases hf with ⟨h1, h2⟩ | ⟨g, o, c, rfl, hc⟩
 ·exact .inl ⟨h1, h2, h0 h2⟩
 ·exact .inr ⟨g, o, c, rfl, hc, hO.ro ⟨g, o, xs⟩ (hS _ List.mem_cons_self)⟩
theorem Own.addC2 {B : Nat} (h1 : Own M w0 X R S w') (hlt : ∀ g ∈ excl X R, g < B) {v : Value} {n : Nat} {xs : List Value} (hv : IsCells w' v n xs) (hn : ∀ g, v.ownBlock = some g → B ≤ g) : Own M w0 X R (roS v xs ++ S) w' := by
 rcases hv with ⟨rfl, rfl, rfl⟩ | ⟨g, o, c, rfl, _, hr⟩
 ·exact h1
 ·refine h1.addRo ⟨g, o, xs⟩ hr fun _ hm => ?_
  have h2 := hlt g hm
  have h3 := hn g rfl
  omega
theorem Own.gainC (hO : Own M w0 X R S w) (hb : Below w.heap.size w w') {v : Value} {n : Nat} {xs : List Value} (hv : IsCells w' v n xs) (hn : NewFrom w v) : Own M w0 X R (roS v xs ++ S) w' := (hO.call hb).addC2 hO.lt hv hn
end
def IsNums (w : World) (v : Value) (l : List Int) : Prop := IsCells w v l.length (ints l)
theorem ints_nil {l : List Int} (h : l.length = 0) : ints l = [] := by rw [List.length_eq_zero_iff.1 h]; rfl
theorem Own.isNums {M : List Nat} {w0 w : World} {X : List Chunk} {R : List Row} {S : List Ro} (hO : Own M w0 X R S w) {v : Value} {l : List Int} (hf : FormC v l.length) (hS : ∀ s ∈ roS v (ints l), s ∈ S) : IsNums w v l := hO.isC hf (fun h => ints_nil h) hS
section
variable {M : List Nat} {w0 w : World} {X : List Chunk} {R : List Row} {S : List Ro}
theorem Own.isBm (hO : Own M w0 X R S w) {v : Value} {l : List Bx} (hf : FormB v l) (hS : ∀ s ∈ roS v (cellsB l), s ∈ S := by intro q hq; repeat (first | exact hq | exact List.mem_append_left _ hq | apply List.mem_append_right | apply List.mem_cons_of_mem)) : IsBoxes w v l := hO.isB hf hS
theorem Own.isRm (hO : Own M w0 X R S w) {v : Value} {l : List Rul} (hf : FormR v l) (hS : ∀ s ∈ roS v (cellsR l), s ∈ S := by intro q hq; repeat (first | exact hq | exact List.mem_append_left _ hq | apply List.mem_append_right | apply List.mem_cons_of_mem)) : IsTable w v l := hO.isR hf hS
theorem Own.isNumsm (hO : Own M w0 X R S w) {v : Value} {l : List Int} (hf : FormC v l.length) (hS : ∀ s ∈ roS v (ints l), s ∈ S := by intro q hq; repeat (first | exact hq | exact List.mem_append_left _ hq | apply List.mem_append_right | apply List.mem_cons_of_mem)) : IsNums w v l := hO.isNums hf hS
end
def cellsN : List (Fnd × Value) → List Value
 | [] => []
 | p :: l => .int .i64 p.1.1 :: .int .i64 p.1.2.1 :: p.2 :: cellsN l
def IsFinds (w w' : World) (v : Value) (ps : List (Fnd × Value)) : Prop := IsCells w' v ps.length (cellsN ps) ∧ NewFrom w v ∧ ∀ p ∈ ps, IsNums w' p.2 p.1.2.2 ∧ NewFrom w p.2
def FormN (v : Value) (ps : List (Fnd × Value)) : Prop := FormC v ps.length ∧ ∀ p ∈ ps, FormC p.2 p.1.2.2.length
theorem IsFinds.form {w w' : World} {v : Value} {ps : List (Fnd × Value)} (h : IsFinds w w' v ps) : FormN v ps := ⟨isCells_form h.1, fun p hp => isCells_form (h.2.2 p hp).1⟩
section
variable {M : List Nat} {w0 w w' : World} {X : List Chunk} {R : List Row} {S : List Ro}
end
end Go.Proofs.YtbdfblgdmappeaaDoor
