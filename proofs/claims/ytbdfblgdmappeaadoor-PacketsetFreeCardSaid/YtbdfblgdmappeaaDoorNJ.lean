/- The reference of packet sets: Make, Valid, given, combine, Complement, for lists with few ends. -/
import Derived.Test.YtbdfblgdmappeaaDoorNI
import Derived.Test.YtbdfblgdmappeaaDoorNC
import Derived.Test.YtbdfblgdmappeaaDoorMS
import Derived.Test.YtbdfblgdmappeaaDoorMV
import Derived.Test.YtbdfblgdmappeaaDoorMB
namespace Go.Proofs.YtbdfblgdmappeaaDoor
open Go.RowKit
set_option maxRecDepth 100000
def EndsAt (N : Nat) (e : Nat → List Int) (l : List Bx) : Prop := ∀ k, k < 5 → (e k).length ≤ N ∧ EndsIn k (0 :: (topOf k + 1) :: e k) l
theorem Ends.at {N : Nat} {l : List Bx} (h : Ends N l) : ∃ e, EndsAt N e l := by
 have h2 : ∀ k, ∃ e : List Int, k < 5 → e.length ≤ N ∧ EndsIn k (0 :: (topOf k + 1) :: e) l := fun k => by
  by_cases hk : k < 5
  ·obtain ⟨e, he⟩ := h k hk; exact ⟨e, fun _ => he⟩
  ·exact ⟨[], fun h => absurd h hk⟩
 exact ⟨fun k => Classical.choose (h2 k), fun k hk => Classical.choose_spec (h2 k) hk⟩
theorem EndsAt.ends {N : Nat} {e : Nat → List Int} {l : List Bx} (h : EndsAt N e l) : Ends N l := fun k hk => ⟨e k, (h k hk).1, (h k hk).2⟩
theorem EndsAt.nil {N : Nat} {e : Nat → List Int} {l : List Bx} (h : EndsAt N e l) : EndsAt N e [] := fun k hk => ⟨(h k hk).1, fun b hb => by cases hb⟩
theorem EndsAt.one {N : Nat} {e : Nat → List Int} {l : List Bx} (h : EndsAt N e l) {b : Bx} (hb : b ∈ l) : EndsAt N e [b] := fun k hk => ⟨(h k hk).1, fun c hc => by rw [List.mem_singleton.1 hc]; exact (h k hk).2 b hb⟩
theorem EndsAt.canon {op : Bool → Bool → Bool} {N : Nat} {e : Nat → List Int} {a b : List Bx} (ha : EndsAt N e a) (hb : EndsAt N e b) : EndsAt N e (canonF op 0 5 a b) := fun k hk => ⟨(ha k hk).1, canonF_ends op hk (by simp) (by simp) 5 0 rfl (Nat.zero_le _) (ha k hk).2 (hb k hk).2⟩
theorem EndsAt.make {N : Nat} {e : Nat → List Int} : ∀ {l s r : List Bx}, EndsAt N e s → EndsAt N e l → makeGo s l = some r → EndsAt N e r
 | [], s, r, hs, _, h => by cases h; exact hs
 | b :: l, s, r, hs, hl, h => by
  rw [makeGo] at h
  cases hc : limF (canonF orB 0 5 s [b]) with
  | none => rw [hc] at h; cases h
  | some t =>
   rw [hc] at h
   obtain ⟨_, rfl⟩ := limF_some.1 hc
   exact EndsAt.make (hs.canon (hl.one (by simp))) (fun k hk => ⟨(hl k hk).1, fun c hc => (hl k hk).2 c (by simp [hc])⟩) h
def SetPostV (w : World) (vl : Value) (l : List Bx) (r : Option (List Bx)) (e : Ending) (w' : World) : Prop := ∃ v, Below w.heap.size w w' ∧ ((∃ x, r = some x ∧ e = .returned (.tuple #[v, .int .i64 0]) ∧ IsBoxes w' v x ∧ (NewFrom w v ∨ v = vl ∧ x = l)) ∨ (r = none ∧ e = .returned (.tuple #[.slice none 0 0, .int .i64 3])))
theorem SetPostV.yes {w w' : World} {vl : Value} {l x : List Bx} {e : Ending} (h : SetPostV w vl l (some x) e w') : ∃ v, e = .returned (.tuple #[v, .int .i64 0]) ∧ IsBoxes w' v x ∧ (NewFrom w v ∨ v = vl ∧ x = l) ∧ Below w.heap.size w w' := by
 obtain ⟨v, hb, ⟨x', h1, h2, h3, h4⟩ | ⟨h1, _⟩⟩ := h
 ·cases h1; exact ⟨v, h2, h3, h4, hb⟩
 ·cases h1
theorem SetPostV.no {w w' : World} {vl : Value} {l : List Bx} {e : Ending} (h : SetPostV w vl l none e w') : e = .returned (.tuple #[.slice none 0 0, .int .i64 3]) ∧ Below w.heap.size w w' := by
 obtain ⟨v, hb, ⟨l', h1, _⟩ | ⟨_, h1⟩⟩ := h
 ·cases h1
 ·exact ⟨h1, hb⟩
def wideB (k : Nat) (b : Bx) : Bx := b.set k (fullBx.at k)
def freeF (l : List Bx) (f : Int) : Option (List Bx) := match setF l with
 | none => none
 | some x => if 0 ≤ f ∧ f < 5 then limF (canonF orB 0 5 (x.map (wideB f.toNat)) []) else some x
theorem full_at {k : Nat} (hk : k < 5) : fullBx.at k = ⟨0, topOf k⟩ := Bx.at_of _ hk
theorem wide_vL {k : Nat} (hk : k < 5) {x : List Bx} (h : vL x) : vL (x.map (wideB k)) := fun b hb j hj => by
 obtain ⟨c, hc, rfl⟩ := List.mem_map.1 hb
 unfold wideB
 rw [Bx.at_set _ _ _ hj]
 split
 ·subst j; rw [full_at hk]; have := topPos k; dsimp only; omega
 ·exact h c hc j hj
theorem idx_box (b : Bx) {k : Nat} (h : k < 5) (w : World) : Sem.run Tryd.prog (Instr.index 45 (.agg (bcs b).toArray) (.int .i64 k)) w = .ok (.agg #[.int .u32 (b.at k).lo, .int .u32 (b.at k).hi]) w := by
 rcases five h with rfl | rfl | rfl | rfl | rfl <;> rfl
end Go.Proofs.YtbdfblgdmappeaaDoor
