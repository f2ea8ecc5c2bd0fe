/- Package filter: Prune, Differ. -/
import Derived.Test.YtbdfblgdmappeaaGreatDoorOC
import Derived.Test.YtbdfblgdmappeaaGreatDoorNC
namespace Go.Proofs.YtbdfblgdmappeaaGreatDoor
open Go.RowKit
set_option maxRecDepth 100000
def TabPost (w : World) (r : Option (List Rul)) (e : Ending) (w' : World) : Prop := ∃ v, Below w.heap.size w w' ∧ ((∃ l, r = some l ∧ e = .returned (.tuple #[v, .int .i64 0]) ∧ IsTable w' v l ∧ NewFrom w v) ∨ (r = none ∧ e = .returned (.tuple #[.slice none 0 0, .int .i64 3])))
theorem TabPost.yes {w w' : World} {l : List Rul} {e : Ending} (h : TabPost w (some l) e w') : ∃ v, e = .returned (.tuple #[v, .int .i64 0]) ∧ IsTable w' v l ∧ NewFrom w v ∧ Below w.heap.size w w' := by
 obtain ⟨v, hb, ⟨l', h1, h2, h3, h4⟩ | ⟨h1, _⟩⟩ := h
 ·cases h1; exact ⟨v, h2, h3, h4, hb⟩
 ·cases h1
theorem TabPost.no {w w' : World} {e : Ending} (h : TabPost w none e w') : e = .returned (.tuple #[.slice none 0 0, .int .i64 3]) ∧ Below w.heap.size w w' := by
 obtain ⟨v, hb, ⟨l', h1, h2, h3, h4⟩ | ⟨_, h1⟩⟩ := h
 ·cases h1
 ·exact ⟨h1, hb⟩
def ecdT (r : Option (List Rul)) : Int := match r with
 | none => 3
 | some _ => 0
theorem TabPost.uni {w w' : World} {r : Option (List Rul)} {e : Ending} (h : TabPost w r e w') : ∃ v, e = .returned (.tuple #[v, .int .i64 (ecdT r)]) ∧ IsTable w' v (r.getD []) ∧ NewFrom w v ∧ Below w.heap.size w w' := by
 obtain ⟨v, hb, ⟨l, rfl, h2, h3, h4⟩ | ⟨rfl, h2⟩⟩ := h
 ·exact ⟨v, h2, h3, h4, hb⟩
 ·exact ⟨_, h2, .inl ⟨rfl, rfl⟩, fun g hg => (by cases hg), hb⟩
theorem results_cell_tmp2 {fn : Func} {p u x : Tmp} {ty : TypeId} (h : fn.results = #[.cell p ty, .tmp u, .tmp x]) (tmps : Array Value) (P : Program) (w : World) :
  (results fn tmps).run P w = ((asAddr (tmps.getD p undef)).run P w).andThen fun a w1 => ((loadVar ty a).run P w1).andThen fun v w2 => .ok (.tuple #[v, tmps.getD u undef, tmps.getD x undef]) w2 := by
 simp only [results, h]
 simp [Sem.run_bind, Result.andThen]
theorem own_res_cell_tmp2 {P : Program} {M : List Nat} {w0 w : World} {X : List Chunk} {R : List Row} {S : List Ro} {fn : Func} {p u x n : Nat} {ty : TypeId} (hO : Own M w0 X R S w) (h : fn.results = #[.cell p ty, .tmp u, .tmp x]) {tmps : Array Value} (hp : tmps.getD p undef = .pointer (some ⟨n, 0, none⟩)) {cs : List Value} {t' : TypeId}
  (hm : (⟨n, cs, t'⟩ : Chunk) ∈ X) {s : Nat} (ht : RowT P ty s) (hs : cs.length = s) {v v2 : Value} (hv : tmps.getD u undef = v) (hv2 : tmps.getD x undef = v2) : (results fn tmps).run P w = .ok (.tuple #[.agg cs.toArray, v, v2]) w := by
 obtain ⟨d, hu, hd, hi⟩ := ht
 rw [results_cell_tmp2 h, hp]
 simp only [asAddr, Sem.run_pure, Result.andThen_ok]
 rw [run_loadVar_row w n t' ty cs.toArray (0, 0) d (hO.chunk _ hm) hu (by cases d <;> simp_all) (by simpa [hs] using hi), hv, hv2]
 rfl
end Go.Proofs.YtbdfblgdmappeaaGreatDoor
