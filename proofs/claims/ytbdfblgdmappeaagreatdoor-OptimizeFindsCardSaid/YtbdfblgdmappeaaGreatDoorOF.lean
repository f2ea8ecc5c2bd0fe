/- The tape: Table. -/
import Derived.ChangeArms
import Derived.Test.YtbdfblgdmappeaaGreatDoorOC
import Derived.Test.YtbdfblgdmappeaaGreatDoorMB
import Derived.Test.YtbdfblgdmappeaaGreatDoorMV
import Derived.Test.YtbdfblgdmappeaaGreatDoorOB
import Derived.Test.YtbdfblgdmappeaaGreatDoorOE
import Derived.Test.YtbdfblgdmappeaaGreatDoorOD
namespace Go.Proofs.YtbdfblgdmappeaaGreatDoor
open Go.RowKit
set_option maxRecDepth 100000
end Go.Proofs.YtbdfblgdmappeaaGreatDoor
namespace Go.Proofs.YtbdfblgdmappeaaGreatDoor
open Go.ChangeShapes Go.WideShapes Go.ChangeAt Go.RowKit
set_option maxRecDepth 100000
theorem range_cellsR {w : World} {g : Nat} : ∀ (l : List Rul) (o : Nat), (∀ i b, l[i]? = some b → w.rangeAt g (o + 11 * i) (rlcs b)) → w.rangeAt g o (cellsR l)
 | [], o, _ => fun j u hj => by simp [cellsR] at hj
 | b :: l, o, h => by
  have h0 := h 0 b rfl
  have ih := range_cellsR l (o + 11) fun i c hc => by
   have := h (i + 1) c (by simpa using hc)
   rwa [show o + 11 + 11 * i = o + 11 * (i + 1) by omega]
  have hl : (rlcs b).length = 11 := rfl
  intro j u hj
  simp only [cellsR] at hj
  by_cases hj10 : j < 11
  ·rw [List.getElem?_append_left (by omega)] at hj
   exact h0 j u hj
  ·rw [List.getElem?_append_right (by omega), hl] at hj
   have := ih (j - 11) u hj
   rwa [show o + 11 + (j - 11) = o + j by omega] at this
section
variable {H : Type} {enc : TypeId × Value → H} {w : World} {base : Nat} {spare : Nat → Bool} {held : Bool}
theorem open_ruleCells {n : Nat} {cs : List Value} {x : DataW H × List MemPlace} (h : DataW.trod enc Tryz.prog w base spare held n 100 cs = some x) : ∃ r : Rul, cs = rlcs r ∧ r.1.ok := by
 have c11 : (Tryz.prog).cellsOf 100 = 11 := by kernel_rfl
 have c10 : (Tryz.prog).cellsOf 98 = 10 := by kernel_rfl
 have c1 : (Tryz.prog).cellsOf 4 = 1 := by kernel_rfl
 obtain ⟨xs, m, _, _, hl, hxl, hf⟩ := DataW.trod_struct Tryz.underlying100 h
 rw [c11] at hl
 have h0 : DataW.trod enc Tryz.prog w base spare held m 98 (List.take ((Tryz.prog).cellsOf 98) (List.drop 0 cs)) = xs[0]? := hf 0 _ rfl
 have h1 : DataW.trod enc Tryz.prog w base spare held m 4 (List.take ((Tryz.prog).cellsOf 4) (List.drop 10 cs)) = xs[1]? := hf 1 _ rfl
 have get : ∀ i, i < 2 → ∃ y, xs[i]? = some y := fun i hi => ⟨_, List.getElem?_eq_getElem (by have : xs.length = 2 := hxl; omega)⟩
 obtain ⟨y0, z0⟩ := get 0 (by omega)
 obtain ⟨y1, z1⟩ := get 1 (by omega)
 rw [c10, z0, List.drop_zero] at h0
 rw [c1, z1] at h1
 obtain ⟨b, hb, kb⟩ := open_boxCells h0
 obtain ⟨p, hp, _⟩ := DataW.trod_bool Tryz.underlying4 h1
 refine ⟨(b, p), ?_, kb⟩
 have e1 : List.take 1 (List.drop 10 cs) = List.drop 10 cs := List.take_of_length_le (by rw [List.length_drop, hl]; omega)
 rw [e1] at hp
 unfold rlcs
 rw [← List.take_append_drop 10 cs, hb, hp]
theorem isTable_of {r : Reach} {b0 : Nat} {v : Value} {d : DataW H} {p : List MemPlace} (hv : Value.okWide Tryz.prog w r b0 24 v) (h : DataW.Trod enc Tryz.prog w base spare held 24 v d p) :
  ∃ l : List Rul, IsTable w v l ∧ okT l := by
 obtain ⟨n, hn⟩ := h
 have c11 : (Tryz.prog).cellsOf 100 = 11 := by kernel_rfl
 rcases DataW.trod_slice Tryz.underlying24 hn with ⟨h1, _⟩ | ⟨a, len, cap, elems, rest, m, _, h1, _, _, hlc, hcm, hlen, hel, _, _⟩
 ·have : v = .slice none 0 0 := by
   cases v with
   | slice a l c => simpa [Value.cells] using h1
   | agg cs => exfalso; simp only [Value.okWide, Tryz.underlying24] at hv; (try (obtain ⟨_, _, _, h, _⟩ := hv; cases h)); (try (cases hv))
   | _ => simp [Value.cells] at h1
  subst this
  exact ⟨[], .inl ⟨rfl, rfl⟩, (fun x hx => by cases hx)⟩
 ·have hvs : v = .slice (some a) len cap := by
   cases v with
   | slice a' l c => simpa [Value.cells] using h1
   | agg cs => exfalso; simp only [Value.okWide, Tryz.underlying24] at hv; (try (obtain ⟨_, _, _, h, _⟩ := hv; cases h)); (try (cases hv))
   | _ => simp [Value.cells] at h1
  subst hvs
  have hsp : a.spot = none := by
   unfold Value.okWide at hv
   rw [Tryz.underlying24] at hv
   unfold Cell.okWide at hv
   rw [Tryz.underlying24] at hv
   unfold Cell.ok at hv
   rw [Tryz.underlying24] at hv
   exact hv.2.2.2.1
  obtain ⟨g, o, sp⟩ := a
  dsimp only at hsp
  subst hsp
  have each : ∀ i, i < len → ∃ b : Rul, b.1.ok ∧ w.rangeAt g (o + 11 * i) (rlcs b) := fun i hi => by
   have h2 := hel i hi
   rw [List.getElem?_eq_getElem (by omega), Option.bind_eq_some_iff] at h2
   obtain ⟨cs, hcs, hy⟩ := h2
   obtain ⟨b, rfl, hb⟩ := open_ruleCells hy
   rw [addr_add, c11] at hcs
   refine ⟨b, hb, ?_⟩
   rw [Nat.mul_comm]
   exact range_of_cells hcs
  obtain ⟨f, hf⟩ : ∃ f : Nat → Rul, ∀ i, i < len → (f i).1.ok ∧ w.rangeAt g (o + 11 * i) (rlcs (f i)) :=
   ⟨fun i => if h : i < len then Classical.choose (each i h) else (zeroBx, false), fun i hi => by
    simp only [hi, dif_pos]
    exact Classical.choose_spec (each i hi)⟩
  have hl : ((List.range len).map f).length = len := by simp
  refine ⟨(List.range len).map f, .inr ⟨g, o, cap, by rw [hl], by rw [hl]; exact hlc, range_cellsR _ _ fun i b hb => ?_⟩, fun b hb => ?_⟩
  ·have hi := (List.getElem?_eq_some_iff.1 hb).1
   rw [hl] at hi
   rw [List.getElem?_map, List.getElem?_range hi] at hb
   obtain rfl : f i = b := by simpa using hb
   exact (hf i hi).2
  ·obtain ⟨i, hi, rfl⟩ := List.mem_map.1 hb
   exact (hf i (by simpa using hi)).1
end
end Go.Proofs.YtbdfblgdmappeaaGreatDoor
namespace Go.Proofs.YtbdfblgdmappeaaGreatDoor
open Go.RowKit
set_option maxRecDepth 100000
end Go.Proofs.YtbdfblgdmappeaaGreatDoor
