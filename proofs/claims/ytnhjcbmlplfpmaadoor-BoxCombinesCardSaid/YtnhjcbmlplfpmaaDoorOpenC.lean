/- Opening lists of numbers. -/
import Derived.Test.YtnhjcbmlplfpmaaDoorOpenB
import Derived.Test.YtnhjcbmlplfpmaaDoorLawT
import Derived.ChangeSlices
namespace Go.Proofs.YtnhjcbmlplfpmaaDoor
open Go.ChangeShapes Go.WideShapes Go.ChangeAt Go.RowKit
set_option maxRecDepth 100000
section
variable {H : Type} {enc : TypeId × Value → H} {w : World} {base : Nat} {spare : Nat → Bool} {held : Bool}
theorem addr_plain {a : Addr} {v : Value} (h : w.cell? a = some v) : a = ⟨a.block, a.off, none⟩ := by
  unfold World.cell? at h
  obtain ⟨b, o, s⟩ := a
  cases s with
  | none => rfl
  | some s => split at h <;> simp at h
theorem isInts_of {r : Reach} {b0 : Nat} {v : Value} {d : DataW H} {p : List MemPlace} (hv : Value.okWide Tryd.prog w r b0 39 v) (h : DataW.Trod enc Tryd.prog w base spare held 39 v d p) :
    ∃ zs, ZsOk v zs ∧ ∀ s ∈ roS v (ints zs), w.rangeAt s.g s.o s.xs := by
  obtain ⟨n, hn⟩ := h
  rcases open_ints (P := Tryd.prog) (k := .i64) Tryd.underlying39 Tryd.underlying3 (by kernel_rfl) hn with ⟨h1, _⟩ | ⟨a, len, cap, zs, h1, _, hlc, hcm, hzl, _, hcell, hwf⟩
  · have : v = .slice none 0 0 := by
      cases v with
      | slice a l c => simpa [Value.cells] using h1
      | agg cs => exfalso; simp only [Value.okWide, Tryd.underlying39] at hv; (try (obtain ⟨_, _, _, h, _⟩ := hv; cases h)); (try (cases hv))
      | _ => simp [Value.cells] at h1
    subst this
    exact ⟨[], ⟨⟨none, 0, rfl, by simp⟩, by simp, by simp⟩, by simp [roS]⟩
  · have hvs : v = .slice (some a) len cap := by
      cases v with
      | slice a' l c => simpa [Value.cells] using h1
      | agg cs => exfalso; simp only [Value.okWide, Tryd.underlying39] at hv; (try (obtain ⟨_, _, _, h, _⟩ := hv; cases h)); (try (cases hv))
      | _ => simp [Value.cells] at h1
    have hle : len ≤ zs.length := by rw [hzl]; split <;> omega
    have hlen : (zs.take len).length = len := by simp; omega
    have hpl : 0 < len → a = ⟨a.block, a.off, none⟩ := fun h0 => by
      have := hcell 0 (by omega)
      exact addr_plain (by simpa [Addr.add] using this)
    subst hvs
    refine ⟨zs.take len, ⟨⟨some a, cap, by rw [hlen], fun h0 => ⟨a.block, a.off, by rw [← hpl (by omega)]⟩⟩, fun z hz => bounds_i64 (hwf z (List.mem_of_mem_take hz)), by rw [hlen]; unfold maxLen at hcm; omega⟩, ?_⟩
    intro s hs
    obtain rfl : s = ⟨a.block, a.off, ints (zs.take len)⟩ := by simpa [roS] using hs
    intro j u hj
    have hjl := (List.getElem?_eq_some_iff.1 hj).1
    simp only [List.length_map, hlen] at hjl
    have hz : j < zs.length := by omega
    have h2 := hcell j hz
    rw [hpl (by omega)] at h2
    have e : (⟨a.block, a.off, none⟩ : Addr).add j = ⟨a.block, a.off + j, none⟩ := by
      unfold Addr.add
      by_cases h0 : j = 0
      · rw [if_pos h0, h0]; rfl
      · rw [if_neg h0]
    rw [e] at h2
    rw [h2, ← hj]
    simp [hjl, hz, List.getD]
end
end Go.Proofs.YtnhjcbmlplfpmaaDoor
