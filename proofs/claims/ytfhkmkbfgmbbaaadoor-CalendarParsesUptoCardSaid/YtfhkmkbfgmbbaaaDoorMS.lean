/- Strings and lists of strings as arguments. -/
import Derived.SliceStrings
import Derived.ChangeMaps5
import Derived.Test.YtfhkmkbfgmbbaaaDoorRows
import Derived.Test.YtfhkmkbfgmbbaaaDoorMJ
namespace Go.Proofs.YtfhkmkbfgmbbaaaDoor
open Go.ChangeShapes Go.WideShapes Go.ChangeAt Go.RowKit Go.ChangeMaps
set_option maxRecDepth 100000
variable {H : Type} {enc : TypeId × Value → H} {w : World} {base : Nat} {spare : Nat → Bool} {held : Bool}
theorem isStr_of {r : Reach} {b0 : Nat} {v : Value} {d : DataW H} {p : List MemPlace} (hv : Value.okWide Tryd.prog w r b0 9 v) (h : DataW.Trod enc Tryd.prog w base spare held 9 v d p) :
    ∃ x : Bs, v = .string ⟨x.toArray⟩ ∧ x.length ≤ 9223372036854775807 := by
  obtain ⟨s, rfl, -, -, hs⟩ := open_string Tryd.underlying9 hv h
  refine ⟨s.data.toList, congrArg Value.string (str_back s), ?_⟩
  have : s.data.toList.length = s.size := Array.length_toList
  unfold maxLen at hs
  omega
end Go.Proofs.YtfhkmkbfgmbbaaaDoor

/- Lists of strings as arguments; what a bound on the bulk says of them. -/
namespace Go.Proofs.YtfhkmkbfgmbbaaaDoor
open Go.ChangeShapes Go.WideShapes Go.ChangeAt Go.RowKit Go.ChangeMaps
set_option maxRecDepth 100000
theorem bulk_part {H : Type} {d : DataW H} {l : List (DataW H)} (h : d ∈ l) : Rows.uptoBulk d ≤ Rows.uptoBulkAll l := by
  induction l with
  | nil => cases h
  | cons x r ih =>
    simp only [Rows.uptoBulkAll]
    rcases List.mem_cons.1 h with e | e
    · subst e; omega
    · have := ih e; omega
section
variable {H : Type} {enc : TypeId × Value → H} {w : World} {base : Nat} {spare : Nat → Bool} {held : Bool}
theorem isTexts_of {r : Reach} {b0 : Nat} {v : Value} {d : DataW H} {p : List MemPlace} (hv : Value.okWide Tryd.prog w r b0 28 v) (h : DataW.Trod enc Tryd.prog w base spare held 28 v d p) :
    ∃ us : List Bs, IsTexts w v us ∧ us.length ≤ 9223372036854775807 ∧ ∀ x ∈ us, x.length + 1 ≤ Rows.uptoBulk d := by
  obtain ⟨n, hn⟩ := h
  rcases open_strings (P := Tryd.prog) Tryd.underlying28 Tryd.underlying9 (by kernel_rfl) hn with ⟨h1, _⟩ | ⟨a, len, cap, ss, h1, _, hlc, hcm, hzl, hx, hcell, -⟩
  · have : v = .slice none 0 0 := by
      cases v with
      | slice a l c => simpa [Value.cells] using h1
      | agg cs => exfalso; simp only [Value.okWide, Tryd.underlying28] at hv; (try (obtain ⟨_, _, _, h, _⟩ := hv; cases h)); (try (cases hv))
      | _ => simp [Value.cells] at h1
    subst this
    exact ⟨[], .inl ⟨rfl, rfl, rfl⟩, by simp, (fun x hx => by cases hx)⟩
  · have hvs : v = .slice (some a) len cap := by
      cases v with
      | slice a' l c => simpa [Value.cells] using h1
      | agg cs => exfalso; simp only [Value.okWide, Tryd.underlying28] at hv; (try (obtain ⟨_, _, _, h, _⟩ := hv; cases h)); (try (cases hv))
      | _ => simp [Value.cells] at h1
    have hle : len ≤ ss.length := by rw [hzl]; split <;> omega
    have hlen : ((ss.take len).map fun s => s.data.toList).length = len := by simp; omega
    have hd : d = .slice (strs (ss.take len)) (strs (ss.drop len)) := congrArg Prod.fst hx
    subst hvs
    have hml : len ≤ 9223372036854775807 := by unfold maxLen at hcm; omega
    have hsp : a.spot = none := by
      unfold Value.okWide at hv
      rw [Tryd.underlying28] at hv
      unfold Cell.okWide at hv
      rw [Tryd.underlying28] at hv
      unfold Cell.ok at hv
      rw [Tryd.underlying28] at hv
      exact hv.2.2.2.1
    obtain ⟨g, o, sp⟩ := a
    dsimp only at hsp
    subst hsp
    refine ⟨(ss.take len).map fun s => s.data.toList, .inr ⟨g, o, cap, by rw [hlen], by rw [hlen]; exact hlc, ?_⟩, by rw [hlen]; exact hml, ?_⟩
    · intro j u hj
      have hjl := (List.getElem?_eq_some_iff.1 hj).1
      rw [scs_len, hlen] at hjl
      have h2 := hcell j (by omega)
      rw [Addr.add_mid] at h2
      rw [h2, ← hj, scs, List.getElem?_map, List.getElem?_map, List.getElem?_take_of_lt hjl, List.getElem?_eq_getElem (by omega), List.getD_eq_getElem?_getD, List.getElem?_eq_getElem (by omega)]
      exact congrArg some (congrArg Value.string (str_back _))
    · intro x hx'
      obtain ⟨s, hs, rfl⟩ := List.mem_map.1 hx'
      rw [hd]
      have h3 : (DataW.lit (.string s.data.toList) : DataW H) ∈ strs (ss.take len) := List.mem_map.2 ⟨s, hs, rfl⟩
      have h4 := bulk_part h3
      have h5 : Rows.uptoBulk (DataW.lit (H := H) (.string s.data.toList)) = s.data.toList.length + 1 := by simp only [Rows.uptoBulk]
      rw [h5] at h4
      simp only [Rows.uptoBulk]
      omega
end
end Go.Proofs.YtfhkmkbfgmbbaaaDoor
