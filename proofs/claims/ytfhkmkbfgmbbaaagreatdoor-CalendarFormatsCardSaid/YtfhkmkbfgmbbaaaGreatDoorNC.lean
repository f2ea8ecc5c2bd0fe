/- Opening lists of boxes. -/
import Derived.Test.YtfhkmkbfgmbbaaaGreatDoorMB
import Derived.Test.YtfhkmkbfgmbbaaaGreatDoorMG
namespace Go.Proofs.YtfhkmkbfgmbbaaaGreatDoor
open Go.ChangeShapes Go.WideShapes Go.ChangeAt Go.RowKit
set_option maxRecDepth 100000
theorem addr_add (g o i : Nat) : (⟨g, o, none⟩ : Addr).add i = ⟨g, o + i, none⟩ := by
  unfold Addr.add
  by_cases h0 : i = 0
  · rw [if_pos h0, h0]; rfl
  · rw [if_neg h0]
theorem mapM_get {α β : Type} (f : α → Option β) : ∀ (l : List α) (r : List β), l.mapM f = some r → ∀ (j : Nat) (u : β), ∀ (_ : r[j]? = some u), ∃ x, l[j]? = some x ∧ f x = some u
  | [], r, h, j, u, hj => by
    simp at h
    subst h
    simp at hj
  | x :: l, r, h, j, u, hj => by
    rw [List.mapM_cons] at h
    simp only [Option.bind_eq_bind, Option.bind_eq_some_iff, Option.pure_def, Option.some.injEq] at h
    obtain ⟨y, hy, ys, hys, rfl⟩ := h
    cases j with
    | zero =>
      simp at hj
      subst hj
      exact ⟨x, rfl, hy⟩
    | succ j => exact mapM_get f l ys hys j u (by simpa using hj)
theorem range_of_cells {w : World} {base g o n : Nat} {cs : List Value} (h : w.cells? base ⟨g, o, none⟩ n = some cs) : w.rangeAt g o cs := by
  unfold World.cells? at h
  split at h
  · intro j u hj
    obtain ⟨x, hx, hf⟩ := mapM_get _ _ _ h j u hj
    rw [List.getElem?_range (by
      have := (List.getElem?_eq_some_iff.1 hx).1
      simpa using this)] at hx
    obtain rfl := Option.some.inj hx
    rw [addr_add] at hf
    exact hf
  · cases h
section
variable {H : Type} {enc : TypeId × Value → H} {w : World} {base : Nat} {spare : Nat → Bool} {held : Bool}
end
end Go.Proofs.YtfhkmkbfgmbbaaaGreatDoor

/- Lists of ranges as arguments. -/
namespace Go.Proofs.YtfhkmkbfgmbbaaaGreatDoor
open Go.ChangeShapes Go.WideShapes Go.ChangeAt Go.RowKit
set_option maxRecDepth 100000
theorem range_rcs {w : World} {g : Nat} : ∀ (l : List Rg) (o : Nat), (∀ i r, l[i]? = some r → w.rangeAt g (o + 2 * i) [.int .u32 r.lo, .int .u32 r.hi]) → w.rangeAt g o (rcs l)
  | [], o, _ => fun j u hj => by simp [rcs] at hj
  | r :: l, o, h => by
    have h0 := h 0 r rfl
    have ih := range_rcs l (o + 2) fun i c hc => by
      have := h (i + 1) c (by simpa using hc)
      rwa [show o + 2 + 2 * i = o + 2 * (i + 1) by omega]
    intro j u hj
    match j, hj with
    | 0, hj => exact h0 0 u hj
    | 1, hj => exact h0 1 u hj
    | j + 2, hj =>
      have := ih j u (by simpa [rcs] using hj)
      rwa [show o + 2 + j = o + (j + 2) by omega] at this
theorem cells_len {w : World} {base n : Nat} {a : Addr} {cs : List Value} (h : w.cells? base a n = some cs) : cs.length = n := by
  unfold World.cells? at h
  split at h
  · have := Lib.mapM_length h
    simpa using this
  · cases h
section
variable {H : Type} {enc : TypeId × Value → H} {w : World} {base : Nat} {spare : Nat → Bool} {held : Bool}
theorem two_of {α : Type} (l : List α) (h : l.length = 2) : ∃ a b, l = [a, b] := by
  match l, h with
  | [a, b], _ => exact ⟨a, b, rfl⟩
theorem isRgs_of {r : Reach} {b0 : Nat} {v : Value} {d : DataW H} {p : List MemPlace} (hv : Value.okWide Tryz.prog w r b0 23 v) (h : DataW.Trod enc Tryz.prog w base spare held 23 v d p) :
    ∃ l : List Rg, IsCells w v l.length (rcs l) ∧ l.length ≤ 9223372036854775807 ∧ BndR l := by
  obtain ⟨n, hn⟩ := h
  have c2 : (Tryz.prog).cellsOf 46 = 2 := by kernel_rfl
  rcases DataW.trod_slice Tryz.underlying23 hn with ⟨h1, _⟩ | ⟨a, len, cap, elems, rest, m, _, h1, _, _, hlc, hcm, hlen, hel, _, _⟩
  · have : v = .slice none 0 0 := by
      cases v with
      | slice a l c => simpa [Value.cells] using h1
      | agg cs => exfalso; simp only [Value.okWide, Tryz.underlying23] at hv; (try (obtain ⟨_, _, _, h, _⟩ := hv; cases h)); (try (cases hv))
      | _ => simp [Value.cells] at h1
    subst this
    exact ⟨[], .inl ⟨rfl, rfl, rfl⟩, by simp, (fun x hx => by cases hx)⟩
  · have hvs : v = .slice (some a) len cap := by
      cases v with
      | slice a' l c => simpa [Value.cells] using h1
      | agg cs => exfalso; simp only [Value.okWide, Tryz.underlying23] at hv; (try (obtain ⟨_, _, _, h, _⟩ := hv; cases h)); (try (cases hv))
      | _ => simp [Value.cells] at h1
    subst hvs
    have hsp : a.spot = none := by
      unfold Value.okWide at hv
      rw [Tryz.underlying23] at hv
      unfold Cell.okWide at hv
      rw [Tryz.underlying23] at hv
      unfold Cell.ok at hv
      rw [Tryz.underlying23] at hv
      exact hv.2.2.2.1
    obtain ⟨g, o, sp⟩ := a
    dsimp only at hsp
    subst hsp
    have each : ∀ i, i < len → ∃ x : Rg, (0 ≤ x.lo ∧ x.lo ≤ 4294967295 ∧ 0 ≤ x.hi ∧ x.hi ≤ 4294967295) ∧ w.rangeAt g (o + 2 * i) [.int .u32 x.lo, .int .u32 x.hi] := fun i hi => by
      have h2 := hel i hi
      rw [List.getElem?_eq_getElem (by omega), Option.bind_eq_some_iff] at h2
      obtain ⟨cs, hcs, hy⟩ := h2
      rw [addr_add, c2] at hcs
      have hr := range_of_cells hcs
      have hl2 : cs.length = 2 := cells_len hcs
      obtain ⟨c, e, rfl⟩ := two_of cs hl2
      obtain ⟨lo, hi', rfl, rfl, hb1, hb2⟩ := open_range hy
      refine ⟨⟨lo, hi'⟩, ⟨hb1.1, hb1.2, hb2.1, hb2.2⟩, ?_⟩
      rw [Nat.mul_comm]
      exact hr
    obtain ⟨f, hf⟩ : ∃ f : Nat → Rg, ∀ i, i < len → (0 ≤ (f i).lo ∧ (f i).lo ≤ 4294967295 ∧ 0 ≤ (f i).hi ∧ (f i).hi ≤ 4294967295) ∧ w.rangeAt g (o + 2 * i) [.int .u32 (f i).lo, .int .u32 (f i).hi] :=
      ⟨fun i => if h : i < len then Classical.choose (each i h) else ⟨0, 0⟩, fun i hi => by
        simp only [hi, dif_pos]
        exact Classical.choose_spec (each i hi)⟩
    have hl : ((List.range len).map f).length = len := by simp
    refine ⟨(List.range len).map f, .inr ⟨g, o, cap, by rw [hl], by rw [hl]; exact hlc, range_rcs _ _ fun i b hb => ?_⟩, by rw [hl]; unfold maxLen at hcm; omega, fun b hb => ?_⟩
    · have hi := (List.getElem?_eq_some_iff.1 hb).1
      rw [hl] at hi
      rw [List.getElem?_map, List.getElem?_range hi] at hb
      obtain rfl : f i = b := by simpa using hb
      exact (hf i hi).2
    · obtain ⟨i, hi, rfl⟩ := List.mem_map.1 hb
      exact (hf i (by simpa using hi)).1
end
end Go.Proofs.YtfhkmkbfgmbbaaaGreatDoor
