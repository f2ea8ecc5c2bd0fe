/- Opening arguments of the types of the package api: a box, a header, a number; the table of the greatest values. -/
import Derived.Test.YtnhjcbmlplfpmaaDoorOpen
import Derived.Test.YtnhjcbmlplfpmaaDoorBoxC
namespace Go.Proofs.YtnhjcbmlplfpmaaDoor
open Go.ChangeShapes Go.WideShapes Go.ChangeAt Go.RowKit
set_option maxRecDepth 100000

theorem kids : Kids Tryd.prog (· < (Tryd.prog).types.size) := kids_rows (by kernel_rfl) (by kernel_rfl)
theorem full : ∀ {t e : TypeId}, t < (Tryd.prog).types.size → (Tryd.prog).underlying t = some (.slice e) → 0 < (Tryd.prog).cellsOf e := fun {t e} => slices_full_of _ (by kernel_rfl) t e
theorem own : ownKnob (Tryd.prog).godebug = none := by kernel_rfl

section
variable {H : Type} {enc : TypeId × Value → H} {w : World} {base : Nat} {spare : Nat → Bool} {held : Bool}
theorem two_cells {k : IntKind} {n : Nat} {t : TypeId} {c : Value} {x : DataW H × List MemPlace} (ht : (Tryd.prog).underlying t = some (.int k)) (h : DataW.trod enc Tryd.prog w base spare held n t [c] = some x) : ∃ z, c = .int k z ∧ (Lit.int k z).wf = true := by
  obtain ⟨z, h1, _, h2⟩ := DataW.trod_int ht h
  simp only [List.cons.injEq, and_true] at h1
  exact ⟨z, h1, h2⟩
theorem open_range {n : Nat} {c d : Value} {x : DataW H × List MemPlace} (h : DataW.trod enc Tryd.prog w base spare held n 24 [c, d] = some x) :
    ∃ lo hi, c = .int .u32 lo ∧ d = .int .u32 hi ∧ (0 ≤ lo ∧ lo ≤ 4294967295) ∧ (0 ≤ hi ∧ hi ≤ 4294967295) := by
  obtain ⟨xs, m, _, _, _, _, hf⟩ := DataW.trod_struct Tryd.underlying24 h
  have h0 : DataW.trod enc Tryd.prog w base spare held m 22 (List.take ((Tryd.prog).cellsOf 22) (List.drop 0 [c, d])) = xs[0]? := hf 0 _ rfl
  have h1 : DataW.trod enc Tryd.prog w base spare held m 22 (List.take ((Tryd.prog).cellsOf 22) (List.drop 1 [c, d])) = xs[1]? := hf 1 _ rfl
  have c1 : (Tryd.prog).cellsOf 22 = 1 := by kernel_rfl
  simp only [c1, List.drop_zero, List.drop_succ_cons, List.take_succ_cons, List.take_zero] at h0 h1
  have hl : ∀ i, i < 2 → ∃ y, xs[i]? = some y := fun i hi => by
    have : xs.length = 2 := by assumption
    exact ⟨_, List.getElem?_eq_getElem (by omega)⟩
  obtain ⟨y0, e0⟩ := hl 0 (by omega)
  obtain ⟨y1, e1⟩ := hl 1 (by omega)
  rw [e0] at h0
  rw [e1] at h1
  obtain ⟨lo, rfl, w0⟩ := two_cells Tryd.underlying22 h0
  obtain ⟨hi, rfl, w1⟩ := two_cells Tryd.underlying22 h1
  exact ⟨lo, hi, rfl, rfl, bounds_u32 w0, bounds_u32 w1⟩
theorem ten {α : Type} (l : List α) (h : l.length = 10) : ∃ a b c d e f g i j k, l = [a, b, c, d, e, f, g, i, j, k] := by
  match l, h with
  | [a, b, c, d, e, f, g, i, j, k], _ => exact ⟨a, b, c, d, e, f, g, i, j, k, rfl⟩
theorem open_boxCells {n : Nat} {cs : List Value} {x : DataW H × List MemPlace} (h : DataW.trod enc Tryd.prog w base spare held n 26 cs = some x) : ∃ b : Bx, cs = bcs b ∧ b.ok := by
  have c2 : (Tryd.prog).cellsOf 24 = 2 := by kernel_rfl
  have c10 : (Tryd.prog).cellsOf 26 = 10 := by kernel_rfl
  obtain ⟨xs, m, _, _, hl, hxl, hf⟩ := DataW.trod_array Tryd.underlying26 h
  rw [c10] at hl
  obtain ⟨a0, a1, b0, b1, c0, c1, d0, d1, e0, e1, rfl⟩ := ten cs hl
  simp only [c2] at hf
  have get : ∀ i, i < 5 → ∃ y, xs[i]? = some y := fun i hi => ⟨_, List.getElem?_eq_getElem (by omega)⟩
  obtain ⟨y0, z0⟩ := get 0 (by omega)
  obtain ⟨y1, z1⟩ := get 1 (by omega)
  obtain ⟨y2, z2⟩ := get 2 (by omega)
  obtain ⟨y3, z3⟩ := get 3 (by omega)
  obtain ⟨y4, z4⟩ := get 4 (by omega)
  obtain ⟨l0, h0, rfl, rfl, p0⟩ := open_range ((hf 0 (by omega)).trans z0)
  obtain ⟨l1, h1, rfl, rfl, p1⟩ := open_range ((hf 1 (by omega)).trans z1)
  obtain ⟨l2, h2, rfl, rfl, p2⟩ := open_range ((hf 2 (by omega)).trans z2)
  obtain ⟨l3, h3, rfl, rfl, p3⟩ := open_range ((hf 3 (by omega)).trans z3)
  obtain ⟨l4, h4, rfl, rfl, p4⟩ := open_range ((hf 4 (by omega)).trans z4)
  refine ⟨⟨⟨l0, h0⟩, ⟨l1, h1⟩, ⟨l2, h2⟩, ⟨l3, h3⟩, ⟨l4, h4⟩⟩, rfl, fun k hk => ?_⟩
  rcases five hk with rfl | rfl | rfl | rfl | rfl <;> assumption
theorem open_box {r : Reach} {b0 : Nat} {v : Value} {d : DataW H} {p : List MemPlace} (hv : Value.okWide Tryd.prog w r b0 26 v) (h : DataW.Trod enc Tryd.prog w base spare held 26 v d p) : ∃ b : Bx, v = bv b ∧ b.ok := by
  obtain ⟨cs, rfl⟩ : ∃ cs, v = .agg cs := by
    simp only [Value.okWide, Tryd.underlying26] at hv
    obtain ⟨cs, h1, _⟩ := hv
    exact ⟨cs, h1⟩
  obtain ⟨n, hn⟩ := h
  obtain ⟨b, hb, hk⟩ := open_boxCells hn
  refine ⟨b, ?_, hk⟩
  simp only [Value.cells] at hb
  show Value.agg cs = .agg (bcs b).toArray
  rw [← hb]
theorem five_cells {α : Type} (l : List α) (h : l.length = 5) : ∃ a b c d e, l = [a, b, c, d, e] := by
  match l, h with
  | [a, b, c, d, e], _ => exact ⟨a, b, c, d, e, rfl⟩
theorem open_header {r : Reach} {b0 : Nat} {v : Value} {d : DataW H} {p : List MemPlace} (hval : Value.okWide Tryd.prog w r b0 29 v) (h : DataW.Trod enc Tryd.prog w base spare held 29 v d p) : ∃ x : Hd, v = hv x ∧ x.ok := by
  obtain ⟨cs, rfl⟩ : ∃ cs, v = .agg cs := by
    simp only [Value.okWide, Tryd.underlying29] at hval
    obtain ⟨cs, h1, _⟩ := hval
    exact ⟨cs, h1⟩
  obtain ⟨n, hn⟩ := h
  have c5 : (Tryd.prog).cellsOf 29 = 5 := by kernel_rfl
  have c1 : (Tryd.prog).cellsOf 22 = 1 := by kernel_rfl
  have c2 : (Tryd.prog).cellsOf 5 = 1 := by kernel_rfl
  have c3 : (Tryd.prog).cellsOf 27 = 1 := by kernel_rfl
  obtain ⟨xs, m, _, _, hl, hxl, hf⟩ := DataW.trod_struct Tryd.underlying29 hn
  rw [c5] at hl
  simp only [Value.cells] at hl hf
  obtain ⟨l⟩ := cs
  obtain ⟨a, b, c, e, f, rfl⟩ := five_cells l hl
  have get : ∀ i, i < 5 → ∃ y, xs[i]? = some y := fun i hi => ⟨_, List.getElem?_eq_getElem (by have : xs.length = 5 := hxl; omega)⟩
  have h0 : DataW.trod enc Tryd.prog w base spare held m 22 (List.take ((Tryd.prog).cellsOf 22) (List.drop 0 [a, b, c, e, f])) = xs[0]? := hf 0 _ rfl
  have h1 : DataW.trod enc Tryd.prog w base spare held m 22 (List.take ((Tryd.prog).cellsOf 22) (List.drop 1 [a, b, c, e, f])) = xs[1]? := hf 1 _ rfl
  have h2 : DataW.trod enc Tryd.prog w base spare held m 5 (List.take ((Tryd.prog).cellsOf 5) (List.drop 2 [a, b, c, e, f])) = xs[2]? := hf 2 _ rfl
  have h3 : DataW.trod enc Tryd.prog w base spare held m 27 (List.take ((Tryd.prog).cellsOf 27) (List.drop 3 [a, b, c, e, f])) = xs[3]? := hf 3 _ rfl
  have h4 : DataW.trod enc Tryd.prog w base spare held m 27 (List.take ((Tryd.prog).cellsOf 27) (List.drop 4 [a, b, c, e, f])) = xs[4]? := hf 4 _ rfl
  obtain ⟨y0, z0⟩ := get 0 (by omega)
  obtain ⟨y1, z1⟩ := get 1 (by omega)
  obtain ⟨y2, z2⟩ := get 2 (by omega)
  obtain ⟨y3, z3⟩ := get 3 (by omega)
  obtain ⟨y4, z4⟩ := get 4 (by omega)
  simp only [c1, c2, c3, List.drop_zero, List.drop_succ_cons, List.take_succ_cons, List.take_zero, z0, z1, z2, z3, z4] at h0 h1 h2 h3 h4
  obtain ⟨s, rfl, w0⟩ := two_cells Tryd.underlying22 h0
  obtain ⟨d', rfl, w1⟩ := two_cells Tryd.underlying22 h1
  obtain ⟨pr, rfl, w2⟩ := two_cells Tryd.underlying5 h2
  obtain ⟨sp, rfl, w3⟩ := two_cells Tryd.underlying27 h3
  obtain ⟨dp, rfl, w4⟩ := two_cells Tryd.underlying27 h4
  exact ⟨⟨s, d', pr, sp, dp⟩, rfl, bounds_u32 w0, bounds_u32 w1, bounds_u8 w2, bounds_u16 w3, bounds_u16 w4⟩
end

/-- the listed table -/
theorem tops_of {W : World} (h : laidMetH Tryd.prog [("netsegment/box.tops", Rows.laid_netsegment_box_tops)] W) : Tops W := by
  have ht : Lib.TabIs Tryd.prog W "netsegment/box.tops" .u32 [4294967295, 4294967295, 255, 65535, 65535] :=
    Lib.tabIs_of_head (rest := []) (show (Tryd.prog).globalNamed "netsegment/box.tops" = some 0 by kernel_rfl) (show ((Tryd.prog).globals[0]?).map (·.type) = some 62 by kernel_rfl) Tryd.underlying62 Tryd.underlying22 (by kernel_rfl) (by kernel_rfl) h
  intro k hk
  rcases five hk with rfl | rfl | rfl | rfl | rfl <;> exact ht.cell (by kernel_rfl) _ (by decide)
end Go.Proofs.YtnhjcbmlplfpmaaDoor
