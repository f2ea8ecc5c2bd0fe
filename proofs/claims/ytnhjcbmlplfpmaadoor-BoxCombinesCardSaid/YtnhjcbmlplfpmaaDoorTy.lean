/- The types of the packages api and box in this translation, and small laws on the cells of boxes. -/
import Derived.Test.YtnhjcbmlplfpmaaDoorSepL
namespace Go.Proofs.YtnhjcbmlplfpmaaDoor
open Go.RowKit

/-- five numbers -/
def fcs (p : Nat → Int) : List Value := [.int .u32 (p 0), .int .u32 (p 1), .int .u32 (p 2), .int .u32 (p 3), .int .u32 (p 4)]
abbrev pv (p : Nat → Int) : Value := .agg (fcs p).toArray
def fupd (p : Nat → Int) (k : Nat) (v : Int) : Nat → Int := fun i => if i = k then v else p i
theorem fset {p : Nat → Int} {k : Nat} (h : k < 5) {v : Int} : (fcs p).set k (.int .u32 v) = fcs (fupd p k v) := by
  rcases five h with rfl | rfl | rfl | rfl | rfl <;> rfl
theorem fcs_at (p : Nat → Int) {k : Nat} (h : k < 5) : (fcs p)[k]? = some (.int .u32 (p k)) := by
  rcases five h with rfl | rfl | rfl | rfl | rfl <;> rfl
theorem fcs_congr {p q : Nat → Int} (h : ∀ k, k < 5 → p k = q k) : fcs p = fcs q := by simp [fcs, h 0, h 1, h 2, h 3, h 4]

def zeroBx : Bx := Bx.of fun _ => ⟨0, 0⟩
def zeroHd : Hd := ⟨0, 0, 0, 0, 0⟩
theorem row_Range : RowT Tryd.prog 24 2 := ⟨_, Tryd.underlying24, rfl, by kernel_rfl⟩
theorem row_Box : RowT Tryd.prog 26 10 := ⟨_, Tryd.underlying26, rfl, by kernel_rfl⟩
theorem row_Header : RowT Tryd.prog 29 5 := ⟨_, Tryd.underlying29, rfl, by kernel_rfl⟩
theorem row_Five : RowT Tryd.prog 62 5 := ⟨_, Tryd.underlying62, rfl, by kernel_rfl⟩
theorem one_u32 : OneT Tryd.prog 22 := ⟨_, Tryd.underlying22, rfl, by kernel_rfl⟩
theorem one_u16 : OneT Tryd.prog 27 := ⟨_, Tryd.underlying27, rfl, by kernel_rfl⟩
theorem one_u8 : OneT Tryd.prog 5 := ⟨_, Tryd.underlying5, rfl, by kernel_rfl⟩
theorem one_int : OneT Tryd.prog 3 := ⟨_, Tryd.underlying3, rfl, by kernel_rfl⟩
theorem zero_Box : ZeroT Tryd.prog 26 (bcs zeroBx) := by unfold ZeroT; kernel_rfl
theorem zero_Range : ZeroT Tryd.prog 24 [.int .u32 0, .int .u32 0] := by unfold ZeroT; kernel_rfl
theorem zero_Header : ZeroT Tryd.prog 29 [.int .u32 0, .int .u32 0, .int .u8 0, .int .u16 0, .int .u16 0] := by unfold ZeroT; kernel_rfl
theorem zero_Five : ZeroT Tryd.prog 62 (fcs fun _ => 0) := by unfold ZeroT; kernel_rfl
theorem slice_Boxes : SliceT Tryd.prog 33 26 10 40 := ⟨Tryd.underlying33, by omega, by
  obtain ⟨i, h1, h2, h3, h4⟩ := info_parts (show (Tryd.prog.info? 26).map (fun i => (i.zero, i.size, i.bytes)) = some (some (.agg (bcs zeroBx).toArray), 10, 40) by kernel_rfl)
  exact ⟨i, _, h1, h2, h3, h4, rfl⟩⟩

theorem tk_all (cs : List Value) : (cs.drop 0).take cs.length = cs := by simp
theorem tk_rg (b : Bx) {k : Nat} (h : k < 5) : ((bcs b).drop (k * 2)).take ([Value.int .u32 (b.at k).lo, .int .u32 (b.at k).hi] : List Value).length = [.int .u32 (b.at k).lo, .int .u32 (b.at k).hi] := by
  rcases five h with rfl | rfl | rfl | rfl | rfl <;> rfl
theorem bput_rg {b : Bx} {k : Nat} (h : k < 5) {l u : Int} : putAt (bcs b) (k * 2) [.int .u32 l, .int .u32 u] = bcs (b.set k ⟨l, u⟩) := by
  rcases five h with rfl | rfl | rfl | rfl | rfl <;> rfl
theorem bput_all {c b : Bx} : putAt (bcs c) 0 (bcs b) = bcs b := putAt_all _ _ rfl

abbrev topsL : List Value := fcs topOf
theorem tops_get {k : Nat} (h : k < 5) : topsL[k]? = some (.int .u32 (topOf k)) := by
  rcases five h with rfl | rfl | rfl | rfl | rfl <;> rfl
theorem Own.tops {w0 w : World} {X : List Chunk} {R : List Row} {S : List Ro} {M : List Nat} (hO : Own M w0 X R S w) (ht : Tops w0) (hM : 0 ∉ M) : Tops w := fun k hk => by
  rw [World.cell?_of_block (w := w0) (hO.keep.block _ ht.lt hM)]; exact ht k hk
theorem own_tops {w : World} (ht : Tops w) : Own [] w [] [] [⟨0, 0, topsL⟩] w :=
  (own_start [] w).addRo ⟨0, 0, topsL⟩ (fun j v hj => by
    have hl := (List.getElem?_eq_some_iff.1 hj).1
    have hl' : j < 5 := hl
    have := ht j hl'
    rw [tops_get hl'] at hj
    cases hj
    simpa using this) (by simp [excl])

/-! reading an element of an array value -/
section
variable (w : World)
theorem ixb_at (b : Bx) {k : Nat} (hk : k < 5) : Sem.run Tryd.prog (Instr.index 26 (.agg (bcs b).toArray) (.int .i64 ↑k)) w = .ok (.agg #[.int .u32 (b.at k).lo, .int .u32 (b.at k).hi]) w := by
  rcases five hk with rfl | rfl | rfl | rfl | rfl <;> kernel_rfl
theorem ix5_at (p : Nat → Int) {k : Nat} (hk : k < 5) : Sem.run Tryd.prog (Instr.index 62 (pv p) (.int .i64 ↑k)) w = .ok (.int .u32 (p k)) w := by
  rcases five hk with rfl | rfl | rfl | rfl | rfl <;> kernel_rfl
end
end Go.Proofs.YtnhjcbmlplfpmaaDoor
