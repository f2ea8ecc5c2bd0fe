/- Contracts of the package box (third part): Intersect, Subtract. -/
import Derived.Test.YtnhjcbmlplfpmaaDoorBoxB
namespace Go.Proofs.YtnhjcbmlplfpmaaDoor
open Go.RowKit
set_option maxRecDepth 100000

def interR (a b : Rg) : Rg := ⟨max a.lo b.lo, min a.hi b.hi⟩
def interTo (a b : Bx) : Bx := Bx.of fun k => interR (a.at k) (b.at k)
def interB (a b : Bx) : Bx × Bool := if vld a && vld b && vld (interTo a b) then (interTo a b, true) else (zeroBx, false)
def interK (a b : Bx) (k : Nat) : Bx := Bx.of fun i => if i < k then interR (a.at i) (b.at i) else ⟨0, 0⟩
theorem interK_succ (a b : Bx) (k : Nat) : (interK a b k).set k ⟨max (a.at k).lo (b.at k).lo, min (a.at k).hi (b.at k).hi⟩ = interK a b (k + 1) :=
  bx_step (f := fun _ i => interR (a.at i) (b.at i)) (z := fun _ => ⟨0, 0⟩)
theorem interK_five (a b : Bx) : interK a b 5 = interTo a b := Bx.of_congr fun i hi => by rw [if_pos hi]

set_option maxHeartbeats 400000 in
theorem intersect_any (a b : Bx) (w : World) (ht : Tops w) :
    Calls Tryd.prog 11 #[bv a, bv b] w fun e w' => e = .returned (.tuple #[bv (interB a b).1, .bool (interB a b).2]) ∧ Below w.heap.size w w' := by
  have hO := own_start [] w
  cases ha : vld a
  · have E := Lib.hid (show interB a b = (zeroBx, false) by simp [interB, ha])
    go_enter Tryd.func11, Tryd.ntmps11
    go_wp2_with (first | ((with_reducible refine is_load ?_); (first | (refine own_ld (h := ?_)))) | ((with_reducible refine is_store ?_); (first | (refine own_stR (hO := hO) (h := ?_); clear hO; intro wv hO) | (refine own_st1 (hO := hO) (h := ?_); clear hO; intro wv hO))) | ((with_reducible refine is_box ?_); (first | (refine own_bx (o := ⟨some 2, _, _, _, _, _⟩) (hO := hO) (h := ?_); clear hO; intro n2 wv hO) | (refine own_bx (o := ⟨some 3, _, _, _, _, _⟩) (hO := hO) (h := ?_); clear hO; intro n3 wv hO))) | ((with_reducible refine is_alloc ?_); (first | (refine own_al (o := ⟨some 4, _, _, _, _, _⟩) (hO := hO) (h := ?_); clear hO; intro n4 wv hO) | (refine own_al (o := ⟨some 6, _, _, _, _, _⟩) (hO := hO) (h := ?_); clear hO; intro n6 wv hO))) | (go_at_call 13; refine (valid_any _ _ (hO.tops ht (by simp))).mono ?_; rintro e wv ⟨rfl, hb⟩; replace hO := hO.call hb; clear hb))
    refine bodyPost_ret (own_res_cell_tmp hO Tryd.results11 rfl (by (repeat (first | exact List.mem_cons_self | refine List.mem_cons_of_mem _ ?_))) (by (exact row_len (by (with_reducible (first | exact row_Box | exact row_Range | exact row_Header | exact row_Five | exact row_Tape | exact row_Prefix | exact row_Truths | exact row_Packet))) (by rfl))) rfl rfl) rfl ⟨?_, hO.keep.below⟩
    rw [E.out]; rfl
  cases hb : vld b
  · have E := Lib.hid (show interB a b = (zeroBx, false) by simp [interB, hb])
    go_enter Tryd.func11, Tryd.ntmps11
    go_wp2_with (first | ((with_reducible refine is_load ?_); (first | (refine own_ld (h := ?_)))) | ((with_reducible refine is_store ?_); (first | (refine own_stR (hO := hO) (h := ?_); clear hO; intro wv hO) | (refine own_st1 (hO := hO) (h := ?_); clear hO; intro wv hO))) | ((with_reducible refine is_box ?_); (first | (refine own_bx (o := ⟨some 2, _, _, _, _, _⟩) (hO := hO) (h := ?_); clear hO; intro n2 wv hO) | (refine own_bx (o := ⟨some 3, _, _, _, _, _⟩) (hO := hO) (h := ?_); clear hO; intro n3 wv hO))) | ((with_reducible refine is_alloc ?_); (first | (refine own_al (o := ⟨some 4, _, _, _, _, _⟩) (hO := hO) (h := ?_); clear hO; intro n4 wv hO) | (refine own_al (o := ⟨some 6, _, _, _, _, _⟩) (hO := hO) (h := ?_); clear hO; intro n6 wv hO))) | (go_at_call 13; refine (valid_any _ _ (hO.tops ht (by simp))).mono ?_; rintro e wv ⟨rfl, hb⟩; replace hO := hO.call hb; clear hb))
    refine bodyPost_ret (own_res_cell_tmp hO Tryd.results11 rfl (by (repeat (first | exact List.mem_cons_self | refine List.mem_cons_of_mem _ ?_))) (by (exact row_len (by (with_reducible (first | exact row_Box | exact row_Range | exact row_Header | exact row_Five | exact row_Tape | exact row_Prefix | exact row_Truths | exact row_Packet))) (by rfl))) rfl rfl) rfl ⟨?_, hO.keep.below⟩
    rw [E.out]; rfl
  go_enter Tryd.func11, Tryd.ntmps11
  go_wp2_with (first | ((with_reducible refine is_load ?_); (first | (refine own_ld (h := ?_)))) | ((with_reducible refine is_store ?_); (first | (refine own_stR (hO := hO) (h := ?_); clear hO; intro wv hO) | (refine own_st1 (hO := hO) (h := ?_); clear hO; intro wv hO))) | ((with_reducible refine is_box ?_); (first | (refine own_bx (o := ⟨some 2, _, _, _, _, _⟩) (hO := hO) (h := ?_); clear hO; intro n2 wv hO) | (refine own_bx (o := ⟨some 3, _, _, _, _, _⟩) (hO := hO) (h := ?_); clear hO; intro n3 wv hO))) | ((with_reducible refine is_alloc ?_); (first | (refine own_al (o := ⟨some 4, _, _, _, _, _⟩) (hO := hO) (h := ?_); clear hO; intro n4 wv hO) | (refine own_al (o := ⟨some 6, _, _, _, _, _⟩) (hO := hO) (h := ?_); clear hO; intro n6 wv hO))) | (go_at_call 13; refine (valid_any _ _ (hO.tops ht (by simp))).mono ?_; rintro e wv ⟨rfl, hb⟩; replace hO := hO.call hb; clear hb))
  go_loopw [17] (fun i wr => ∃ k : Nat, k ≤ 5 ∧ i = .int .i64 k ∧ Own [] w [⟨n6, bcs (interK a b k), 26⟩, ⟨n4, bcs zeroBx, 26⟩, ⟨n3, bcs b, 26⟩, ⟨n2, bcs a, 26⟩] [] [] wr) (fun i _ => 5 - (intOf i).toNat)
  case atStart => exact ⟨0, by omega, rfl, hO⟩
  case round =>
    clear hO
    obtain ⟨k, hk, rfl, hO⟩ := hrel
    by_cases hlt : k < 5
    · go_wp2_with (first | ((with_reducible refine is_load ?_); (first | (refine own_ld (h := ?_)))) | ((with_reducible refine is_store ?_); (first | (refine own_stR (hO := hO) (h := ?_); clear hO; intro wv hO) | (refine own_st1 (hO := hO) (h := ?_); clear hO; intro wv hO))))
      (try simp only [Act.put]); (refine own_tail 21 hO (by kernel_rfl) (by kernel_rfl) (by repeat (first | exact Split.zero _ | apply Split.succ)) ?_; clear hO; intro wv hO; (repeat ((refine wpStill_step (fun K hK => ?_)); (first | ((rw [if_pos (by rfl)]); (with_reducible refine is_loadS ?_); (first | (refine s_ld (h := ?_))); (try simp only [Act.put]); (try simp only [List.setIfInBounds_toArray, List.set_cons_zero, List.set_cons_succ]); (refine hK _ ?_); clear hK K) | (go_simp; (refine hK _ ?_); clear hK K)))); (refine wpStill_nil ?_))
      go_wp2_with (first | ((with_reducible refine is_load ?_); (first | (refine own_ld (h := ?_)))) | ((with_reducible refine is_store ?_); (first | (refine own_stR (hO := hO) (h := ?_); clear hO; intro wv hO) | (refine own_st1 (hO := hO) (h := ?_); clear hO; intro wv hO))))
      go_roundw
      case rel => exact ⟨k + 1, by omega, by go_num, by rw [← interK_succ a b k]; exact hO⟩
      case measure => simp [intOf]; omega
    · obtain rfl : k = 5 := by omega
      rw [interK_five] at hO
      have HA := Lib.hid ha
      have HB := Lib.hid hb
      clear ha hb
      cases hi : vld (interTo a b)
      · have E := Lib.hid (show interB a b = (zeroBx, false) by simp [interB, hi])
        go_wp2_with (first | ((with_reducible refine is_load ?_); (first | (refine own_ld (h := ?_)))) | ((with_reducible refine is_store ?_); (first | (refine own_stR (hO := hO) (h := ?_); clear hO; intro wv hO) | (refine own_st1 (hO := hO) (h := ?_); clear hO; intro wv hO))) | (go_at_call 13; refine (valid_any _ _ (hO.tops ht (by simp))).mono ?_; rintro e wv ⟨rfl, hb⟩; replace hO := hO.call hb; clear hb))
        refine bodyPost_ret (own_res_cell_tmp hO Tryd.results11 rfl (by (repeat (first | exact List.mem_cons_self | refine List.mem_cons_of_mem _ ?_))) (by (exact row_len (by (with_reducible (first | exact row_Box | exact row_Range | exact row_Header | exact row_Five | exact row_Tape | exact row_Prefix | exact row_Truths | exact row_Packet))) (by rfl))) rfl rfl) rfl ⟨?_, hO.keep.below⟩
        rw [E.out]; rfl
      · have E := Lib.hid (show interB a b = (interTo a b, true) by simp [interB, hi, HA.out, HB.out])
        go_wp2_with (first | ((with_reducible refine is_load ?_); (first | (refine own_ld (h := ?_)))) | ((with_reducible refine is_store ?_); (first | (refine own_stR (hO := hO) (h := ?_); clear hO; intro wv hO) | (refine own_st1 (hO := hO) (h := ?_); clear hO; intro wv hO))) | (go_at_call 13; refine (valid_any _ _ (hO.tops ht (by simp))).mono ?_; rintro e wv ⟨rfl, hb⟩; replace hO := hO.call hb; clear hb))
        refine bodyPost_ret (own_res_cell_tmp hO Tryd.results11 rfl (by (repeat (first | exact List.mem_cons_self | refine List.mem_cons_of_mem _ ?_))) (by (exact row_len (by (with_reducible (first | exact row_Box | exact row_Range | exact row_Header | exact row_Five | exact row_Tape | exact row_Prefix | exact row_Truths | exact row_Packet))) (by rfl))) rfl rfl) rfl ⟨?_, hO.keep.below⟩
        rw [E.out]; rfl

/-- the cells of a list of boxes -/
def cellsB : List Bx → List Value
  | [] => []
  | b :: l => bcs b ++ cellsB l
theorem cellsB_append (l m : List Bx) : cellsB (l ++ m) = cellsB l ++ cellsB m := by
  induction l with
  | nil => rfl
  | cons b l ih => simp [cellsB, ih]
theorem cellsB_one (b : Bx) : cellsB [b] = bcs b := by simp [cellsB]
theorem cellsB_length (l : List Bx) : (cellsB l).length = l.length * 10 := by
  induction l with
  | nil => rfl
  | cons b l ih => simp only [cellsB, List.length_append, ih, bcs_length, List.length_cons]; omega
/-- a slice that reads as a list of boxes -/
def IsBoxes (w : World) (v : Value) (l : List Bx) : Prop :=
  (v = .slice none 0 0 ∧ l = []) ∨ ∃ g o c, v = .slice (some ⟨g, o, none⟩) l.length c ∧ l.length ≤ c ∧ w.rangeAt g o (cellsB l)
theorem own_boxes {M : List Nat} {w0 w : World} {X : List Chunk} {R : List Row} {S : List Ro} (hO : Own M w0 X R S w) {v : Value} {k : Nat} {l : List Bx} (hm : (⟨v, k, cellsB l, 26, 10⟩ : Row) ∈ R) : IsBoxes w v l := by
  obtain ⟨h1, h2⟩ := hO.row _ hm
  dsimp only at h1 h2
  have hk : l.length = k := by rw [cellsB_length] at h1; omega
  rcases h2 with ⟨hv, h0⟩ | ⟨g, cap, cur, hv, _, hg, hc, _, _, ht⟩
  · left; refine ⟨hv, List.length_eq_zero_iff.1 (by omega)⟩
  · right
    refine ⟨g, 0, cap, by rw [hv, hk], by rw [hk]; exact hc, fun j u hj => ?_⟩
    have hjl := (List.getElem?_eq_some_iff.1 hj).1
    rw [cell_of_row w g (0 + j) cur _ _ hg]
    rw [← ht, List.getElem?_take] at hj
    split at hj
    · simpa using hj
    · cases hj

def subParts (c x : Bx) (k : Nat) : List Bx :=
  (if (c.at k).lo < (x.at k).lo then [c.set k ⟨(c.at k).lo, (x.at k).lo - 1⟩] else []) ++ (if (x.at k).hi < (c.at k).hi then [c.set k ⟨(x.at k).hi + 1, (c.at k).hi⟩] else [])
def subK (a x : Bx) (k : Nat) : Bx := Bx.of fun i => if i < k then x.at i else a.at i
def subL (a x : Bx) : Nat → List Bx
  | 0 => []
  | k + 1 => subL a x k ++ subParts (subK a x k) x k
def subtrB (a b : Bx) : List Bx := if vld a = false then [] else if (interB a b).2 = false then [a] else subL a (interB a b).1 5
theorem subL_le (a x : Bx) (k : Nat) : (subL a x k).length ≤ 2 * k := by
  induction k with
  | zero => simp [subL]
  | succ k ih =>
    simp only [subL, List.length_append, subParts]
    split <;> split <;> simp <;> omega
theorem subK_succ (a x : Bx) (k : Nat) : (subK a x k).set k ⟨(x.at k).lo, (x.at k).hi⟩ = subK a x (k + 1) :=
  bx_step (f := fun _ i => ⟨(x.at i).lo, (x.at i).hi⟩) (z := a.at)
theorem subK_at (a x : Bx) {k : Nat} (h : k < 5) : (subK a x k).at k = a.at k := by unfold subK; rw [Bx.at_of _ h]; simp
def Bx.ok (b : Bx) : Prop := ∀ k, k < 5 → (0 ≤ (b.at k).lo ∧ (b.at k).lo ≤ 4294967295) ∧ (0 ≤ (b.at k).hi ∧ (b.at k).hi ≤ 4294967295)
theorem interTo_ok {a b : Bx} (ha : a.ok) (hb : b.ok) : (interTo a b).ok := fun k hk => by
  have h1 := ha k hk
  have h2 := hb k hk
  unfold interTo
  rw [Bx.at_of _ hk]
  simp only [interR]
  omega
theorem zeroBx_ok : zeroBx.ok := fun k hk => by unfold zeroBx; rw [Bx.at_of _ hk]; simp
theorem interB_ok {a b : Bx} (ha : a.ok) (hb : b.ok) : (interB a b).1.ok := by
  unfold interB; split
  · exact interTo_ok ha hb
  · exact zeroBx_ok

theorem own_boxesC {M : List Nat} {w0 w : World} {X : List Chunk} {R : List Row} {S : List Ro} (hO : Own M w0 X R S w) {n c : Nat} {cs : List Value} {t : TypeId} {l : List Bx} (hm : (⟨n, cs, t⟩ : Chunk) ∈ X) (hl : cs = cellsB l) (hc : l.length ≤ c) : IsBoxes w (.slice (some ⟨n, 0, none⟩) l.length c) l := by
  subst hl
  exact .inr ⟨n, 0, c, rfl, hc, fun j u hj => by rw [(hO.chunk _ hm).cell (0 + j)]; simpa using hj⟩
/-- new: no block of the old world -/
def NewFrom (w : World) (v : Value) : Prop := ∀ g, v.ownBlock = some g → w.heap.size ≤ g
/-- what a function hands back that makes a list of boxes -/
def RetBoxes (w : World) (l : List Bx) (e : Ending) (w' : World) : Prop := ∃ v, e = .returned v ∧ (IsBoxes w' v l ∧ NewFrom w v) ∧ Below w.heap.size w w'
theorem own_new {w0 w : World} {X : List Chunk} {R : List Row} {S : List Ro} (hO : Own [] w0 X R S w) {v : Value} {k e size : Nat} {xs : List Value} (hm : (⟨v, k, xs, e, size⟩ : Row) ∈ R) : NewFrom w0 v := fun g hg => by
  have := hO.free g (List.mem_append.2 (.inr (List.mem_filterMap.2 ⟨_, hm, hg⟩)))
  simpa using this
theorem own_newC {w0 w : World} {X : List Chunk} {R : List Row} {S : List Ro} (hO : Own [] w0 X R S w) {n l c : Nat} {cs : List Value} {t : TypeId} (hm : (⟨n, cs, t⟩ : Chunk) ∈ X) : NewFrom w0 (.slice (some ⟨n, 0, none⟩) l c) := fun g hg => by
  have := hO.free n (List.mem_append.2 (.inl (List.mem_map.2 ⟨_, hm, rfl⟩)))
  cases hg
  simpa using this

set_option maxHeartbeats 4000000 in
theorem subtract_any (a b : Bx) (w : World) (ht : Tops w) (ka : a.ok) (kb : b.ok) :
    Calls Tryd.prog 12 #[bv a, bv b] w (RetBoxes w (subtrB a b)) := by
  have hO := own_start [] w
  cases ha : vld a
  · have E := Lib.hid (show subtrB a b = [] by simp [subtrB, ha])
    go_enter Tryd.func12, Tryd.ntmps12
    go_wp2_with (first | ((with_reducible refine is_load ?_); (first | (refine own_ld (h := ?_)))) | ((with_reducible refine is_store ?_); (first | (refine own_stR (hO := hO) (h := ?_); clear hO; intro wv hO) | (refine own_st1 (hO := hO) (h := ?_); clear hO; intro wv hO))) | ((with_reducible refine is_box ?_); (first | (refine own_bx (o := ⟨some 2, _, _, _, _, _⟩) (hO := hO) (h := ?_); clear hO; intro n2 wv hO) | (refine own_bx (o := ⟨some 3, _, _, _, _, _⟩) (hO := hO) (h := ?_); clear hO; intro n3 wv hO))) | (go_at_call 13; refine (valid_any _ _ (hO.tops ht (by simp))).mono ?_; rintro e wv ⟨rfl, hb⟩; replace hO := hO.call hb; clear hb))
    go_ret
    exact ⟨_, rfl, ⟨by rw [E.out]; exact .inl ⟨rfl, rfl⟩, fun g hg => by cases hg⟩, hO.keep.below⟩
  cases hi : (interB a b).2
  · have E := Lib.hid (show subtrB a b = [a] by simp [subtrB, ha, hi])
    go_enter Tryd.func12, Tryd.ntmps12
    go_wp2_with (first | ((with_reducible refine is_load ?_); (first | (refine own_ld (h := ?_)))) | ((with_reducible refine is_store ?_); (first | (refine own_stR (hO := hO) (h := ?_); clear hO; intro wv hO) | (refine own_st1 (hO := hO) (h := ?_); clear hO; intro wv hO))) | ((with_reducible refine is_box ?_); (first | (refine own_bx (o := ⟨some 2, _, _, _, _, _⟩) (hO := hO) (h := ?_); clear hO; intro n2 wv hO) | (refine own_bx (o := ⟨some 3, _, _, _, _, _⟩) (hO := hO) (h := ?_); clear hO; intro n3 wv hO))) | ((with_reducible refine is_alloc ?_); (first | (refine own_al (o := ⟨some 5, _, _, _, _, _⟩) (hO := hO) (h := ?_); clear hO; intro n5 wv hO))) | ((with_reducible refine is_build ?_); (first | (refine' own_build1 (o := ⟨some 24, _, _, _, _, _⟩) hO (by rfl) rfl rfl ?hu ?hf ?_; (case hu => (first | exact Tryd.underlying33 | exact und_Set)); (case hf => kernel_rfl); clear hO; intro n24 wv hO))) | (go_at_call 13; refine (valid_any _ _ (hO.tops ht (by simp))).mono ?_; rintro e wv ⟨rfl, hb⟩; replace hO := hO.call hb; clear hb) | (go_at_call 11; refine (intersect_any _ _ _ (hO.tops ht (by simp))).mono ?_; rintro e wv ⟨rfl, hb⟩; replace hO := hO.call hb; clear hb))
    go_ret
    exact ⟨_, rfl, ⟨by rw [E.out]; exact own_boxesC hO (l := [a]) List.mem_cons_self (cellsB_one a).symm (by simp), own_newC hO List.mem_cons_self⟩, hO.keep.below⟩
  have E := Lib.hid (show subtrB a b = subL a (interB a b).1 5 by simp [subtrB, ha, hi])
  have kx := interB_ok ka kb
  go_enter Tryd.func12, Tryd.ntmps12
  go_wp2_with (first | ((with_reducible refine is_load ?_); (first | (refine own_ld (h := ?_)))) | ((with_reducible refine is_store ?_); (first | (refine own_stR (hO := hO) (h := ?_); clear hO; intro wv hO) | (refine own_st1 (hO := hO) (h := ?_); clear hO; intro wv hO))) | ((with_reducible refine is_box ?_); (first | (refine own_bx (o := ⟨some 2, _, _, _, _, _⟩) (hO := hO) (h := ?_); clear hO; intro n2 wv hO) | (refine own_bx (o := ⟨some 3, _, _, _, _, _⟩) (hO := hO) (h := ?_); clear hO; intro n3 wv hO))) | ((with_reducible refine is_alloc ?_); (first | (refine own_al (o := ⟨some 5, _, _, _, _, _⟩) (hO := hO) (h := ?_); clear hO; intro n5 wv hO) | (refine own_al (o := ⟨some 8, _, _, _, _, _⟩) (hO := hO) (h := ?_); clear hO; intro n8 wv hO))) | (go_at_call 13; refine (valid_any _ _ (hO.tops ht (by simp))).mono ?_; rintro e wv ⟨rfl, hb⟩; replace hO := hO.call hb; clear hb) | (go_at_call 11; refine (intersect_any _ _ _ (hO.tops ht (by simp))).mono ?_; rintro e wv ⟨rfl, hb⟩; replace hO := hO.call hb; clear hb))
  generalize (interB a b).1 = x at *
  replace hO := hO.nilRow 26 10
  go_loopw [7, 26] (fun v i wr => ∃ k : Nat, k ≤ 5 ∧ i = .int .i64 k ∧ Own [] w [⟨n8, bcs (subK a x k), 26⟩, ⟨n5, bcs x, 26⟩] [⟨v, (subL a x k).length, cellsB (subL a x k), 26, 10⟩] [] wr) (fun _ i _ => 5 - (intOf i).toNat)
  case atStart => exact ⟨0, by omega, rfl, hO.sub (.cons_cons _ (.cons_cons _ (.cons _ (.cons _ .slnil)))) (.refl _) (fun _ h => h)⟩
  case round =>
    clear hO ha hi
    obtain ⟨k, hk, rfl, hO⟩ := hrel
    by_cases hlt : k < 5
    · have hL := subL_le a x k
      have hA := ka k hlt
      have hX := kx k hlt
      have hat := subK_at a x hlt
      have hs := subK_succ a x k
      have hn : subL a x (k + 1) = subL a x k ++ subParts (subK a x k) x k := rfl
      simp only [subParts, hat] at hn
      have HN := Lib.hid hn
      have HS := Lib.hid hs
      clear hn hs
      generalize hl : subL a x k = l at *
      clear hl
      generalize subK a x k = c at *
      obtain ⟨⟨A1, A2⟩, A3, A4⟩ := hA
      obtain ⟨⟨X1, X2⟩, X3, X4⟩ := hX
      by_cases h1 : (a.at k).lo < (x.at k).lo
      · by_cases h2 : (x.at k).hi < (a.at k).hi
        · have h1' : decide ((a.at k).lo < (x.at k).lo) = true := by simp; omega
          have h2' : decide ((x.at k).hi < (a.at k).hi) = true := by simp; omega
          go_wp2_with (first | ((with_reducible refine is_load ?_); (first | (refine own_ld (h := ?_)))) | ((with_reducible refine is_store ?_); (first | (refine own_stR (hO := hO) (h := ?_); clear hO; intro wv hO) | (refine own_st1 (hO := hO) (h := ?_); clear hO; intro wv hO))))
          (try simp only [Act.put]); (refine own_quiet hO (by kernel_rfl) (by kernel_rfl) ?_; clear hO; (repeat (first | go_big_quiet_skip | (go_big_quiet_want; (first | ((with_reducible refine is_loadQ ?_); (first | (refine q_ld (h := ?_))); (try simp only [Act.put]); (try simp only [List.setIfInBounds_toArray, List.set_cons_zero, List.set_cons_succ]); go_big_quiet_on) | (go_big_quiet_op; (first | go_big_quiet_on | ((refine ⟨_, fun _ _ => rfl, ?_⟩); go_big_quiet_on) | go_big_quiet_call (fail))))))); (refine wpQuiet_nil ?_); intro wv hO)
          go_wp2_with (first | ((with_reducible refine is_load ?_); (first | (refine own_ld (h := ?_)))) | ((with_reducible refine is_store ?_); (first | (refine own_stR (hO := hO) (h := ?_); clear hO; intro wv hO) | (refine own_st1 (hO := hO) (h := ?_); clear hO; intro wv hO))) | ((with_reducible refine is_alloc ?_); (first | (refine own_al (o := ⟨some 10, _, _, _, _, _⟩) (hO := hO) (h := ?_); clear hO; intro n10 wv hO))) | ((with_reducible refine is_build ?_); (first | (refine' own_build1 (o := ⟨some 49, _, _, _, _, _⟩) hO (by rfl) rfl rfl ?hu ?hf ?_; (case hu => (first | exact Tryd.underlying33 | exact und_Set)); (case hf => kernel_rfl); clear hO; intro n49 wv hO))) | ((with_reducible refine is_append ?_); (first | (refine own_ap (o := ⟨some 50, _, _, _, _, _⟩) (hO := hO) (h := ?_); clear hO; intro g50 c50 wv hO))))
          (try simp only [Act.put]); (refine own_quiet hO (by kernel_rfl) (by kernel_rfl) ?_; clear hO; (repeat (first | go_big_quiet_skip | (go_big_quiet_want; (first | ((with_reducible refine is_loadQ ?_); (first | (refine q_ld (h := ?_))); (try simp only [Act.put]); (try simp only [List.setIfInBounds_toArray, List.set_cons_zero, List.set_cons_succ]); go_big_quiet_on) | (go_big_quiet_op; (first | go_big_quiet_on | ((refine ⟨_, fun _ _ => rfl, ?_⟩); go_big_quiet_on) | go_big_quiet_call (fail))))))); (refine wpQuiet_nil ?_); intro wv hO)
          go_wp2_with (first | ((with_reducible refine is_load ?_); (first | (refine own_ld (h := ?_)))) | ((with_reducible refine is_store ?_); (first | (refine own_stR (hO := hO) (h := ?_); clear hO; intro wv hO) | (refine own_st1 (hO := hO) (h := ?_); clear hO; intro wv hO))) | ((with_reducible refine is_alloc ?_); (first | (refine own_al (o := ⟨some 11, _, _, _, _, _⟩) (hO := hO) (h := ?_); clear hO; intro n11 wv hO))) | ((with_reducible refine is_build ?_); (first | (refine' own_build1 (o := ⟨some 71, _, _, _, _, _⟩) hO (by rfl) rfl rfl ?hu ?hf ?_; (case hu => (first | exact Tryd.underlying33 | exact und_Set)); (case hf => kernel_rfl); clear hO; intro n71 wv hO))) | ((with_reducible refine is_append ?_); (first | (refine own_ap (o := ⟨some 72, _, _, _, _, _⟩) (hO := hO) (h := ?_); clear hO; intro g72 c72 wv hO))))
          go_roundw
          case rel =>
            refine ⟨k + 1, by omega, by go_num, ?_⟩
            rw [HN.out, ← HS.out, if_pos h1, if_pos h2]
            (try simp only [hat] at hO)
            simp only [cellsB_append, List.length_append, List.length_cons, List.length_nil, List.append_nil, ← List.append_assoc, Nat.zero_add, cellsB]
            exact hO.sub (.cons _ (.cons _ (.cons _ (.cons _ (.refl _))))) (.refl _) (fun _ h => h)
          case measure => simp [intOf]; omega

        · have h1' : decide ((a.at k).lo < (x.at k).lo) = true := by simp; omega
          have h2' : decide ((x.at k).hi < (a.at k).hi) = false := by simp; omega
          go_wp2_with (first | ((with_reducible refine is_load ?_); (first | (refine own_ld (h := ?_)))) | ((with_reducible refine is_store ?_); (first | (refine own_stR (hO := hO) (h := ?_); clear hO; intro wv hO) | (refine own_st1 (hO := hO) (h := ?_); clear hO; intro wv hO))))
          (try simp only [Act.put]); (refine own_quiet hO (by kernel_rfl) (by kernel_rfl) ?_; clear hO; (repeat (first | go_big_quiet_skip | (go_big_quiet_want; (first | ((with_reducible refine is_loadQ ?_); (first | (refine q_ld (h := ?_))); (try simp only [Act.put]); (try simp only [List.setIfInBounds_toArray, List.set_cons_zero, List.set_cons_succ]); go_big_quiet_on) | (go_big_quiet_op; (first | go_big_quiet_on | ((refine ⟨_, fun _ _ => rfl, ?_⟩); go_big_quiet_on) | go_big_quiet_call (fail))))))); (refine wpQuiet_nil ?_); intro wv hO)
          go_wp2_with (first | ((with_reducible refine is_load ?_); (first | (refine own_ld (h := ?_)))) | ((with_reducible refine is_store ?_); (first | (refine own_stR (hO := hO) (h := ?_); clear hO; intro wv hO) | (refine own_st1 (hO := hO) (h := ?_); clear hO; intro wv hO))) | ((with_reducible refine is_alloc ?_); (first | (refine own_al (o := ⟨some 10, _, _, _, _, _⟩) (hO := hO) (h := ?_); clear hO; intro n10 wv hO))) | ((with_reducible refine is_build ?_); (first | (refine' own_build1 (o := ⟨some 49, _, _, _, _, _⟩) hO (by rfl) rfl rfl ?hu ?hf ?_; (case hu => (first | exact Tryd.underlying33 | exact und_Set)); (case hf => kernel_rfl); clear hO; intro n49 wv hO))) | ((with_reducible refine is_append ?_); (first | (refine own_ap (o := ⟨some 50, _, _, _, _, _⟩) (hO := hO) (h := ?_); clear hO; intro g50 c50 wv hO))))
          (try simp only [Act.put]); (refine own_quiet hO (by kernel_rfl) (by kernel_rfl) ?_; clear hO; (repeat (first | go_big_quiet_skip | (go_big_quiet_want; (first | ((with_reducible refine is_loadQ ?_); (first | (refine q_ld (h := ?_))); (try simp only [Act.put]); (try simp only [List.setIfInBounds_toArray, List.set_cons_zero, List.set_cons_succ]); go_big_quiet_on) | (go_big_quiet_op; (first | go_big_quiet_on | ((refine ⟨_, fun _ _ => rfl, ?_⟩); go_big_quiet_on) | go_big_quiet_call (fail))))))); (refine wpQuiet_nil ?_); intro wv hO)
          go_wp2_with (first | ((with_reducible refine is_load ?_); (first | (refine own_ld (h := ?_)))) | ((with_reducible refine is_store ?_); (first | (refine own_stR (hO := hO) (h := ?_); clear hO; intro wv hO) | (refine own_st1 (hO := hO) (h := ?_); clear hO; intro wv hO))))
          go_roundw
          case rel =>
            refine ⟨k + 1, by omega, by go_num, ?_⟩
            rw [HN.out, ← HS.out, if_pos h1, if_neg (by omega)]
            (try simp only [hat] at hO)
            simp only [cellsB_append, List.length_append, List.length_cons, List.length_nil, List.append_nil, Nat.zero_add, cellsB]
            exact hO.sub (.cons _ (.cons _ (.refl _))) (.refl _) (fun _ h => h)
          case measure => simp [intOf]; omega

      · by_cases h2 : (x.at k).hi < (a.at k).hi
        · have h1' : decide ((a.at k).lo < (x.at k).lo) = false := by simp; omega
          have h2' : decide ((x.at k).hi < (a.at k).hi) = true := by simp; omega
          go_wp2_with (first | ((with_reducible refine is_load ?_); (first | (refine own_ld (h := ?_)))) | ((with_reducible refine is_store ?_); (first | (refine own_stR (hO := hO) (h := ?_); clear hO; intro wv hO) | (refine own_st1 (hO := hO) (h := ?_); clear hO; intro wv hO))))
          (try simp only [Act.put]); (refine own_quiet hO (by kernel_rfl) (by kernel_rfl) ?_; clear hO; (repeat (first | go_big_quiet_skip | (go_big_quiet_want; (first | ((with_reducible refine is_loadQ ?_); (first | (refine q_ld (h := ?_))); (try simp only [Act.put]); (try simp only [List.setIfInBounds_toArray, List.set_cons_zero, List.set_cons_succ]); go_big_quiet_on) | (go_big_quiet_op; (first | go_big_quiet_on | ((refine ⟨_, fun _ _ => rfl, ?_⟩); go_big_quiet_on) | go_big_quiet_call (fail))))))); (refine wpQuiet_nil ?_); intro wv hO)
          go_wp2_with (first | ((with_reducible refine is_load ?_); (first | (refine own_ld (h := ?_)))) | ((with_reducible refine is_store ?_); (first | (refine own_stR (hO := hO) (h := ?_); clear hO; intro wv hO) | (refine own_st1 (hO := hO) (h := ?_); clear hO; intro wv hO))))
          (try simp only [Act.put]); (refine own_quiet hO (by kernel_rfl) (by kernel_rfl) ?_; clear hO; (repeat (first | go_big_quiet_skip | (go_big_quiet_want; (first | ((with_reducible refine is_loadQ ?_); (first | (refine q_ld (h := ?_))); (try simp only [Act.put]); (try simp only [List.setIfInBounds_toArray, List.set_cons_zero, List.set_cons_succ]); go_big_quiet_on) | (go_big_quiet_op; (first | go_big_quiet_on | ((refine ⟨_, fun _ _ => rfl, ?_⟩); go_big_quiet_on) | go_big_quiet_call (fail))))))); (refine wpQuiet_nil ?_); intro wv hO)
          go_wp2_with (first | ((with_reducible refine is_load ?_); (first | (refine own_ld (h := ?_)))) | ((with_reducible refine is_store ?_); (first | (refine own_stR (hO := hO) (h := ?_); clear hO; intro wv hO) | (refine own_st1 (hO := hO) (h := ?_); clear hO; intro wv hO))) | ((with_reducible refine is_alloc ?_); (first | (refine own_al (o := ⟨some 11, _, _, _, _, _⟩) (hO := hO) (h := ?_); clear hO; intro n11 wv hO))) | ((with_reducible refine is_build ?_); (first | (refine' own_build1 (o := ⟨some 71, _, _, _, _, _⟩) hO (by rfl) rfl rfl ?hu ?hf ?_; (case hu => (first | exact Tryd.underlying33 | exact und_Set)); (case hf => kernel_rfl); clear hO; intro n71 wv hO))) | ((with_reducible refine is_append ?_); (first | (refine own_ap (o := ⟨some 72, _, _, _, _, _⟩) (hO := hO) (h := ?_); clear hO; intro g72 c72 wv hO))))
          go_roundw
          case rel =>
            refine ⟨k + 1, by omega, by go_num, ?_⟩
            rw [HN.out, ← HS.out, if_neg (by omega), if_pos h2]
            (try simp only [hat] at hO)
            simp only [cellsB_append, List.length_append, List.length_cons, List.length_nil, List.nil_append, List.append_nil, Nat.zero_add, cellsB]
            exact hO.sub (.cons _ (.cons _ (.refl _))) (.refl _) (fun _ h => h)
          case measure => simp [intOf]; omega

        · have h1' : decide ((a.at k).lo < (x.at k).lo) = false := by simp; omega
          have h2' : decide ((x.at k).hi < (a.at k).hi) = false := by simp; omega
          go_wp2_with (first | ((with_reducible refine is_load ?_); (first | (refine own_ld (h := ?_)))) | ((with_reducible refine is_store ?_); (first | (refine own_stR (hO := hO) (h := ?_); clear hO; intro wv hO) | (refine own_st1 (hO := hO) (h := ?_); clear hO; intro wv hO))))
          (try simp only [Act.put]); (refine own_quiet hO (by kernel_rfl) (by kernel_rfl) ?_; clear hO; (repeat (first | go_big_quiet_skip | (go_big_quiet_want; (first | ((with_reducible refine is_loadQ ?_); (first | (refine q_ld (h := ?_))); (try simp only [Act.put]); (try simp only [List.setIfInBounds_toArray, List.set_cons_zero, List.set_cons_succ]); go_big_quiet_on) | (go_big_quiet_op; (first | go_big_quiet_on | ((refine ⟨_, fun _ _ => rfl, ?_⟩); go_big_quiet_on) | go_big_quiet_call (fail))))))); (refine wpQuiet_nil ?_); intro wv hO)
          go_wp2_with (first | ((with_reducible refine is_load ?_); (first | (refine own_ld (h := ?_)))) | ((with_reducible refine is_store ?_); (first | (refine own_stR (hO := hO) (h := ?_); clear hO; intro wv hO) | (refine own_st1 (hO := hO) (h := ?_); clear hO; intro wv hO))))
          (try simp only [Act.put]); (refine own_quiet hO (by kernel_rfl) (by kernel_rfl) ?_; clear hO; (repeat (first | go_big_quiet_skip | (go_big_quiet_want; (first | ((with_reducible refine is_loadQ ?_); (first | (refine q_ld (h := ?_))); (try simp only [Act.put]); (try simp only [List.setIfInBounds_toArray, List.set_cons_zero, List.set_cons_succ]); go_big_quiet_on) | (go_big_quiet_op; (first | go_big_quiet_on | ((refine ⟨_, fun _ _ => rfl, ?_⟩); go_big_quiet_on) | go_big_quiet_call (fail))))))); (refine wpQuiet_nil ?_); intro wv hO)
          go_wp2_with (first | ((with_reducible refine is_load ?_); (first | (refine own_ld (h := ?_)))) | ((with_reducible refine is_store ?_); (first | (refine own_stR (hO := hO) (h := ?_); clear hO; intro wv hO) | (refine own_st1 (hO := hO) (h := ?_); clear hO; intro wv hO))))
          go_roundw
          case rel =>
            refine ⟨k + 1, by omega, by go_num, ?_⟩
            rw [HN.out, ← HS.out, if_neg (by omega), if_neg (by omega)]
            (try simp only [hat] at hO)
            simp only [List.append_nil]
            exact hO.sub (.refl _) (.refl _) (fun _ h => h)
          case measure => simp [intOf]; omega

    · obtain rfl : k = 5 := by omega
      go_wp2_with (first | ((with_reducible refine is_load ?_); (first | (refine own_ld (h := ?_)))) | ((with_reducible refine is_store ?_); (first | (refine own_stR (hO := hO) (h := ?_); clear hO; intro wv hO) | (refine own_st1 (hO := hO) (h := ?_); clear hO; intro wv hO))))
      go_ret
      exact ⟨_, rfl, ⟨by rw [E.out]; exact own_boxes hO List.mem_cons_self, own_new hO List.mem_cons_self⟩, hO.keep.below⟩
end Go.Proofs.YtnhjcbmlplfpmaaDoor
