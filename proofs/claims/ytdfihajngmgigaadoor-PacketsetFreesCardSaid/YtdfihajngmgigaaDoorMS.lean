/- Package packetset (twelfth part): Union, Intersect, Subtract, Complement. -/
import Derived.Test.YtdfihajngmgigaaDoorMR
import Derived.Test.YtdfihajngmgigaaDoorMB
namespace Go.Proofs.YtdfihajngmgigaaDoor
open Go.RowKit
set_option maxRecDepth 100000
theorem okL_full : okL [fullBx] := fun b hb => by rw [List.mem_singleton.1 hb]; exact fullBx_ok
set_option maxHeartbeats 2000000 in
theorem psComplement_any {vl : Value} {l : List Bx} (w : World) (ht : Tops w) (hv : IsBoxes w vl l) (kl : okL l) (nl : l.length ≤ 1000000000000) :
    Calls Tryd.prog 24 #[vl] w (SetPost w (ofF exB [fullBx] l)) := by
  have hO := own_start [] w
  have hfull := full_any
  have h1 := fun v w ht hva hvb => of_any2 op_without (va := v) (vb := vl) (la := [fullBx]) (lb := l) w ht hva hvb okL_full kl (by simp) nl
  cases hr : ofF exB [fullBx] l with
  | none =>
    rw [hr] at h1
    generalize fullBx = bF at *
    go_enter Tryd.func24, Tryd.ntmps24
    go_wp2_with (first | ((with_reducible refine is_load ?_); refine own_ld (h := ?_)) | ((with_reducible refine is_store ?_); (first | refine own_stR (hO := hO) (h := ?_) | refine own_st1 (hO := hO) (h := ?_)); clear hO; intro wv hO) | ((with_reducible refine is_build ?_); (first | (refine' own_build1 (o := ⟨some 5, _, _, _, _, _⟩) hO (by rfl) rfl rfl ?hu ?hf ?_; (case hu => (first | exact Tryd.underlying29 | exact und_Set | exact und_Groups | exact und_Ranges)); (case hf => kernel_rfl); clear hO; intro n5 wv hO))) | (go_at_call 45; refine (hfull _ (hO.tops ht (by simp))).mono ?_; rintro e wv ⟨rfl, hb⟩; replace hO := hO.call hb; clear hb) | (go_at_call 59; (with_reducible refine (h1 _ _ (hO.tops ht (by simp)) (one_boxesC hO List.mem_cons_self) (hv.keep0 hO)).mono ?_); rintro e wv hpo; obtain ⟨rfl, hb9⟩ := hpo.no; replace hO := hO.call hb9; clear hb9 hpo))
    go_ret2
    exact ⟨.slice none 0 0, hO.keep.below, .inr ⟨rfl, rfl⟩⟩
  | some x =>
    rw [hr] at h1
    generalize fullBx = bF at *
    go_enter Tryd.func24, Tryd.ntmps24
    go_wp2_with (first | ((with_reducible refine is_load ?_); refine own_ld (h := ?_)) | ((with_reducible refine is_store ?_); (first | refine own_stR (hO := hO) (h := ?_) | refine own_st1 (hO := hO) (h := ?_)); clear hO; intro wv hO) | ((with_reducible refine is_build ?_); (first | (refine' own_build1 (o := ⟨some 5, _, _, _, _, _⟩) hO (by rfl) rfl rfl ?hu ?hf ?_; (case hu => (first | exact Tryd.underlying29 | exact und_Set | exact und_Groups | exact und_Ranges)); (case hf => kernel_rfl); clear hO; intro n5 wv hO))) | (go_at_call 45; refine (hfull _ (hO.tops ht (by simp))).mono ?_; rintro e wv ⟨rfl, hb⟩; replace hO := hO.call hb; clear hb) | (go_at_call 59; (with_reducible refine (h1 _ _ (hO.tops ht (by simp)) (one_boxesC hO List.mem_cons_self) (hv.keep0 hO)).mono ?_); rintro e wv hpo; obtain ⟨v3, rfl, hv9, hn9, hb9⟩ := hpo.yes; have hs9 := hO.keep.size; have hof := hv9.form; replace hO := hO.gainB hb9 hv9 hn9; clear hb9 hv9 hpo))
    go_ret2
    exact ⟨v3, hO.keep.below, .inl ⟨x, rfl, rfl, hO.isB hof (fun q hq => List.mem_append_left _ hq), fun g hg => Nat.le_trans hs9 (hn9 g hg)⟩⟩
end Go.Proofs.YtdfihajngmgigaaDoor

/- nsglaw4.sane; what Contains says of the operations' results. -/
namespace Go.Proofs.YtdfihajngmgigaaDoor
open Go.RowKit
set_option maxRecDepth 100000
def sanA : Bx := fullBx.set 4 ⟨0, 79⟩
def sanB : Bx := fullBx.set 4 ⟨80, 443⟩
def sanC : Bx := fullBx.set 4 ⟨0, 443⟩
theorem okL_san : okL [sanA, sanB] := fun b hb k hk => by
  rcases List.mem_cons.1 hb with rfl | hb
  · rcases five hk with rfl | rfl | rfl | rfl | rfl <;> decide
  · rw [List.mem_singleton.1 hb]
    rcases five hk with rfl | rfl | rfl | rfl | rfl <;> decide
theorem okL_sanC : okL [sanC] := fun b hb k hk => by
  rw [List.mem_singleton.1 hb]
  rcases five hk with rfl | rfl | rfl | rfl | rfl <;> decide
theorem make_san : makeF [sanA, sanB] = some [sanC] := by decide +kernel
theorem valid_san : validF [sanC] = true := by decide +kernel
theorem has_san : [sanC].any (hasH ⟨0, 0, 0, 0, 80⟩) = true := by decide +kernel
theorem two_boxesC {M : List Nat} {w0 w : World} {X : List Chunk} {R : List Row} {S : List Ro} (hO : Own M w0 X R S w) {n : Nat} {a b : Bx} {t : TypeId} (hm : (⟨n, flat [bv a, bv b], t⟩ : Chunk) ∈ X) : IsBoxes w (.slice (some ⟨n, 0, none⟩) 2 2) [a, b] :=
  own_boxesC hO (l := [a, b]) hm (by simp [flat, cellsB, Value.cells]) (by simp)
set_option maxHeartbeats 4000000 in
theorem sane4_any (w : World) (ht : Tops w) : Calls Tryd.prog 19 #[] w fun e w' => e = .returned (.bool true) ∧ Below w.heap.size w w' := by
  have hO := own_tops ht
  have ea : (bcs fullBx).set 9 (.int .u32 79) = bcs sanA := rfl
  have eb : putAt (bcs fullBx) 8 [.int .u32 80, .int .u32 443] = bcs sanB := rfl
  have ec : cellsB [sanC] = bcs sanC := by rw [cellsB_one]
  have c9 : (bcs sanC)[8 + 1]? = some (.int .u32 443) := rfl
  have c9' : (bcs sanC)[9]? = some (.int .u32 443) := rfl
  have h1 := fun v w ht hv => make_any (vl := v) (l := [sanA, sanB]) w ht hv okL_san (by simp)
  rw [make_san] at h1
  have h2 := fun v w ht hv => psContains_any (vl := v) (l := [sanC]) ⟨0, 0, 0, 0, 80⟩ w ht (by unfold Hd.ok; decide) hv (by simp)
  rw [has_san] at h2
  have h3 := fun v w ht hv => psValid_any (vl := v) (l := [sanC]) w ht hv okL_sanC (by simp)
  rw [valid_san] at h3
  have hfull := rfull_any
  generalize sanA = A at *
  generalize sanB = B at *
  go_enter Tryd.func19, Tryd.ntmps19
  go_upto_region 3 with (first | ((with_reducible refine is_load ?_); refine own_ld (h := ?_)) | ((with_reducible refine is_store ?_); (first | refine own_stR (hO := hO) (h := ?_) | refine own_st1 (hO := hO) (h := ?_)); clear hO; intro wv hO) | ((with_reducible refine is_alloc ?_); (first | (refine own_al (o := ⟨some 1, _, _, _, _, _⟩) (hO := hO) (h := ?_); clear hO; intro n1 wv hO) | (refine own_al (o := ⟨some 2, _, _, _, _, _⟩) (hO := hO) (h := ?_); clear hO; intro n2 wv hO))) | (go_at_call 39; refine (hfull _).mono ?_; rintro e wv ⟨rfl, hb⟩; replace hO := hO.call hb; clear hb))
  rw [ea, eb] at hO
  clear ea eb
  generalize fullBx = bF at *
  have h4 := initial_any
  have hi8 : iniL.length = 8 := rfl
  have hl1 : [sanC].length = 1 := rfl
  go_wp2_with (first | ((with_reducible refine is_load ?_); refine own_ld (h := ?_)) | ((with_reducible refine is_store ?_); (first | refine own_stR (hO := hO) (h := ?_) | refine own_st1 (hO := hO) (h := ?_)); clear hO; intro wv hO) | ((with_reducible refine is_alloc ?_); (first | (refine own_al (o := ⟨some 1, _, _, _, _, _⟩) (hO := hO) (h := ?_); clear hO; intro n1 wv hO) | (refine own_al (o := ⟨some 2, _, _, _, _, _⟩) (hO := hO) (h := ?_); clear hO; intro n2 wv hO))) | ((with_reducible refine is_build ?_); (refine' own_buildN (o := ⟨some 14, _, _, _, _, _⟩) [bv A, bv B] hO (by rfl) rfl slice_Boxes rfl rfl (by rfl) (by decide) (by decide) ?_); clear hO; intro n14 wv hO) | (go_at_call 30; (with_reducible refine (h1 _ _ (hO.tops ht (by simp)) (two_boxesC hO List.mem_cons_self)).mono ?_); rintro e wv hpo; obtain ⟨v3, rfl, hv9, hn9, hb9⟩ := hpo.yes; have hof := hv9.form; replace hO := hO.gainB hb9 hv9 hn9; clear hb9 hn9 hpo hv9 h1; obtain ⟨a9, c9b, rfl, ha9⟩ := hof.view; obtain ⟨g9, o9, rfl⟩ := ha9 (by simp); simp only [roS, List.cons_append, List.nil_append] at hO; have hvC := fun (wq : World) (S' : List Ro) (X' : List Chunk) (R' : List Row) (h : Own [] w X' R' (⟨g9, o9, cellsB [sanC]⟩ :: S') wq) => h.isB hof (fun q hq => List.mem_cons.2 (.inl (List.mem_singleton.1 hq))); rw [hl1, ec] at hvC; rw [ec] at hO; rw [hl1]) | (go_at_call 15; (with_reducible refine (h2 _ _ (hO.tops ht (by simp)) (hvC _ _ _ _ hO)).mono ?_); rintro e wv ⟨rfl, hb9⟩; replace hO := hO.call hb9; clear hb9) | (go_at_call 17; (with_reducible refine (h3 _ _ (hO.tops ht (by simp)) (hvC _ _ _ _ hO)).mono ?_); rintro e wv ⟨rfl, hb9⟩; replace hO := hO.call hb9; clear hb9) | (go_at_call 11; (with_reducible refine (h4 _ (hO.tops ht (by simp))).mono ?_); rintro e wv ⟨v8, rfl, hv8, hn8, hb8⟩; replace hO := hO.gainB hb8 hv8 hn8; have hf8 := hv8.form; clear hb8 hn8 hv8; obtain ⟨a8, c8, rfl, -⟩ := hf8.view; rw [hi8]))
  go_ret
  exact ⟨rfl, hO.keep.below⟩
theorem valF_id {l : List Bx} (h : vL l) : valF l = l := List.filter_eq_self.2 fun b hb => vld_of (h b hb)
/-- the error of a result -/
def ecd (r : Option (List Bx)) : Int := match r with
  | none => 3
  | some _ => 0
theorem SetPost.uni {w w' : World} {r : Option (List Bx)} {e : Ending} (h : SetPost w r e w') : ∃ v, e = .returned (.tuple #[v, .int .i64 (ecd r)]) ∧ IsBoxes w' v (r.getD []) ∧ NewFrom w v ∧ Below w.heap.size w w' := by
  obtain ⟨v, hb, ⟨l, rfl, h2, h3, h4⟩ | ⟨rfl, h2⟩⟩ := h
  · exact ⟨v, h2, h3, h4, hb⟩
  · exact ⟨_, h2, .inl ⟨rfl, rfl⟩, fun g hg => (by cases hg), hb⟩
end Go.Proofs.YtdfihajngmgigaaDoor
