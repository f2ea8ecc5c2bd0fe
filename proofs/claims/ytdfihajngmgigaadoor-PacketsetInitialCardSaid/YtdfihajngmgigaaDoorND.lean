/- Initial headers: the list of packetset.Initial against IsInitial. No program in sight. -/
import Derived.Deep.CutRange
import Derived.Deep.DeepCutAuto
import Derived.Test.YtdfihajngmgigaaDoorMS
import Derived.Test.YtdfihajngmgigaaDoorMR
import Derived.Test.YtdfihajngmgigaaDoorNC
import Derived.Test.YtdfihajngmgigaaDoorMV
import Derived.Test.YtdfihajngmgigaaDoorMB
namespace Go.Proofs.YtdfihajngmgigaaDoor
open Go.RowKit
set_option maxRecDepth 100000
def isIni (h : Hd) : Bool := if (h.proto == 6) = true then true else if (h.proto == 17) = true then true else if (h.proto == 1) = true then (if (h.dport == 8) = true then (h.sport != 8) else false) else if (h.sport == 0) = true then (h.dport == 0) else false
theorem ini_in {lo hi f t p e : Int} {h : Hd} (ho : h.ok) : inB 0 (iniBx lo hi f t p e) h.at ↔ (lo ≤ h.proto ∧ h.proto ≤ hi) ∧ (f ≤ h.sport ∧ h.sport ≤ t) ∧ p ≤ h.dport ∧ h.dport ≤ e := by
  constructor
  · intro H
    exact ⟨H 2 (by omega) (by omega), H 3 (by omega) (by omega), H 4 (by omega) (by omega)⟩
  · rintro ⟨h2, h3, h4⟩ k _ hk
    obtain ⟨a, b, _⟩ := ho
    rcases five hk with rfl | rfl | rfl | rfl | rfl
    · exact a
    · exact b
    · exact h2
    · exact h3
    · exact h4
theorem isIni_iff {h : Hd} : isIni h = true ↔ h.proto = 6 ∨ h.proto = 17 ∨ (h.proto = 1 ∧ h.dport = 8 ∧ h.sport ≠ 8) ∨ (h.proto ≠ 6 ∧ h.proto ≠ 17 ∧ h.proto ≠ 1 ∧ h.sport = 0 ∧ h.dport = 0) := by
  unfold isIni
  simp only [beq_iff_eq]
  split
  · rename_i h1; simp [h1]
  · split
    · rename_i h1 h2; simp [h2]
    · split
      · rename_i h1 h2 h3
        split
        · rename_i h4; simp [h3, h4]
        · rename_i h4; simp [h3, h4]
      · rename_i h1 h2 h3
        split
        · rename_i h4; simp [h1, h2, h3, h4]
        · rename_i h4; simp [h1, h2, h3, h4]
theorem val_ini : valF iniL = iniL := by decide +kernel
theorem valid_ini : validF iniL = true := by decide +kernel
theorem ini_has {h : Hd} (ho : h.ok) : iniL.any (hasH h) = isIni h := by
  rw [any_inq, val_ini, Bool.eq_iff_iff, inq_iff, isIni_iff]
  simp only [inL, iniL, List.mem_cons, List.not_mem_nil, or_false, exists_eq_or_imp, exists_eq_left, ini_in ho]
  obtain ⟨_, _, c, d, e⟩ := ho
  omega
/-- the header of an answer -/
def revHd (h : Hd) : Hd := ⟨h.dst, h.src, h.proto, h.dport, h.sport⟩
theorem revHd_ok {h : Hd} (ho : h.ok) : (revHd h).ok := ⟨ho.2.1, ho.1, ho.2.2.1, ho.2.2.2.2, ho.2.2.2.1⟩
theorem rev_not {h : Hd} (h1 : h.proto = 1) (h2 : isIni h = true) : isIni (revHd h) = false := by
  rw [Bool.eq_false_iff]
  intro h3
  rw [isIni_iff] at h2 h3
  simp only [revHd] at h3
  omega
theorem okL_ini : okL iniL := fun b hb k hk => by
  simp only [iniL, List.mem_cons, List.not_mem_nil, or_false] at hb
  rcases hb with rfl | rfl | rfl | rfl | rfl | rfl | rfl | rfl <;> (rcases five hk with rfl | rfl | rfl | rfl | rfl <;> decide)
/-! ### the boxes of the reference -/
def pr4 : List Rg := [⟨0, 0⟩, ⟨2, 5⟩, ⟨7, 16⟩, ⟨18, 255⟩]
def iniA (r : Rg) : Bx := ((fullBx.set 2 r).set 3 ⟨0, 0⟩).set 4 ⟨0, 0⟩
def iniT (p : Int) : Bx := fullBx.set 2 ⟨p, p⟩
def iniB : Bx := ((fullBx.set 2 ⟨1, 1⟩).set 4 ⟨8, 8⟩).set 3 ⟨0, 7⟩
def iniC : Bx := ((fullBx.set 2 ⟨1, 1⟩).set 4 ⟨8, 8⟩).set 3 ⟨9, 65535⟩
def iniR : List Bx := pr4.map iniA ++ ([6, 17].map iniT ++ [iniB, iniC])
theorem canon_ini : canonF orB 0 5 (valF iniR) [] = iniL := by decide +kernel
theorem okL_iniR : okL iniR := fun b hb k hk => by
  have hb' : b ∈ [iniA ⟨0, 0⟩, iniA ⟨2, 5⟩, iniA ⟨7, 16⟩, iniA ⟨18, 255⟩, iniT 6, iniT 17, iniB, iniC] := hb
  simp only [List.mem_cons, List.not_mem_nil, or_false] at hb'
  rcases hb' with rfl | rfl | rfl | rfl | rfl | rfl | rfl | rfl <;> (rcases five hk with rfl | rfl | rfl | rfl | rfl <;> decide)
end Go.Proofs.YtdfihajngmgigaaDoor

/- The reference of packet sets: Initial, IsInitial. -/
namespace Go.Proofs.YtdfihajngmgigaaDoor
open Go.RowKit
set_option maxRecDepth 100000
theorem risini_any (h : Hd) (w : World) : Calls Tryd.prog 16 #[hv h] w fun e w' => e = .returned (.bool (isIni h)) ∧ Below w.heap.size w w' := by
  have hO := own_start [] w
  go_enter Tryd.func16, Tryd.ntmps16
  (repeat' (first | go_skip | ((first | ((with_reducible apply wp_move_bool); (focus rfl)) | ((with_reducible apply wp_move_boolG); (focus rfl); (focus rfl))); intro cb hcb; (cases cb <;> (first | (with_reducible exact no_tf hcb) | (with_reducible exact no_ft hcb) | skip)); all_goals ((try simp only [Act.put]); (try simp only [List.setIfInBounds_toArray, List.set_cons_zero, List.set_cons_succ]))) | (go_big_may; (first | ((with_reducible refine is_load ?_); refine own_ld (h := ?_)) | ((with_reducible refine is_store ?_); (first | refine own_stR (hO := hO) (h := ?_) | refine own_st1 (hO := hO) (h := ?_)); clear hO; intro wv hO) | ((with_reducible refine is_box ?_); (first | (refine own_bx (o := ⟨some 1, _, _, _, _, _⟩) (hO := hO) (h := ?_); clear hO; intro n1 wv hO))))) | go_values | go_skip | go_guarded | go_step | go_upon | go_back | (simp only at *; go_simp) | (go_values <;> (try go_simp)) | (go_ite <;> go_prune <;> (try go_simp)) | (split <;> (first | (rename_i hx; exact (hx _ rfl).elim) | go_prune))))
  all_goals
    go_ret
    exact ⟨ret_bool (by clear hO; unfold isIni; simp only [*, if_true, Bool.false_eq_true, if_false]), hO.keep.below⟩
abbrev prV : List Value := [.agg #[.int .u32 0, .int .u32 0], .agg #[.int .u32 2, .int .u32 5], .agg #[.int .u32 7, .int .u32 16], .agg #[.int .u32 18, .int .u32 255]]
theorem pr4_at {k : Nat} (h : k < 4) : ∃ r : Rg, List.take ([.int .u32 r.lo, .int .u32 r.hi] : List Value).length (List.drop (k * 2) (flat prV)) = [.int .u32 r.lo, .int .u32 r.hi] ∧ (pr4.map iniA).take (k + 1) = (pr4.map iniA).take k ++ [iniA r] := by
  obtain rfl | rfl | rfl | rfl : k = 0 ∨ k = 1 ∨ k = 2 ∨ k = 3 := by omega
  · exact ⟨⟨0, 0⟩, rfl, rfl⟩
  · exact ⟨⟨2, 5⟩, rfl, rfl⟩
  · exact ⟨⟨7, 16⟩, rfl, rfl⟩
  · exact ⟨⟨18, 255⟩, rfl, rfl⟩
set_option maxHeartbeats 8000000 in
theorem rinitial_any (w : World) : Calls Tryd.prog 14 #[] w (RetBoxes w iniL) := by
  have hO := own_start [] w
  go_enter Tryd.func14, Tryd.ntmps14
  go_wp2_with (first | ((with_reducible refine is_load ?_); refine own_ld (h := ?_)) | ((with_reducible refine is_store ?_); (first | refine own_stR (hO := hO) (h := ?_) | refine own_st1 (hO := hO) (h := ?_)); clear hO; intro wv hO) | ((with_reducible refine is_alloc ?_); (first | (refine own_al (o := ⟨some 4, _, _, _, _, _⟩) (hO := hO) (h := ?_); clear hO; intro n4 wv hO) | (refine own_al (o := ⟨some 6, _, _, _, _, _⟩) (hO := hO) (h := ?_); clear hO; intro n6 wv hO) | (refine own_al (o := ⟨some 7, _, _, _, _, _⟩) (hO := hO) (h := ?_); clear hO; intro n7 wv hO) | (refine own_al (o := ⟨some 8, _, _, _, _, _⟩) (hO := hO) (h := ?_); clear hO; intro n8 wv hO))) | ((with_reducible refine is_build ?_); (first | (refine' own_build1 (o := ⟨some 32, _, _, _, _, _⟩) hO (by rfl) rfl rfl ?hu ?hf ?_; (case hu => (first | exact Tryd.underlying29 | exact und_Set | exact und_Groups | exact und_Ranges)); (case hf => kernel_rfl); clear hO; intro n32 wv hO) | (refine' own_build1 (o := ⟨some 45, _, _, _, _, _⟩) hO (by rfl) rfl rfl ?hu ?hf ?_; (case hu => (first | exact Tryd.underlying29 | exact und_Set | exact und_Groups | exact und_Ranges)); (case hf => kernel_rfl); clear hO; intro n45 wv hO))) | ((with_reducible refine is_append ?_); (first | (refine own_ap (o := ⟨some 33, _, _, _, _, _⟩) (hO := hO) (h := ?_); clear hO; intro g33 c33 wv hO) | (refine own_ap (o := ⟨some 46, _, _, _, _, _⟩) (hO := hO) (h := ?_); clear hO; intro g46 c46 wv hO) | (refine own_ap (o := ⟨some 61, _, _, _, _, _⟩) (hO := hO) (h := ?_); clear hO; intro g61 c61 wv hO))) | ((with_reducible refine is_build ?_); (refine' own_buildN (o := ⟨some 13, _, _, _, _, _⟩) [.agg #[.int .u32 0, .int .u32 0], .agg #[.int .u32 2, .int .u32 5], .agg #[.int .u32 7, .int .u32 16], .agg #[.int .u32 18, .int .u32 255]] hO (by rfl) rfl slice_Ranges rfl rfl (by rfl) (by decide) (by decide) ?_); clear hO; intro n13 wv hO))
  replace hO := hO.nilRow 66 10
  go_loopw [1, 3] (fun vl qi wr => ∃ k : Nat, k ≤ 4 ∧ qi = .int .i64 k ∧ Own [] w [⟨n13, flat prV, 64⟩] [⟨vl, k, cellsB ((pr4.map iniA).take k), 66, 10⟩] [] wr) (fun _ qi _ => 4 - (intOf qi).toNat)
  case atStart => exact ⟨0, by omega, rfl, hO⟩
  case round =>
    clear hO
    obtain ⟨k, hk, rfl, hO⟩ := hrel
    by_cases hlt : k < 4
    · obtain ⟨r, t1, hU⟩ := pr4_at hlt
      have HU := Lib.hid hU
      clear hU
      have y1 : (0 : Int) ≤ (k : Int) := by omega
      have y2 : (k : Int) < 4 := by omega
      have ea : putAt (putAt (putAt (bcs fullBx) 4 [.int .u32 r.lo, .int .u32 r.hi]) 6 [.int .u32 0, .int .u32 0]) 8 [.int .u32 0, .int .u32 0] = bcs (iniA r) := rfl
      have EA := Lib.hid ea
      clear ea
      have hfull := rfull_any
      generalize (pr4.map iniA).take k = m at *
      go_upto_region 8 with (first | ((with_reducible refine is_load ?_); refine own_ld (h := ?_)) | ((with_reducible refine is_store ?_); (first | refine own_stR (hO := hO) (h := ?_) | refine own_st1 (hO := hO) (h := ?_)); clear hO; intro wv hO) | ((with_reducible refine is_alloc ?_); (first | (refine own_al (o := ⟨some 4, _, _, _, _, _⟩) (hO := hO) (h := ?_); clear hO; intro n4 wv hO) | (refine own_al (o := ⟨some 6, _, _, _, _, _⟩) (hO := hO) (h := ?_); clear hO; intro n6 wv hO) | (refine own_al (o := ⟨some 7, _, _, _, _, _⟩) (hO := hO) (h := ?_); clear hO; intro n7 wv hO) | (refine own_al (o := ⟨some 8, _, _, _, _, _⟩) (hO := hO) (h := ?_); clear hO; intro n8 wv hO))) | ((with_reducible refine is_build ?_); (first | (refine' own_build1 (o := ⟨some 32, _, _, _, _, _⟩) hO (by rfl) rfl rfl ?hu ?hf ?_; (case hu => (first | exact Tryd.underlying29 | exact und_Set | exact und_Groups | exact und_Ranges)); (case hf => kernel_rfl); clear hO; intro n32 wv hO) | (refine' own_build1 (o := ⟨some 45, _, _, _, _, _⟩) hO (by rfl) rfl rfl ?hu ?hf ?_; (case hu => (first | exact Tryd.underlying29 | exact und_Set | exact und_Groups | exact und_Ranges)); (case hf => kernel_rfl); clear hO; intro n45 wv hO))) | ((with_reducible refine is_append ?_); (first | (refine own_ap (o := ⟨some 33, _, _, _, _, _⟩) (hO := hO) (h := ?_); clear hO; intro g33 c33 wv hO) | (refine own_ap (o := ⟨some 46, _, _, _, _, _⟩) (hO := hO) (h := ?_); clear hO; intro g46 c46 wv hO) | (refine own_ap (o := ⟨some 61, _, _, _, _, _⟩) (hO := hO) (h := ?_); clear hO; intro g61 c61 wv hO))) | (go_at_call 39; refine (hfull _).mono ?_; rintro e wv ⟨rfl, hb⟩; replace hO := hO.call hb; clear hb))
      rw [EA.out] at hO
      generalize iniA r = bA at *
      clear EA t1
      go_wp2_with (first | ((with_reducible refine is_load ?_); refine own_ld (h := ?_)) | ((with_reducible refine is_store ?_); (first | refine own_stR (hO := hO) (h := ?_) | refine own_st1 (hO := hO) (h := ?_)); clear hO; intro wv hO) | ((with_reducible refine is_alloc ?_); (first | (refine own_al (o := ⟨some 4, _, _, _, _, _⟩) (hO := hO) (h := ?_); clear hO; intro n4 wv hO) | (refine own_al (o := ⟨some 6, _, _, _, _, _⟩) (hO := hO) (h := ?_); clear hO; intro n6 wv hO) | (refine own_al (o := ⟨some 7, _, _, _, _, _⟩) (hO := hO) (h := ?_); clear hO; intro n7 wv hO) | (refine own_al (o := ⟨some 8, _, _, _, _, _⟩) (hO := hO) (h := ?_); clear hO; intro n8 wv hO))) | ((with_reducible refine is_build ?_); (first | (refine' own_build1 (o := ⟨some 32, _, _, _, _, _⟩) hO (by rfl) rfl rfl ?hu ?hf ?_; (case hu => (first | exact Tryd.underlying29 | exact und_Set | exact und_Groups | exact und_Ranges)); (case hf => kernel_rfl); clear hO; intro n32 wv hO) | (refine' own_build1 (o := ⟨some 45, _, _, _, _, _⟩) hO (by rfl) rfl rfl ?hu ?hf ?_; (case hu => (first | exact Tryd.underlying29 | exact und_Set | exact und_Groups | exact und_Ranges)); (case hf => kernel_rfl); clear hO; intro n45 wv hO))) | ((with_reducible refine is_append ?_); (first | (refine own_ap (o := ⟨some 33, _, _, _, _, _⟩) (hO := hO) (h := ?_); clear hO; intro g33 c33 wv hO) | (refine own_ap (o := ⟨some 46, _, _, _, _, _⟩) (hO := hO) (h := ?_); clear hO; intro g46 c46 wv hO) | (refine own_ap (o := ⟨some 61, _, _, _, _, _⟩) (hO := hO) (h := ?_); clear hO; intro g61 c61 wv hO))))
      go_roundw
      case rel =>
        refine ⟨k + 1, by omega, by go_num, ?_⟩
        rw [HU.out, cellsB_append, cellsB_one]
        exact hO.sub (.cons _ (.cons _ (.refl _))) (.refl _) (fun _ h => h)
      case measure => simp [intOf]; omega
    · obtain rfl : k = 4 := by omega
      have e4 : (pr4.map iniA).take 4 = pr4.map iniA := rfl
      rw [e4] at hO
      clear e4
      rw [show ((4 : Nat) : Int) = (4 : Int) from rfl]
      go_wp2_with (first | ((with_reducible refine is_load ?_); refine own_ld (h := ?_)) | ((with_reducible refine is_store ?_); (first | refine own_stR (hO := hO) (h := ?_) | refine own_st1 (hO := hO) (h := ?_)); clear hO; intro wv hO) | ((with_reducible refine is_alloc ?_); (first | (refine own_al (o := ⟨some 4, _, _, _, _, _⟩) (hO := hO) (h := ?_); clear hO; intro n4 wv hO) | (refine own_al (o := ⟨some 6, _, _, _, _, _⟩) (hO := hO) (h := ?_); clear hO; intro n6 wv hO) | (refine own_al (o := ⟨some 7, _, _, _, _, _⟩) (hO := hO) (h := ?_); clear hO; intro n7 wv hO) | (refine own_al (o := ⟨some 8, _, _, _, _, _⟩) (hO := hO) (h := ?_); clear hO; intro n8 wv hO))) | ((with_reducible refine is_build ?_); (first | (refine' own_build1 (o := ⟨some 32, _, _, _, _, _⟩) hO (by rfl) rfl rfl ?hu ?hf ?_; (case hu => (first | exact Tryd.underlying29 | exact und_Set | exact und_Groups | exact und_Ranges)); (case hf => kernel_rfl); clear hO; intro n32 wv hO) | (refine' own_build1 (o := ⟨some 45, _, _, _, _, _⟩) hO (by rfl) rfl rfl ?hu ?hf ?_; (case hu => (first | exact Tryd.underlying29 | exact und_Set | exact und_Groups | exact und_Ranges)); (case hf => kernel_rfl); clear hO; intro n45 wv hO))) | ((with_reducible refine is_append ?_); (first | (refine own_ap (o := ⟨some 33, _, _, _, _, _⟩) (hO := hO) (h := ?_); clear hO; intro g33 c33 wv hO) | (refine own_ap (o := ⟨some 46, _, _, _, _, _⟩) (hO := hO) (h := ?_); clear hO; intro g46 c46 wv hO) | (refine own_ap (o := ⟨some 61, _, _, _, _, _⟩) (hO := hO) (h := ?_); clear hO; intro g61 c61 wv hO))))
      go_loopw [1, 5] (fun vl q5 wr => ∃ (j : Nat) (p : Int), j ≤ 2 ∧ p = 6 + 11 * (j : Int) ∧ q5 = .int .u32 p ∧ Own [] w [⟨n13, flat prV, 64⟩] [⟨vl, 4 + j, cellsB (pr4.map iniA ++ ([6, 17].map iniT).take j), 66, 10⟩] [] wr) (fun _ q5 _ => 28 - (intOf q5).toNat)
      case atStart => exact ⟨0, 6, by omega, by omega, rfl, hO⟩
      case round =>
        clear hO
        obtain ⟨j, p, hj, hp, rfl, hO⟩ := hrel
        have hfull := rfull_any
        have q1 : IntKind.u32.wrap (6 + 11) = 17 := by decide
        have q2 : IntKind.u32.wrap (17 + 11) = 28 := by decide
        obtain rfl | rfl | rfl : j = 0 ∨ j = 1 ∨ j = 2 := by omega
        · obtain rfl : p = 6 := by omega
          clear hp
          have ea : putAt (bcs fullBx) 4 [.int .u32 6, .int .u32 6] = bcs (iniT 6) := rfl
          have e2 : pr4.map iniA ++ ([6, 17].map iniT).take (0 + 1) = (pr4.map iniA ++ ([6, 17].map iniT).take 0) ++ [iniT 6] := rfl
          have EA := Lib.hid ea
          have E2 := Lib.hid e2
          clear ea e2
          generalize pr4.map iniA ++ ([6, 17].map iniT).take 0 = m at *
          go_upto_region 14 with (first | ((with_reducible refine is_load ?_); refine own_ld (h := ?_)) | ((with_reducible refine is_store ?_); (first | refine own_stR (hO := hO) (h := ?_) | refine own_st1 (hO := hO) (h := ?_)); clear hO; intro wv hO) | ((with_reducible refine is_alloc ?_); (first | (refine own_al (o := ⟨some 4, _, _, _, _, _⟩) (hO := hO) (h := ?_); clear hO; intro n4 wv hO) | (refine own_al (o := ⟨some 6, _, _, _, _, _⟩) (hO := hO) (h := ?_); clear hO; intro n6 wv hO) | (refine own_al (o := ⟨some 7, _, _, _, _, _⟩) (hO := hO) (h := ?_); clear hO; intro n7 wv hO) | (refine own_al (o := ⟨some 8, _, _, _, _, _⟩) (hO := hO) (h := ?_); clear hO; intro n8 wv hO))) | ((with_reducible refine is_build ?_); (first | (refine' own_build1 (o := ⟨some 32, _, _, _, _, _⟩) hO (by rfl) rfl rfl ?hu ?hf ?_; (case hu => (first | exact Tryd.underlying29 | exact und_Set | exact und_Groups | exact und_Ranges)); (case hf => kernel_rfl); clear hO; intro n32 wv hO) | (refine' own_build1 (o := ⟨some 45, _, _, _, _, _⟩) hO (by rfl) rfl rfl ?hu ?hf ?_; (case hu => (first | exact Tryd.underlying29 | exact und_Set | exact und_Groups | exact und_Ranges)); (case hf => kernel_rfl); clear hO; intro n45 wv hO))) | ((with_reducible refine is_append ?_); (first | (refine own_ap (o := ⟨some 33, _, _, _, _, _⟩) (hO := hO) (h := ?_); clear hO; intro g33 c33 wv hO) | (refine own_ap (o := ⟨some 46, _, _, _, _, _⟩) (hO := hO) (h := ?_); clear hO; intro g46 c46 wv hO) | (refine own_ap (o := ⟨some 61, _, _, _, _, _⟩) (hO := hO) (h := ?_); clear hO; intro g61 c61 wv hO))) | (go_at_call 39; refine (hfull _).mono ?_; rintro e wv ⟨rfl, hb⟩; replace hO := hO.call hb; clear hb))
          rw [EA.out] at hO
          generalize iniT 6 = bA at *
          clear EA
          go_wp2_with (first | ((with_reducible refine is_load ?_); refine own_ld (h := ?_)) | ((with_reducible refine is_store ?_); (first | refine own_stR (hO := hO) (h := ?_) | refine own_st1 (hO := hO) (h := ?_)); clear hO; intro wv hO) | ((with_reducible refine is_alloc ?_); (first | (refine own_al (o := ⟨some 4, _, _, _, _, _⟩) (hO := hO) (h := ?_); clear hO; intro n4 wv hO) | (refine own_al (o := ⟨some 6, _, _, _, _, _⟩) (hO := hO) (h := ?_); clear hO; intro n6 wv hO) | (refine own_al (o := ⟨some 7, _, _, _, _, _⟩) (hO := hO) (h := ?_); clear hO; intro n7 wv hO) | (refine own_al (o := ⟨some 8, _, _, _, _, _⟩) (hO := hO) (h := ?_); clear hO; intro n8 wv hO))) | ((with_reducible refine is_build ?_); (first | (refine' own_build1 (o := ⟨some 32, _, _, _, _, _⟩) hO (by rfl) rfl rfl ?hu ?hf ?_; (case hu => (first | exact Tryd.underlying29 | exact und_Set | exact und_Groups | exact und_Ranges)); (case hf => kernel_rfl); clear hO; intro n32 wv hO) | (refine' own_build1 (o := ⟨some 45, _, _, _, _, _⟩) hO (by rfl) rfl rfl ?hu ?hf ?_; (case hu => (first | exact Tryd.underlying29 | exact und_Set | exact und_Groups | exact und_Ranges)); (case hf => kernel_rfl); clear hO; intro n45 wv hO))) | ((with_reducible refine is_append ?_); (first | (refine own_ap (o := ⟨some 33, _, _, _, _, _⟩) (hO := hO) (h := ?_); clear hO; intro g33 c33 wv hO) | (refine own_ap (o := ⟨some 46, _, _, _, _, _⟩) (hO := hO) (h := ?_); clear hO; intro g46 c46 wv hO) | (refine own_ap (o := ⟨some 61, _, _, _, _, _⟩) (hO := hO) (h := ?_); clear hO; intro g61 c61 wv hO))))
          go_roundw
          case rel =>
            refine ⟨1, 17, by omega, by omega, by go_num, ?_⟩
            rw [E2.out, cellsB_append, cellsB_one]
            exact hO.sub (.cons _ (.cons _ (.refl _))) (.refl _) (fun _ h => h)
          case measure => simp [intOf]
        · obtain rfl : p = 17 := by omega
          clear hp
          have ea : putAt (bcs fullBx) 4 [.int .u32 17, .int .u32 17] = bcs (iniT 17) := rfl
          have e2 : pr4.map iniA ++ ([6, 17].map iniT).take (1 + 1) = (pr4.map iniA ++ ([6, 17].map iniT).take 1) ++ [iniT 17] := rfl
          have EA := Lib.hid ea
          have E2 := Lib.hid e2
          clear ea e2
          generalize pr4.map iniA ++ ([6, 17].map iniT).take 1 = m at *
          go_upto_region 14 with (first | ((with_reducible refine is_load ?_); refine own_ld (h := ?_)) | ((with_reducible refine is_store ?_); (first | refine own_stR (hO := hO) (h := ?_) | refine own_st1 (hO := hO) (h := ?_)); clear hO; intro wv hO) | ((with_reducible refine is_alloc ?_); (first | (refine own_al (o := ⟨some 4, _, _, _, _, _⟩) (hO := hO) (h := ?_); clear hO; intro n4 wv hO) | (refine own_al (o := ⟨some 6, _, _, _, _, _⟩) (hO := hO) (h := ?_); clear hO; intro n6 wv hO) | (refine own_al (o := ⟨some 7, _, _, _, _, _⟩) (hO := hO) (h := ?_); clear hO; intro n7 wv hO) | (refine own_al (o := ⟨some 8, _, _, _, _, _⟩) (hO := hO) (h := ?_); clear hO; intro n8 wv hO))) | ((with_reducible refine is_build ?_); (first | (refine' own_build1 (o := ⟨some 32, _, _, _, _, _⟩) hO (by rfl) rfl rfl ?hu ?hf ?_; (case hu => (first | exact Tryd.underlying29 | exact und_Set | exact und_Groups | exact und_Ranges)); (case hf => kernel_rfl); clear hO; intro n32 wv hO) | (refine' own_build1 (o := ⟨some 45, _, _, _, _, _⟩) hO (by rfl) rfl rfl ?hu ?hf ?_; (case hu => (first | exact Tryd.underlying29 | exact und_Set | exact und_Groups | exact und_Ranges)); (case hf => kernel_rfl); clear hO; intro n45 wv hO))) | ((with_reducible refine is_append ?_); (first | (refine own_ap (o := ⟨some 33, _, _, _, _, _⟩) (hO := hO) (h := ?_); clear hO; intro g33 c33 wv hO) | (refine own_ap (o := ⟨some 46, _, _, _, _, _⟩) (hO := hO) (h := ?_); clear hO; intro g46 c46 wv hO) | (refine own_ap (o := ⟨some 61, _, _, _, _, _⟩) (hO := hO) (h := ?_); clear hO; intro g61 c61 wv hO))) | (go_at_call 39; refine (hfull _).mono ?_; rintro e wv ⟨rfl, hb⟩; replace hO := hO.call hb; clear hb))
          rw [EA.out] at hO
          generalize iniT 17 = bA at *
          clear EA
          go_wp2_with (first | ((with_reducible refine is_load ?_); refine own_ld (h := ?_)) | ((with_reducible refine is_store ?_); (first | refine own_stR (hO := hO) (h := ?_) | refine own_st1 (hO := hO) (h := ?_)); clear hO; intro wv hO) | ((with_reducible refine is_alloc ?_); (first | (refine own_al (o := ⟨some 4, _, _, _, _, _⟩) (hO := hO) (h := ?_); clear hO; intro n4 wv hO) | (refine own_al (o := ⟨some 6, _, _, _, _, _⟩) (hO := hO) (h := ?_); clear hO; intro n6 wv hO) | (refine own_al (o := ⟨some 7, _, _, _, _, _⟩) (hO := hO) (h := ?_); clear hO; intro n7 wv hO) | (refine own_al (o := ⟨some 8, _, _, _, _, _⟩) (hO := hO) (h := ?_); clear hO; intro n8 wv hO))) | ((with_reducible refine is_build ?_); (first | (refine' own_build1 (o := ⟨some 32, _, _, _, _, _⟩) hO (by rfl) rfl rfl ?hu ?hf ?_; (case hu => (first | exact Tryd.underlying29 | exact und_Set | exact und_Groups | exact und_Ranges)); (case hf => kernel_rfl); clear hO; intro n32 wv hO) | (refine' own_build1 (o := ⟨some 45, _, _, _, _, _⟩) hO (by rfl) rfl rfl ?hu ?hf ?_; (case hu => (first | exact Tryd.underlying29 | exact und_Set | exact und_Groups | exact und_Ranges)); (case hf => kernel_rfl); clear hO; intro n45 wv hO))) | ((with_reducible refine is_append ?_); (first | (refine own_ap (o := ⟨some 33, _, _, _, _, _⟩) (hO := hO) (h := ?_); clear hO; intro g33 c33 wv hO) | (refine own_ap (o := ⟨some 46, _, _, _, _, _⟩) (hO := hO) (h := ?_); clear hO; intro g46 c46 wv hO) | (refine own_ap (o := ⟨some 61, _, _, _, _, _⟩) (hO := hO) (h := ?_); clear hO; intro g61 c61 wv hO))))
          go_roundw
          case rel =>
            refine ⟨2, 28, by omega, by omega, by go_num, ?_⟩
            rw [E2.out, cellsB_append, cellsB_one]
            exact hO.sub (.cons _ (.cons _ (.refl _))) (.refl _) (fun _ h => h)
          case measure => simp [intOf]
        · obtain rfl : p = 28 := by omega
          clear hp
          have hcan : ∀ v w, IsBoxes w v iniR → Calls Tryd.prog 50 #[v] w (RetBoxes w iniL) := fun v w hv => by
            have := rcanon_any w hv okL_iniR (by decide)
            rwa [canon_ini] at this
          have ea : putAt (putAt (bcs fullBx) 4 [.int .u32 1, .int .u32 1]) 8 [.int .u32 8, .int .u32 8] = bcs ((fullBx.set 2 ⟨1, 1⟩).set 4 ⟨8, 8⟩) := rfl
          have eb : (bcs ((fullBx.set 2 ⟨1, 1⟩).set 4 ⟨8, 8⟩)).set 7 (.int .u32 7) = bcs iniB := rfl
          have ec : (bcs ((fullBx.set 2 ⟨1, 1⟩).set 4 ⟨8, 8⟩)).set 6 (.int .u32 9) = bcs iniC := rfl
          have eR : cellsB (pr4.map iniA ++ ([6, 17].map iniT).take 2) ++ flat [bv iniB, bv iniC] = cellsB iniR := by
            have : flat [bv iniB, bv iniC] = cellsB [iniB, iniC] := by simp [flat, cellsB, Value.cells]
            rw [this, ← cellsB_append, List.append_assoc]; rfl
          have EA := Lib.hid ea
          have EB := Lib.hid eb
          have EC := Lib.hid ec
          have ER := Lib.hid eR
          clear ea eb ec eR
          generalize pr4.map iniA ++ ([6, 17].map iniT).take 2 = m at *
          go_upto_region 17 with (first | ((with_reducible refine is_load ?_); refine own_ld (h := ?_)) | ((with_reducible refine is_store ?_); (first | refine own_stR (hO := hO) (h := ?_) | refine own_st1 (hO := hO) (h := ?_)); clear hO; intro wv hO) | ((with_reducible refine is_alloc ?_); (first | (refine own_al (o := ⟨some 4, _, _, _, _, _⟩) (hO := hO) (h := ?_); clear hO; intro n4 wv hO) | (refine own_al (o := ⟨some 6, _, _, _, _, _⟩) (hO := hO) (h := ?_); clear hO; intro n6 wv hO) | (refine own_al (o := ⟨some 7, _, _, _, _, _⟩) (hO := hO) (h := ?_); clear hO; intro n7 wv hO) | (refine own_al (o := ⟨some 8, _, _, _, _, _⟩) (hO := hO) (h := ?_); clear hO; intro n8 wv hO))) | ((with_reducible refine is_build ?_); (first | (refine' own_build1 (o := ⟨some 32, _, _, _, _, _⟩) hO (by rfl) rfl rfl ?hu ?hf ?_; (case hu => (first | exact Tryd.underlying29 | exact und_Set | exact und_Groups | exact und_Ranges)); (case hf => kernel_rfl); clear hO; intro n32 wv hO) | (refine' own_build1 (o := ⟨some 45, _, _, _, _, _⟩) hO (by rfl) rfl rfl ?hu ?hf ?_; (case hu => (first | exact Tryd.underlying29 | exact und_Set | exact und_Groups | exact und_Ranges)); (case hf => kernel_rfl); clear hO; intro n45 wv hO))) | ((with_reducible refine is_append ?_); (first | (refine own_ap (o := ⟨some 33, _, _, _, _, _⟩) (hO := hO) (h := ?_); clear hO; intro g33 c33 wv hO) | (refine own_ap (o := ⟨some 46, _, _, _, _, _⟩) (hO := hO) (h := ?_); clear hO; intro g46 c46 wv hO) | (refine own_ap (o := ⟨some 61, _, _, _, _, _⟩) (hO := hO) (h := ?_); clear hO; intro g61 c61 wv hO))) | (go_at_call 39; refine (hfull _).mono ?_; rintro e wv ⟨rfl, hb⟩; replace hO := hO.call hb; clear hb))
          rw [EA.out] at hO
          clear EA
          generalize (fullBx.set 2 ⟨1, 1⟩).set 4 ⟨8, 8⟩ = bD at *
          go_upto_region 19 with (first | ((with_reducible refine is_load ?_); refine own_ld (h := ?_)) | ((with_reducible refine is_store ?_); (first | refine own_stR (hO := hO) (h := ?_) | refine own_st1 (hO := hO) (h := ?_)); clear hO; intro wv hO) | ((with_reducible refine is_alloc ?_); (first | (refine own_al (o := ⟨some 4, _, _, _, _, _⟩) (hO := hO) (h := ?_); clear hO; intro n4 wv hO) | (refine own_al (o := ⟨some 6, _, _, _, _, _⟩) (hO := hO) (h := ?_); clear hO; intro n6 wv hO) | (refine own_al (o := ⟨some 7, _, _, _, _, _⟩) (hO := hO) (h := ?_); clear hO; intro n7 wv hO) | (refine own_al (o := ⟨some 8, _, _, _, _, _⟩) (hO := hO) (h := ?_); clear hO; intro n8 wv hO))) | ((with_reducible refine is_build ?_); (first | (refine' own_build1 (o := ⟨some 32, _, _, _, _, _⟩) hO (by rfl) rfl rfl ?hu ?hf ?_; (case hu => (first | exact Tryd.underlying29 | exact und_Set | exact und_Groups | exact und_Ranges)); (case hf => kernel_rfl); clear hO; intro n32 wv hO) | (refine' own_build1 (o := ⟨some 45, _, _, _, _, _⟩) hO (by rfl) rfl rfl ?hu ?hf ?_; (case hu => (first | exact Tryd.underlying29 | exact und_Set | exact und_Groups | exact und_Ranges)); (case hf => kernel_rfl); clear hO; intro n45 wv hO))) | ((with_reducible refine is_append ?_); (first | (refine own_ap (o := ⟨some 33, _, _, _, _, _⟩) (hO := hO) (h := ?_); clear hO; intro g33 c33 wv hO) | (refine own_ap (o := ⟨some 46, _, _, _, _, _⟩) (hO := hO) (h := ?_); clear hO; intro g46 c46 wv hO) | (refine own_ap (o := ⟨some 61, _, _, _, _, _⟩) (hO := hO) (h := ?_); clear hO; intro g61 c61 wv hO))))
          rw [EB.out, EC.out] at hO
          clear EB EC
          generalize iniB = bB at *
          generalize iniC = bC at *
          trace_state
          go_wp2_with (first | ((with_reducible refine is_load ?_); refine own_ld (h := ?_)) | ((with_reducible refine is_store ?_); (first | refine own_stR (hO := hO) (h := ?_) | refine own_st1 (hO := hO) (h := ?_)); clear hO; intro wv hO) | ((with_reducible refine is_alloc ?_); (first | (refine own_al (o := ⟨some 4, _, _, _, _, _⟩) (hO := hO) (h := ?_); clear hO; intro n4 wv hO) | (refine own_al (o := ⟨some 6, _, _, _, _, _⟩) (hO := hO) (h := ?_); clear hO; intro n6 wv hO) | (refine own_al (o := ⟨some 7, _, _, _, _, _⟩) (hO := hO) (h := ?_); clear hO; intro n7 wv hO) | (refine own_al (o := ⟨some 8, _, _, _, _, _⟩) (hO := hO) (h := ?_); clear hO; intro n8 wv hO))) | ((with_reducible refine is_build ?_); (first | (refine' own_build1 (o := ⟨some 32, _, _, _, _, _⟩) hO (by rfl) rfl rfl ?hu ?hf ?_; (case hu => (first | exact Tryd.underlying29 | exact und_Set | exact und_Groups | exact und_Ranges)); (case hf => kernel_rfl); clear hO; intro n32 wv hO) | (refine' own_build1 (o := ⟨some 45, _, _, _, _, _⟩) hO (by rfl) rfl rfl ?hu ?hf ?_; (case hu => (first | exact Tryd.underlying29 | exact und_Set | exact und_Groups | exact und_Ranges)); (case hf => kernel_rfl); clear hO; intro n45 wv hO))) | ((with_reducible refine is_append ?_); (first | (refine own_ap (o := ⟨some 33, _, _, _, _, _⟩) (hO := hO) (h := ?_); clear hO; intro g33 c33 wv hO) | (refine own_ap (o := ⟨some 46, _, _, _, _, _⟩) (hO := hO) (h := ?_); clear hO; intro g46 c46 wv hO) | (refine own_ap (o := ⟨some 61, _, _, _, _, _⟩) (hO := hO) (h := ?_); clear hO; intro g61 c61 wv hO))) | ((with_reducible refine is_build ?_); (refine' own_buildN (o := ⟨some 60, _, _, _, _, _⟩) [bv bB, bv bC] hO (by rfl) rfl slice_Boxes rfl rfl (by rfl) (by decide) (by decide) ?_); clear hO; intro n60 wv hO) | (go_at_call 50; (with_reducible refine (hcan _ _ (own_boxesE hO List.mem_cons_self ER.out)).mono ?_); rintro e wv ⟨v3, rfl, ⟨hv9, hn9⟩, hb9⟩; have hf3 := hv9.form; have hs9 := hO.keep.size; replace hO := hO.gainB hb9 hv9 hn9; clear hb9 hv9))
          go_ret
          exact ⟨v3, rfl, ⟨hO.isB hf3 (fun q hq => List.mem_append_left _ hq), fun g hg => Nat.le_trans hs9 (hn9 g hg)⟩, hO.keep.below⟩
end Go.Proofs.YtdfihajngmgigaaDoor

/- PacketsetInitial: the walk. -/
namespace Go.Proofs.YtdfihajngmgigaaDoor
open Go.RowKit
set_option maxRecDepth 100000
theorem slice_Hds4 : SliceT Tryd.prog 34 26 5 16 := ⟨Tryd.underlying34, by omega, by
  obtain ⟨i, h1, h2, h3, h4⟩ := info_parts (show (Tryd.prog.info? 26).map (fun i => (i.zero, i.size, i.bytes)) = some (some (hv ⟨0, 0, 0, 0, 0⟩), 5, 16) by kernel_rfl)
  exact ⟨i, _, h1, h2, h3, h4, rfl⟩⟩
/-- four headers, one behind the other -/
def h4cs (h h1 h2 h3 : Hd) : List Value := hcs h ++ (hcs h1 ++ (hcs h2 ++ (hcs h3 ++ [])))
theorem h4_at {h h1 h2 h3 : Hd} (k : h.ok) (k1 : h1.ok) (k2 : h2.ok) (k3 : h3.ok) {i : Nat} (hi : i < 4) : ∃ x : Hd, x.ok ∧ List.take (hcs x).length (List.drop (i * 5) (h4cs h h1 h2 h3)) = hcs x := by
  obtain rfl | rfl | rfl | rfl : i = 0 ∨ i = 1 ∨ i = 2 ∨ i = 3 := by omega
  · exact ⟨h, k, rfl⟩
  · exact ⟨h1, k1, rfl⟩
  · exact ⟨h2, k2, rfl⟩
  · exact ⟨h3, k3, rfl⟩
set_option maxHeartbeats 32000000 in
theorem psinitial_law (sl : Value) (zs : List Int) (h : Hd) (w : World) (ht : Tops w) (hZ : ZsOk sl zs) (hr : ∀ s ∈ roS sl (ints zs), w.rangeAt s.g s.o s.xs) (ho : h.ok) :
    Calls Tryd.prog 3 #[sl, hv h] w fun e w' => e = .returned (.bool true) ∧ Below w.heap.size w w' := by
  have hO := own_law hr
  clear hr
  obtain ⟨sa, sc, rfl, -⟩ := hZ.view
  have kI : ∀ b ∈ iniL, b.ok := okL_ini
  have hval : ∀ v w, Tops w → IsBoxes w v iniL → Calls Tryd.prog 17 #[v] w fun e w' => e = .returned (.bool true) ∧ Below w.heap.size w w' := fun v w ht hv => by
    have := psValid_any w ht hv okL_ini (by decide)
    rwa [valid_ini] at this
  go_enter Tryd.func3, Tryd.ntmps3
  go_upto_region 3 with (first | ((with_reducible refine is_load ?_); refine own_ld (h := ?_)) | ((with_reducible refine is_store ?_); (first | refine own_stR (hO := hO) (h := ?_) | refine own_st1 (hO := hO) (h := ?_)); clear hO; intro wv hO) | ((with_reducible refine is_box ?_); (first | (refine own_bx (o := ⟨some 3, _, _, _, _, _⟩) (hO := hO) (h := ?_); clear hO; intro n3 wv hO))) | ((with_reducible refine is_alloc ?_); (first | (refine own_al (o := ⟨some 9, _, _, _, _, _⟩) (hO := hO) (h := ?_); clear hO; intro n9 wv hO) | (refine own_al (o := ⟨some 10, _, _, _, _, _⟩) (hO := hO) (h := ?_); clear hO; intro n10 wv hO))) | (go_at_call 10; (with_reducible refine (new_any _ _ _).mono ?_); rintro e wv ⟨n, rfl, hB, hn, hb⟩; replace hO := hO.gain hb hB hn; have hT := hO.tapeIn List.mem_cons_self (by (intro s hs; repeat (first | exact hs | exact List.mem_append_left _ hs | apply List.mem_append_right | apply List.mem_cons_of_mem))) (Nat.zero_le _); clear hb hB hn) | (go_at_call 11; (with_reducible refine (initial_any _ (hO.tops ht (by simp))).mono ?_); rintro e wv ⟨vs, rfl, hv9, hn9, hb9⟩; have hfs := hv9.form; replace hO := hO.gainB hb9 hv9 hn9; clear hb9 hn9 hv9; obtain ⟨a6, c6, rfl, -⟩ := hfs.view))
  go_cut [7] (fun q7 wx => ∃ (n7 : Nat) (h1 h2 h3 : Hd), q7 = .slice (some ⟨n7, 0, none⟩) 4 4 ∧ h1.ok ∧ h2.ok ∧ h3.ok ∧ Own [] w [⟨n7, h4cs h h1 h2 h3, 26⟩] [] (roS (.slice a6 iniL.length c6) (cellsB iniL)) wx)
  case first =>
    (try simp only [Act.put]); (try simp only [List.setIfInBounds_toArray, List.set_cons_zero, List.set_cons_succ])
    refine wp_region_any (by kernel_rfl) ?_
    replace hO := hO.drew
    refine wpAny_takePL 1 rfl (by kernel_rfl) (by kernel_rfl) (by kernel_rfl) (by intro c d v a w h; cases d <;> exact h) (by rfl) ?_
    (first | go_big_quiet_skip | (go_big_quiet_want; (go_big_quiet_op; (first | go_big_quiet_on | ((refine ⟨_, fun _ _ => rfl, ?_⟩); go_big_quiet_on))))); (refine wpQuiet_nil ?_); (try simp only [Act.put]); (try simp only [List.setIfInBounds_toArray, List.set_cons_zero, List.set_cons_succ])
    refine wpAny_takePL 3 rfl (by kernel_rfl) (by kernel_rfl) (by kernel_rfl) (by intro c d v a w h; cases d <;> exact h) (by rfl) ?_
    (first | go_big_quiet_skip | (go_big_quiet_want; (go_big_quiet_op; (first | go_big_quiet_on | ((refine ⟨_, fun _ _ => rfl, ?_⟩); go_big_quiet_on))))); (refine wpQuiet_nil ?_); (try simp only [Act.put]); (try simp only [List.setIfInBounds_toArray, List.set_cons_zero, List.set_cons_succ])
    refine wpAny_takePL 5 rfl (by kernel_rfl) (by kernel_rfl) (by kernel_rfl) (by intro c d v a w h; cases d <;> exact h) (by rfl) ?_
    (first | go_big_quiet_skip | (go_big_quiet_want; (go_big_quiet_op; (first | go_big_quiet_on | ((refine ⟨_, fun _ _ => rfl, ?_⟩); go_big_quiet_on))))); (refine wpQuiet_nil ?_); (try simp only [Act.put]); (try simp only [List.setIfInBounds_toArray, List.set_cons_zero, List.set_cons_succ])
    refine wpAny_all (rs := [0, 2]) (by kernel_rfl) (by simp) (ord_cons ?_ (ord_cons ?_ ord_nil))
    rotate_left 2
    all_goals
      refine wpOp_of_listL rfl ?_
      (first | ((with_reducible refine is_load ?_); refine own_ld (h := ?_)) | ((with_reducible refine is_store ?_); (first | refine own_stR (hO := hO) (h := ?_) | refine own_st1 (hO := hO) (h := ?_)); clear hO; intro wv hO) | ((with_reducible refine is_build ?_); (refine' own_buildN (o := ⟨some 22, _, _, _, _, _⟩) [hv h, hv h1, hv h2, hv h3] hO (by rfl) rfl slice_Hds4 rfl rfl (by rfl) (by decide) (by decide) ?_); clear hO; intro n22 wv hO) | ((refine wpList_step (fun K hK => ?_)); go_simp; (first | ((refine hK _ _ ?_); clear hK K) | ((first | (go_at_call 12; (fail_if_success (have := h1)); (with_reducible refine (theader_any hZ (hO.tapeIn (by (repeat (first | exact List.mem_cons_self | refine List.mem_cons_of_mem _ ?_))) (by (intro s hs; repeat (first | exact hs | exact List.mem_append_left _ hs | apply List.mem_append_right | apply List.mem_cons_of_mem))) hT.le)).mono ?_); rintro e wv ⟨v, i1, rfl, hv9, hk, hT1⟩; replace hO := hO.after (by (repeat (first | exact Upd.here | apply Upd.there))) hk hT1.blk; replace hT := hT1; clear hT1 hk; obtain ⟨h1, rfl, kh1⟩ := hv9) | (go_at_call 12; (with_reducible refine (theader_any hZ (hO.tapeIn (by (repeat (first | exact List.mem_cons_self | refine List.mem_cons_of_mem _ ?_))) (by (intro s hs; repeat (first | exact hs | exact List.mem_append_left _ hs | apply List.mem_append_right | apply List.mem_cons_of_mem))) hT.le)).mono ?_); rintro e wv ⟨v, i1, rfl, hv9, hk, hT1⟩; replace hO := hO.after (by (repeat (first | exact Upd.here | apply Upd.there))) hk hT1.blk; replace hT := hT1; clear hT1 hk; obtain ⟨h2, rfl, kh2⟩ := hv9) | (go_at_call 14; (with_reducible refine (rinitial_any _).mono ?_); rintro e wv ⟨v9, rfl, ⟨hv9, hn9⟩, hb9⟩; have hT9 := (hO.tapeIn (by (repeat (first | exact List.mem_cons_self | refine List.mem_cons_of_mem _ ?_))) (by (intro s hs; repeat (first | exact hs | exact List.mem_append_left _ hs | apply List.mem_append_right | apply List.mem_cons_of_mem))) hT.le); have hnn9 : v9.ownBlock ≠ some n := fun e9 => absurd (hn9 _ e9) (Nat.not_le_of_lt hT9.blk.lt); have hf9 := hv9.form; replace hO := hO.gainB hb9 hv9 hn9; clear hb9 hv9 hn9 hT9) | (go_at_call 13; (with_reducible refine (near_any v9 iniL hZ (hO.tapeIn (by (repeat (first | exact List.mem_cons_self | refine List.mem_cons_of_mem _ ?_))) (by (intro s hs; repeat (first | exact hs | exact List.mem_append_left _ hs | apply List.mem_append_right | apply List.mem_cons_of_mem))) hT.le) (hO.isB hf9 (by intro q hq; repeat (first | exact hq | exact List.mem_append_left _ hq | apply List.mem_append_right | apply List.mem_cons_of_mem))) hnn9 kI (by decide)).mono ?_); rintro e wv ⟨v, i1, rfl, hv9, hk, hT1⟩; replace hO := hO.after (by (repeat (first | exact Upd.here | apply Upd.there))) hk hT1.blk; replace hT := hT1; clear hT1 hk; obtain ⟨h3, rfl, kh3⟩ := hv9)); (try simp only []); (refine hK _ _ ?_); clear hK K)))); (try simp only [Act.put]); (try simp only [List.setIfInBounds_toArray, List.set_cons_zero, List.set_cons_succ])
      refine wpList_done (qk_intro ?_)
    refine wpAny_all (rs := [2]) (by kernel_rfl) (by simp) (ord_cons ?_ ord_nil)
    rotate_left 1
    refine wpAny_all (rs := [0, 4]) (by kernel_rfl) (by simp) (ord_cons ?_ (ord_cons ?_ ord_nil))
    rotate_left 2
    all_goals
      refine wpOp_of_listL rfl ?_
      (first | ((with_reducible refine is_load ?_); refine own_ld (h := ?_)) | ((with_reducible refine is_store ?_); (first | refine own_stR (hO := hO) (h := ?_) | refine own_st1 (hO := hO) (h := ?_)); clear hO; intro wv hO) | ((with_reducible refine is_build ?_); (refine' own_buildN (o := ⟨some 22, _, _, _, _, _⟩) [hv h, hv h1, hv h2, hv h3] hO (by rfl) rfl slice_Hds4 rfl rfl (by rfl) (by decide) (by decide) ?_); clear hO; intro n22 wv hO) | ((refine wpList_step (fun K hK => ?_)); go_simp; (first | ((refine hK _ _ ?_); clear hK K) | ((first | (go_at_call 12; (fail_if_success (have := h1)); (with_reducible refine (theader_any hZ (hO.tapeIn (by (repeat (first | exact List.mem_cons_self | refine List.mem_cons_of_mem _ ?_))) (by (intro s hs; repeat (first | exact hs | exact List.mem_append_left _ hs | apply List.mem_append_right | apply List.mem_cons_of_mem))) hT.le)).mono ?_); rintro e wv ⟨v, i1, rfl, hv9, hk, hT1⟩; replace hO := hO.after (by (repeat (first | exact Upd.here | apply Upd.there))) hk hT1.blk; replace hT := hT1; clear hT1 hk; obtain ⟨h1, rfl, kh1⟩ := hv9) | (go_at_call 12; (with_reducible refine (theader_any hZ (hO.tapeIn (by (repeat (first | exact List.mem_cons_self | refine List.mem_cons_of_mem _ ?_))) (by (intro s hs; repeat (first | exact hs | exact List.mem_append_left _ hs | apply List.mem_append_right | apply List.mem_cons_of_mem))) hT.le)).mono ?_); rintro e wv ⟨v, i1, rfl, hv9, hk, hT1⟩; replace hO := hO.after (by (repeat (first | exact Upd.here | apply Upd.there))) hk hT1.blk; replace hT := hT1; clear hT1 hk; obtain ⟨h2, rfl, kh2⟩ := hv9) | (go_at_call 14; (with_reducible refine (rinitial_any _).mono ?_); rintro e wv ⟨v9, rfl, ⟨hv9, hn9⟩, hb9⟩; have hT9 := (hO.tapeIn (by (repeat (first | exact List.mem_cons_self | refine List.mem_cons_of_mem _ ?_))) (by (intro s hs; repeat (first | exact hs | exact List.mem_append_left _ hs | apply List.mem_append_right | apply List.mem_cons_of_mem))) hT.le); have hnn9 : v9.ownBlock ≠ some n := fun e9 => absurd (hn9 _ e9) (Nat.not_le_of_lt hT9.blk.lt); have hf9 := hv9.form; replace hO := hO.gainB hb9 hv9 hn9; clear hb9 hv9 hn9 hT9) | (go_at_call 13; (with_reducible refine (near_any v9 iniL hZ (hO.tapeIn (by (repeat (first | exact List.mem_cons_self | refine List.mem_cons_of_mem _ ?_))) (by (intro s hs; repeat (first | exact hs | exact List.mem_append_left _ hs | apply List.mem_append_right | apply List.mem_cons_of_mem))) hT.le) (hO.isB hf9 (by intro q hq; repeat (first | exact hq | exact List.mem_append_left _ hq | apply List.mem_append_right | apply List.mem_cons_of_mem))) hnn9 kI (by decide)).mono ?_); rintro e wv ⟨v, i1, rfl, hv9, hk, hT1⟩; replace hO := hO.after (by (repeat (first | exact Upd.here | apply Upd.there))) hk hT1.blk; replace hT := hT1; clear hT1 hk; obtain ⟨h3, rfl, kh3⟩ := hv9)); (try simp only []); (refine hK _ _ ?_); clear hK K)))); (try simp only [Act.put]); (try simp only [List.setIfInBounds_toArray, List.set_cons_zero, List.set_cons_succ])
      refine wpList_done (qk_intro ?_)
    refine wpAny_all (rs := [4]) (by kernel_rfl) (by simp) (ord_cons ?_ ord_nil)
    rotate_left 1
    refine wpAny_all (rs := [4]) (by kernel_rfl) (by simp) (ord_cons ?_ ord_nil)
    rotate_left 1
    refine wpAny_all (rs := [0, 6]) (by kernel_rfl) (by simp) (ord_cons ?_ (ord_cons ?_ ord_nil))
    rotate_left 2
    all_goals
      refine wpOp_of_listL rfl ?_
      (first | ((with_reducible refine is_load ?_); refine own_ld (h := ?_)) | ((with_reducible refine is_store ?_); (first | refine own_stR (hO := hO) (h := ?_) | refine own_st1 (hO := hO) (h := ?_)); clear hO; intro wv hO) | ((with_reducible refine is_build ?_); (refine' own_buildN (o := ⟨some 22, _, _, _, _, _⟩) [hv h, hv h1, hv h2, hv h3] hO (by rfl) rfl slice_Hds4 rfl rfl (by rfl) (by decide) (by decide) ?_); clear hO; intro n22 wv hO) | ((refine wpList_step (fun K hK => ?_)); go_simp; (first | ((refine hK _ _ ?_); clear hK K) | ((first | (go_at_call 12; (fail_if_success (have := h1)); (with_reducible refine (theader_any hZ (hO.tapeIn (by (repeat (first | exact List.mem_cons_self | refine List.mem_cons_of_mem _ ?_))) (by (intro s hs; repeat (first | exact hs | exact List.mem_append_left _ hs | apply List.mem_append_right | apply List.mem_cons_of_mem))) hT.le)).mono ?_); rintro e wv ⟨v, i1, rfl, hv9, hk, hT1⟩; replace hO := hO.after (by (repeat (first | exact Upd.here | apply Upd.there))) hk hT1.blk; replace hT := hT1; clear hT1 hk; obtain ⟨h1, rfl, kh1⟩ := hv9) | (go_at_call 12; (with_reducible refine (theader_any hZ (hO.tapeIn (by (repeat (first | exact List.mem_cons_self | refine List.mem_cons_of_mem _ ?_))) (by (intro s hs; repeat (first | exact hs | exact List.mem_append_left _ hs | apply List.mem_append_right | apply List.mem_cons_of_mem))) hT.le)).mono ?_); rintro e wv ⟨v, i1, rfl, hv9, hk, hT1⟩; replace hO := hO.after (by (repeat (first | exact Upd.here | apply Upd.there))) hk hT1.blk; replace hT := hT1; clear hT1 hk; obtain ⟨h2, rfl, kh2⟩ := hv9) | (go_at_call 14; (with_reducible refine (rinitial_any _).mono ?_); rintro e wv ⟨v9, rfl, ⟨hv9, hn9⟩, hb9⟩; have hT9 := (hO.tapeIn (by (repeat (first | exact List.mem_cons_self | refine List.mem_cons_of_mem _ ?_))) (by (intro s hs; repeat (first | exact hs | exact List.mem_append_left _ hs | apply List.mem_append_right | apply List.mem_cons_of_mem))) hT.le); have hnn9 : v9.ownBlock ≠ some n := fun e9 => absurd (hn9 _ e9) (Nat.not_le_of_lt hT9.blk.lt); have hf9 := hv9.form; replace hO := hO.gainB hb9 hv9 hn9; clear hb9 hv9 hn9 hT9) | (go_at_call 13; (with_reducible refine (near_any v9 iniL hZ (hO.tapeIn (by (repeat (first | exact List.mem_cons_self | refine List.mem_cons_of_mem _ ?_))) (by (intro s hs; repeat (first | exact hs | exact List.mem_append_left _ hs | apply List.mem_append_right | apply List.mem_cons_of_mem))) hT.le) (hO.isB hf9 (by intro q hq; repeat (first | exact hq | exact List.mem_append_left _ hq | apply List.mem_append_right | apply List.mem_cons_of_mem))) hnn9 kI (by decide)).mono ?_); rintro e wv ⟨v, i1, rfl, hv9, hk, hT1⟩; replace hO := hO.after (by (repeat (first | exact Upd.here | apply Upd.there))) hk hT1.blk; replace hT := hT1; clear hT1 hk; obtain ⟨h3, rfl, kh3⟩ := hv9)); (try simp only []); (refine hK _ _ ?_); clear hK K)))); (try simp only [Act.put]); (try simp only [List.setIfInBounds_toArray, List.set_cons_zero, List.set_cons_succ])
      refine wpList_done (qk_intro ?_)
    refine wpAny_all (rs := [6]) (by kernel_rfl) (by simp) (ord_cons ?_ ord_nil)
    rotate_left 1
    refine wpAny_all (rs := [6]) (by kernel_rfl) (by simp) (ord_cons ?_ ord_nil)
    rotate_left 1
    refine wpAny_all (rs := [6]) (by kernel_rfl) (by simp) (ord_cons ?_ ord_nil)
    rotate_left 1
    refine wpAny_all (rs := [0, 7]) (by kernel_rfl) (by simp) (ord_cons ?_ (ord_cons ?_ ord_nil))
    rotate_left 2
    all_goals
      refine wpOp_of_listL rfl ?_
      (first | ((with_reducible refine is_load ?_); refine own_ld (h := ?_)) | ((with_reducible refine is_store ?_); (first | refine own_stR (hO := hO) (h := ?_) | refine own_st1 (hO := hO) (h := ?_)); clear hO; intro wv hO) | ((with_reducible refine is_build ?_); (refine' own_buildN (o := ⟨some 22, _, _, _, _, _⟩) [hv h, hv h1, hv h2, hv h3] hO (by rfl) rfl slice_Hds4 rfl rfl (by rfl) (by decide) (by decide) ?_); clear hO; intro n22 wv hO) | ((refine wpList_step (fun K hK => ?_)); go_simp; (first | ((refine hK _ _ ?_); clear hK K) | ((first | (go_at_call 12; (fail_if_success (have := h1)); (with_reducible refine (theader_any hZ (hO.tapeIn (by (repeat (first | exact List.mem_cons_self | refine List.mem_cons_of_mem _ ?_))) (by (intro s hs; repeat (first | exact hs | exact List.mem_append_left _ hs | apply List.mem_append_right | apply List.mem_cons_of_mem))) hT.le)).mono ?_); rintro e wv ⟨v, i1, rfl, hv9, hk, hT1⟩; replace hO := hO.after (by (repeat (first | exact Upd.here | apply Upd.there))) hk hT1.blk; replace hT := hT1; clear hT1 hk; obtain ⟨h1, rfl, kh1⟩ := hv9) | (go_at_call 12; (with_reducible refine (theader_any hZ (hO.tapeIn (by (repeat (first | exact List.mem_cons_self | refine List.mem_cons_of_mem _ ?_))) (by (intro s hs; repeat (first | exact hs | exact List.mem_append_left _ hs | apply List.mem_append_right | apply List.mem_cons_of_mem))) hT.le)).mono ?_); rintro e wv ⟨v, i1, rfl, hv9, hk, hT1⟩; replace hO := hO.after (by (repeat (first | exact Upd.here | apply Upd.there))) hk hT1.blk; replace hT := hT1; clear hT1 hk; obtain ⟨h2, rfl, kh2⟩ := hv9) | (go_at_call 14; (with_reducible refine (rinitial_any _).mono ?_); rintro e wv ⟨v9, rfl, ⟨hv9, hn9⟩, hb9⟩; have hT9 := (hO.tapeIn (by (repeat (first | exact List.mem_cons_self | refine List.mem_cons_of_mem _ ?_))) (by (intro s hs; repeat (first | exact hs | exact List.mem_append_left _ hs | apply List.mem_append_right | apply List.mem_cons_of_mem))) hT.le); have hnn9 : v9.ownBlock ≠ some n := fun e9 => absurd (hn9 _ e9) (Nat.not_le_of_lt hT9.blk.lt); have hf9 := hv9.form; replace hO := hO.gainB hb9 hv9 hn9; clear hb9 hv9 hn9 hT9) | (go_at_call 13; (with_reducible refine (near_any v9 iniL hZ (hO.tapeIn (by (repeat (first | exact List.mem_cons_self | refine List.mem_cons_of_mem _ ?_))) (by (intro s hs; repeat (first | exact hs | exact List.mem_append_left _ hs | apply List.mem_append_right | apply List.mem_cons_of_mem))) hT.le) (hO.isB hf9 (by intro q hq; repeat (first | exact hq | exact List.mem_append_left _ hq | apply List.mem_append_right | apply List.mem_cons_of_mem))) hnn9 kI (by decide)).mono ?_); rintro e wv ⟨v, i1, rfl, hv9, hk, hT1⟩; replace hO := hO.after (by (repeat (first | exact Upd.here | apply Upd.there))) hk hT1.blk; replace hT := hT1; clear hT1 hk; obtain ⟨h3, rfl, kh3⟩ := hv9)); (try simp only []); (refine hK _ _ ?_); clear hK K)))); (try simp only [Act.put]); (try simp only [List.setIfInBounds_toArray, List.set_cons_zero, List.set_cons_succ])
      refine wpList_done (qk_intro ?_)
    refine wpAny_all (rs := [7]) (by kernel_rfl) (by simp) (ord_cons ?_ ord_nil)
    rotate_left 1
    refine wpAny_all (rs := [7]) (by kernel_rfl) (by simp) (ord_cons ?_ ord_nil)
    rotate_left 1
    refine wpAny_all (rs := [7]) (by kernel_rfl) (by simp) (ord_cons ?_ ord_nil)
    rotate_left 1
    refine wpAny_all (rs := [7]) (by kernel_rfl) (by simp) (ord_cons ?_ ord_nil)
    rotate_left 1
    refine wpAny_all (rs := [0]) (by kernel_rfl) (by simp) (ord_cons ?_ ord_nil)
    rotate_left 1
    all_goals
      refine wpOp_of_listL rfl ?_
      (first | ((with_reducible refine is_load ?_); refine own_ld (h := ?_)) | ((with_reducible refine is_store ?_); (first | refine own_stR (hO := hO) (h := ?_) | refine own_st1 (hO := hO) (h := ?_)); clear hO; intro wv hO) | ((with_reducible refine is_build ?_); (refine' own_buildN (o := ⟨some 22, _, _, _, _, _⟩) [hv h, hv h1, hv h2, hv h3] hO (by rfl) rfl slice_Hds4 rfl rfl (by rfl) (by decide) (by decide) ?_); clear hO; intro n22 wv hO) | ((refine wpList_step (fun K hK => ?_)); go_simp; (first | ((refine hK _ _ ?_); clear hK K) | ((first | (go_at_call 12; (fail_if_success (have := h1)); (with_reducible refine (theader_any hZ (hO.tapeIn (by (repeat (first | exact List.mem_cons_self | refine List.mem_cons_of_mem _ ?_))) (by (intro s hs; repeat (first | exact hs | exact List.mem_append_left _ hs | apply List.mem_append_right | apply List.mem_cons_of_mem))) hT.le)).mono ?_); rintro e wv ⟨v, i1, rfl, hv9, hk, hT1⟩; replace hO := hO.after (by (repeat (first | exact Upd.here | apply Upd.there))) hk hT1.blk; replace hT := hT1; clear hT1 hk; obtain ⟨h1, rfl, kh1⟩ := hv9) | (go_at_call 12; (with_reducible refine (theader_any hZ (hO.tapeIn (by (repeat (first | exact List.mem_cons_self | refine List.mem_cons_of_mem _ ?_))) (by (intro s hs; repeat (first | exact hs | exact List.mem_append_left _ hs | apply List.mem_append_right | apply List.mem_cons_of_mem))) hT.le)).mono ?_); rintro e wv ⟨v, i1, rfl, hv9, hk, hT1⟩; replace hO := hO.after (by (repeat (first | exact Upd.here | apply Upd.there))) hk hT1.blk; replace hT := hT1; clear hT1 hk; obtain ⟨h2, rfl, kh2⟩ := hv9) | (go_at_call 14; (with_reducible refine (rinitial_any _).mono ?_); rintro e wv ⟨v9, rfl, ⟨hv9, hn9⟩, hb9⟩; have hT9 := (hO.tapeIn (by (repeat (first | exact List.mem_cons_self | refine List.mem_cons_of_mem _ ?_))) (by (intro s hs; repeat (first | exact hs | exact List.mem_append_left _ hs | apply List.mem_append_right | apply List.mem_cons_of_mem))) hT.le); have hnn9 : v9.ownBlock ≠ some n := fun e9 => absurd (hn9 _ e9) (Nat.not_le_of_lt hT9.blk.lt); have hf9 := hv9.form; replace hO := hO.gainB hb9 hv9 hn9; clear hb9 hv9 hn9 hT9) | (go_at_call 13; (with_reducible refine (near_any v9 iniL hZ (hO.tapeIn (by (repeat (first | exact List.mem_cons_self | refine List.mem_cons_of_mem _ ?_))) (by (intro s hs; repeat (first | exact hs | exact List.mem_append_left _ hs | apply List.mem_append_right | apply List.mem_cons_of_mem))) hT.le) (hO.isB hf9 (by intro q hq; repeat (first | exact hq | exact List.mem_append_left _ hq | apply List.mem_append_right | apply List.mem_cons_of_mem))) hnn9 kI (by decide)).mono ?_); rintro e wv ⟨v, i1, rfl, hv9, hk, hT1⟩; replace hO := hO.after (by (repeat (first | exact Upd.here | apply Upd.there))) hk hT1.blk; replace hT := hT1; clear hT1 hk; obtain ⟨h3, rfl, kh3⟩ := hv9)); (try simp only []); (refine hK _ _ ?_); clear hK K)))); (try simp only [Act.put]); (try simp only [List.setIfInBounds_toArray, List.set_cons_zero, List.set_cons_succ])
      refine wpList_done (qk_intro ?_)
    refine wpAny_all (rs := [8]) (by kernel_rfl) (by simp) (ord_cons ?_ ord_nil)
    rotate_left 1
    refine wpAny_all (rs := [8]) (by kernel_rfl) (by simp) (ord_cons ?_ ord_nil)
    rotate_left 1
    refine wpAny_all (rs := [8]) (by kernel_rfl) (by simp) (ord_cons ?_ ord_nil)
    rotate_left 1
    refine wpAny_all (rs := [8]) (by kernel_rfl) (by simp) (ord_cons ?_ ord_nil)
    rotate_left 1
    refine wpAny_all (rs := [8]) (by kernel_rfl) (by simp) (ord_cons ?_ ord_nil)
    rotate_left 1
    all_goals
      refine wpOp_of_listL rfl ?_
      (first | ((with_reducible refine is_load ?_); refine own_ld (h := ?_)) | ((with_reducible refine is_store ?_); (first | refine own_stR (hO := hO) (h := ?_) | refine own_st1 (hO := hO) (h := ?_)); clear hO; intro wv hO) | ((with_reducible refine is_build ?_); (refine' own_buildN (o := ⟨some 22, _, _, _, _, _⟩) [hv h, hv h1, hv h2, hv h3] hO (by rfl) rfl slice_Hds4 rfl rfl (by rfl) (by decide) (by decide) ?_); clear hO; intro n22 wv hO) | ((refine wpList_step (fun K hK => ?_)); go_simp; (first | ((refine hK _ _ ?_); clear hK K) | ((first | (go_at_call 12; (fail_if_success (have := h1)); (with_reducible refine (theader_any hZ (hO.tapeIn (by (repeat (first | exact List.mem_cons_self | refine List.mem_cons_of_mem _ ?_))) (by (intro s hs; repeat (first | exact hs | exact List.mem_append_left _ hs | apply List.mem_append_right | apply List.mem_cons_of_mem))) hT.le)).mono ?_); rintro e wv ⟨v, i1, rfl, hv9, hk, hT1⟩; replace hO := hO.after (by (repeat (first | exact Upd.here | apply Upd.there))) hk hT1.blk; replace hT := hT1; clear hT1 hk; obtain ⟨h1, rfl, kh1⟩ := hv9) | (go_at_call 12; (with_reducible refine (theader_any hZ (hO.tapeIn (by (repeat (first | exact List.mem_cons_self | refine List.mem_cons_of_mem _ ?_))) (by (intro s hs; repeat (first | exact hs | exact List.mem_append_left _ hs | apply List.mem_append_right | apply List.mem_cons_of_mem))) hT.le)).mono ?_); rintro e wv ⟨v, i1, rfl, hv9, hk, hT1⟩; replace hO := hO.after (by (repeat (first | exact Upd.here | apply Upd.there))) hk hT1.blk; replace hT := hT1; clear hT1 hk; obtain ⟨h2, rfl, kh2⟩ := hv9) | (go_at_call 14; (with_reducible refine (rinitial_any _).mono ?_); rintro e wv ⟨v9, rfl, ⟨hv9, hn9⟩, hb9⟩; have hT9 := (hO.tapeIn (by (repeat (first | exact List.mem_cons_self | refine List.mem_cons_of_mem _ ?_))) (by (intro s hs; repeat (first | exact hs | exact List.mem_append_left _ hs | apply List.mem_append_right | apply List.mem_cons_of_mem))) hT.le); have hnn9 : v9.ownBlock ≠ some n := fun e9 => absurd (hn9 _ e9) (Nat.not_le_of_lt hT9.blk.lt); have hf9 := hv9.form; replace hO := hO.gainB hb9 hv9 hn9; clear hb9 hv9 hn9 hT9) | (go_at_call 13; (with_reducible refine (near_any v9 iniL hZ (hO.tapeIn (by (repeat (first | exact List.mem_cons_self | refine List.mem_cons_of_mem _ ?_))) (by (intro s hs; repeat (first | exact hs | exact List.mem_append_left _ hs | apply List.mem_append_right | apply List.mem_cons_of_mem))) hT.le) (hO.isB hf9 (by intro q hq; repeat (first | exact hq | exact List.mem_append_left _ hq | apply List.mem_append_right | apply List.mem_cons_of_mem))) hnn9 kI (by decide)).mono ?_); rintro e wv ⟨v, i1, rfl, hv9, hk, hT1⟩; replace hO := hO.after (by (repeat (first | exact Upd.here | apply Upd.there))) hk hT1.blk; replace hT := hT1; clear hT1 hk; obtain ⟨h3, rfl, kh3⟩ := hv9)); (try simp only []); (refine hK _ _ ?_); clear hK K)))); (try simp only [Act.put]); (try simp only [List.setIfInBounds_toArray, List.set_cons_zero, List.set_cons_succ])
      refine wpList_done (qk_intro ?_)
    refine wpAny_all (rs := [9]) (by kernel_rfl) (by simp) (ord_cons ?_ ord_nil)
    rotate_left 1
    refine wpAny_all (rs := [9]) (by kernel_rfl) (by simp) (ord_cons ?_ ord_nil)
    rotate_left 1
    refine wpAny_all (rs := [9]) (by kernel_rfl) (by simp) (ord_cons ?_ ord_nil)
    rotate_left 1
    refine wpAny_all (rs := [9]) (by kernel_rfl) (by simp) (ord_cons ?_ ord_nil)
    rotate_left 1
    refine wpAny_all (rs := [9]) (by kernel_rfl) (by simp) (ord_cons ?_ ord_nil)
    rotate_left 1
    all_goals
      refine wpOp_of_listL rfl ?_
      (first | ((with_reducible refine is_load ?_); refine own_ld (h := ?_)) | ((with_reducible refine is_store ?_); (first | refine own_stR (hO := hO) (h := ?_) | refine own_st1 (hO := hO) (h := ?_)); clear hO; intro wv hO) | ((with_reducible refine is_build ?_); (refine' own_buildN (o := ⟨some 22, _, _, _, _, _⟩) [hv h, hv h1, hv h2, hv h3] hO (by rfl) rfl slice_Hds4 rfl rfl (by rfl) (by decide) (by decide) ?_); clear hO; intro n22 wv hO) | ((refine wpList_step (fun K hK => ?_)); go_simp; (first | ((refine hK _ _ ?_); clear hK K) | ((first | (go_at_call 12; (fail_if_success (have := h1)); (with_reducible refine (theader_any hZ (hO.tapeIn (by (repeat (first | exact List.mem_cons_self | refine List.mem_cons_of_mem _ ?_))) (by (intro s hs; repeat (first | exact hs | exact List.mem_append_left _ hs | apply List.mem_append_right | apply List.mem_cons_of_mem))) hT.le)).mono ?_); rintro e wv ⟨v, i1, rfl, hv9, hk, hT1⟩; replace hO := hO.after (by (repeat (first | exact Upd.here | apply Upd.there))) hk hT1.blk; replace hT := hT1; clear hT1 hk; obtain ⟨h1, rfl, kh1⟩ := hv9) | (go_at_call 12; (with_reducible refine (theader_any hZ (hO.tapeIn (by (repeat (first | exact List.mem_cons_self | refine List.mem_cons_of_mem _ ?_))) (by (intro s hs; repeat (first | exact hs | exact List.mem_append_left _ hs | apply List.mem_append_right | apply List.mem_cons_of_mem))) hT.le)).mono ?_); rintro e wv ⟨v, i1, rfl, hv9, hk, hT1⟩; replace hO := hO.after (by (repeat (first | exact Upd.here | apply Upd.there))) hk hT1.blk; replace hT := hT1; clear hT1 hk; obtain ⟨h2, rfl, kh2⟩ := hv9) | (go_at_call 14; (with_reducible refine (rinitial_any _).mono ?_); rintro e wv ⟨v9, rfl, ⟨hv9, hn9⟩, hb9⟩; have hT9 := (hO.tapeIn (by (repeat (first | exact List.mem_cons_self | refine List.mem_cons_of_mem _ ?_))) (by (intro s hs; repeat (first | exact hs | exact List.mem_append_left _ hs | apply List.mem_append_right | apply List.mem_cons_of_mem))) hT.le); have hnn9 : v9.ownBlock ≠ some n := fun e9 => absurd (hn9 _ e9) (Nat.not_le_of_lt hT9.blk.lt); have hf9 := hv9.form; replace hO := hO.gainB hb9 hv9 hn9; clear hb9 hv9 hn9 hT9) | (go_at_call 13; (with_reducible refine (near_any v9 iniL hZ (hO.tapeIn (by (repeat (first | exact List.mem_cons_self | refine List.mem_cons_of_mem _ ?_))) (by (intro s hs; repeat (first | exact hs | exact List.mem_append_left _ hs | apply List.mem_append_right | apply List.mem_cons_of_mem))) hT.le) (hO.isB hf9 (by intro q hq; repeat (first | exact hq | exact List.mem_append_left _ hq | apply List.mem_append_right | apply List.mem_cons_of_mem))) hnn9 kI (by decide)).mono ?_); rintro e wv ⟨v, i1, rfl, hv9, hk, hT1⟩; replace hO := hO.after (by (repeat (first | exact Upd.here | apply Upd.there))) hk hT1.blk; replace hT := hT1; clear hT1 hk; obtain ⟨h3, rfl, kh3⟩ := hv9)); (try simp only []); (refine hK _ _ ?_); clear hK K)))); (try simp only [Act.put]); (try simp only [List.setIfInBounds_toArray, List.set_cons_zero, List.set_cons_succ])
      refine wpList_done (qk_intro ?_)
    refine wpAny_done (by kernel_rfl) ?_ _
    rotate_left
    refine wpAny_done (by kernel_rfl) ?_ _
    rotate_left
    refine wpAny_done (by kernel_rfl) ?_ _
    rotate_left
    refine wpAny_done (by kernel_rfl) ?_ _
    rotate_left
    refine wpAny_done (by kernel_rfl) ?_ _
    rotate_left
    all_goals
      go_wp2_with fail
      go_meet
      exact ⟨_, h1, h2, h3, rfl, kh1, kh2, kh3, hO.sub (.cons_cons _ (.cons _ (.cons _ (.refl _)))) (.refl _) (fun q hq => List.mem_append_right _ (List.mem_append_left _ hq))⟩
  case rest =>
    clear hO hT
    obtain ⟨n7, h1, h2, h3, rfl, kh1, kh2, kh3, hO⟩ := hcut
    have H4 := Lib.hid (fun (i : Nat) (hi : i < 4) => h4_at ho kh1 kh2 kh3 hi)
    go_wp2_with (first | ((with_reducible refine is_load ?_); refine own_ld (h := ?_)) | ((with_reducible refine is_store ?_); (first | refine own_stR (hO := hO) (h := ?_) | refine own_st1 (hO := hO) (h := ?_)); clear hO; intro wv hO) | ((with_reducible refine is_box ?_); (first | (refine own_bx (o := ⟨some 3, _, _, _, _, _⟩) (hO := hO) (h := ?_); clear hO; intro n3 wv hO))) | ((with_reducible refine is_alloc ?_); (first | (refine own_al (o := ⟨some 9, _, _, _, _, _⟩) (hO := hO) (h := ?_); clear hO; intro n9 wv hO) | (refine own_al (o := ⟨some 10, _, _, _, _, _⟩) (hO := hO) (h := ?_); clear hO; intro n10 wv hO))))
    go_loopg [8] 5 (fun gk q wr => ∃ i : Nat, i ≤ 4 ∧ 5 - i ≤ gk ∧ q = .int .i64 i ∧ Own [] w [⟨n7, h4cs h h1 h2 h3, 26⟩] [] (roS (.slice a6 iniL.length c6) (cellsB iniL)) wr)
    case atStart => exact ⟨0, by omega, by omega, rfl, hO⟩
    case round =>
      clear hO
      obtain ⟨i, hi, hgk, rfl, hO⟩ := hrel
      have s1 : IntKind.i64.wrap ((i : Int) + 1) = (i : Int) + 1 := IntWalk.i64_in _ (by omega)
      by_cases hlt : i < 4
      · have g1 : decide ((i : Int) < 4) = true := decide_eq_true (by omega)
        have y1 : (0 : Int) ≤ (i : Int) := by omega
        have y2 : (i : Int) < 4 := by omega
        obtain ⟨x, hx, t1⟩ := H4.out i hlt
        have cA := fun w ht hv => psContains_any (vl := .slice a6 iniL.length c6) (l := iniL) x w ht hx hv (by decide)
        have cR := fun w ht hv => psContains_any (vl := .slice a6 iniL.length c6) (l := iniL) (revHd x) w ht (revHd_ok hx) hv (by decide)
        rw [ini_has hx] at cA
        rw [ini_has (revHd_ok hx)] at cR
        have hi := fun w => risini_any x w
        have HNR := Lib.hid (fun h1 h2 => rev_not (h := x) h1 h2)
        obtain ⟨xs, xd, xp, xsp, xdp⟩ := x
        generalize isIni ⟨xs, xd, xp, xsp, xdp⟩ = A at *
        generalize isIni (revHd ⟨xs, xd, xp, xsp, xdp⟩) = B at *
        dsimp only [revHd] at cR
        dsimp only at HNR
        have hcase : (A = false ∧ (xp == 1) = false) ∨ (A = false ∧ (xp == 1) = true) ∨ (A = true ∧ (xp == 1) = false) ∨ (A = true ∧ (xp == 1) = true ∧ B = false) := by
          cases A
          · cases h9 : (xp == 1) <;> simp
          · cases h9 : (xp == 1)
            · simp
            · right; right; right; exact ⟨rfl, rfl, HNR.out (by simpa using h9) rfl⟩
        clear HNR
        rcases hcase with ⟨rfl, hp⟩ | ⟨rfl, hp⟩ | ⟨rfl, hp⟩ | ⟨rfl, hp, rfl⟩
        all_goals
          go_upto_region 8 with (first | ((with_reducible refine is_load ?_); refine own_ld (h := ?_)) | ((with_reducible refine is_store ?_); (first | refine own_stR (hO := hO) (h := ?_) | refine own_st1 (hO := hO) (h := ?_)); clear hO; intro wv hO) | ((with_reducible refine is_box ?_); (first | (refine own_bx (o := ⟨some 3, _, _, _, _, _⟩) (hO := hO) (h := ?_); clear hO; intro n3 wv hO))) | ((with_reducible refine is_alloc ?_); (first | (refine own_al (o := ⟨some 9, _, _, _, _, _⟩) (hO := hO) (h := ?_); clear hO; intro n9 wv hO) | (refine own_al (o := ⟨some 10, _, _, _, _, _⟩) (hO := hO) (h := ?_); clear hO; intro n10 wv hO))))
          (try simp only [Act.put]); (try simp only [List.setIfInBounds_toArray, List.set_cons_zero, List.set_cons_succ])
          refine wp_region_any (by kernel_rfl) ?_
          replace hO := hO.drew
          refine wpAny_takePL 0 rfl (by kernel_rfl) (by kernel_rfl) (by kernel_rfl) (by intro c d v a w h; cases d <;> exact h) (by rfl) ?_
          (first | go_big_quiet_skip | (go_big_quiet_want; (go_big_quiet_op; (first | go_big_quiet_on | ((refine ⟨_, fun _ _ => rfl, ?_⟩); go_big_quiet_on))))); (refine wpQuiet_nil ?_); (try simp only [Act.put]); (try simp only [List.setIfInBounds_toArray, List.set_cons_zero, List.set_cons_succ])
          refine wpAny_all (rs := [1, 3]) (by kernel_rfl) (by simp) (ord_cons ?_ (ord_cons ?_ ord_nil))
          rotate_left 2
          all_goals
            refine wpOp_of_listL rfl ?_
            (first | ((with_reducible refine is_load ?_); refine own_ld (h := ?_)) | ((with_reducible refine is_store ?_); (first | refine own_stR (hO := hO) (h := ?_) | refine own_st1 (hO := hO) (h := ?_)); clear hO; intro wv hO) | ((refine wpList_step (fun K hK => ?_)); go_simp; (first | ((refine hK _ _ ?_); clear hK K) | ((first | (go_at_call 15; (with_reducible refine (cA _ (hO.tops ht (by simp)) (hO.isB hfs (by intro q hq; repeat (first | exact hq | exact List.mem_append_left _ hq | apply List.mem_append_right | apply List.mem_cons_of_mem)))).mono ?_); rintro e wv ⟨rfl, hb9⟩; replace hO := hO.call hb9; clear hb9) | (go_at_call 16; refine (hi _).mono ?_; rintro e wv ⟨rfl, hb⟩; replace hO := hO.call hb; clear hb)); (try simp only []); (refine hK _ _ ?_); clear hK K)))); (try simp only [Act.put]); (try simp only [List.setIfInBounds_toArray, List.set_cons_zero, List.set_cons_succ])
            refine wpList_done (qk_intro ?_)
          refine wpAny_all (rs := [2, 3]) (by kernel_rfl) (by simp) (ord_cons ?_ (ord_cons ?_ ord_nil))
          rotate_left 2
          refine wpAny_all (rs := [1]) (by kernel_rfl) (by simp) (ord_cons ?_ ord_nil)
          rotate_left 1
          all_goals
            refine wpOp_of_listL rfl ?_
            (first | ((with_reducible refine is_load ?_); refine own_ld (h := ?_)) | ((with_reducible refine is_store ?_); (first | refine own_stR (hO := hO) (h := ?_) | refine own_st1 (hO := hO) (h := ?_)); clear hO; intro wv hO) | ((refine wpList_step (fun K hK => ?_)); go_simp; (first | ((refine hK _ _ ?_); clear hK K) | ((first | (go_at_call 15; (with_reducible refine (cA _ (hO.tops ht (by simp)) (hO.isB hfs (by intro q hq; repeat (first | exact hq | exact List.mem_append_left _ hq | apply List.mem_append_right | apply List.mem_cons_of_mem)))).mono ?_); rintro e wv ⟨rfl, hb9⟩; replace hO := hO.call hb9; clear hb9) | (go_at_call 16; refine (hi _).mono ?_; rintro e wv ⟨rfl, hb⟩; replace hO := hO.call hb; clear hb)); (try simp only []); (refine hK _ _ ?_); clear hK K)))); (try simp only [Act.put]); (try simp only [List.setIfInBounds_toArray, List.set_cons_zero, List.set_cons_succ])
            refine wpList_done (qk_intro ?_)
          refine wpAny_all (rs := [3]) (by kernel_rfl) (by simp) (ord_cons ?_ ord_nil)
          rotate_left 1
          refine wpAny_all (rs := [2]) (by kernel_rfl) (by simp) (ord_cons ?_ ord_nil)
          rotate_left 1
          refine wpAny_all (rs := [2]) (by kernel_rfl) (by simp) (ord_cons ?_ ord_nil)
          rotate_left 1
          all_goals
            refine wpOp_of_listL rfl ?_
            (first | ((with_reducible refine is_load ?_); refine own_ld (h := ?_)) | ((with_reducible refine is_store ?_); (first | refine own_stR (hO := hO) (h := ?_) | refine own_st1 (hO := hO) (h := ?_)); clear hO; intro wv hO) | ((refine wpList_step (fun K hK => ?_)); go_simp; (first | ((refine hK _ _ ?_); clear hK K) | ((first | (go_at_call 15; (with_reducible refine (cA _ (hO.tops ht (by simp)) (hO.isB hfs (by intro q hq; repeat (first | exact hq | exact List.mem_append_left _ hq | apply List.mem_append_right | apply List.mem_cons_of_mem)))).mono ?_); rintro e wv ⟨rfl, hb9⟩; replace hO := hO.call hb9; clear hb9) | (go_at_call 16; refine (hi _).mono ?_; rintro e wv ⟨rfl, hb⟩; replace hO := hO.call hb; clear hb)); (try simp only []); (refine hK _ _ ?_); clear hK K)))); (try simp only [Act.put]); (try simp only [List.setIfInBounds_toArray, List.set_cons_zero, List.set_cons_succ])
            refine wpList_done (qk_intro ?_)
          refine wpAny_all (rs := [4]) (by kernel_rfl) (by simp) (ord_cons ?_ ord_nil)
          rotate_left 1
          refine wpAny_all (rs := [4]) (by kernel_rfl) (by simp) (ord_cons ?_ ord_nil)
          rotate_left 1
          refine wpAny_all (rs := [4]) (by kernel_rfl) (by simp) (ord_cons ?_ ord_nil)
          rotate_left 1
          all_goals
            refine wpOp_of_listL rfl ?_
            (first | ((with_reducible refine is_load ?_); refine own_ld (h := ?_)) | ((with_reducible refine is_store ?_); (first | refine own_stR (hO := hO) (h := ?_) | refine own_st1 (hO := hO) (h := ?_)); clear hO; intro wv hO) | ((refine wpList_step (fun K hK => ?_)); go_simp; (first | ((refine hK _ _ ?_); clear hK K) | ((first | (go_at_call 15; (with_reducible refine (cA _ (hO.tops ht (by simp)) (hO.isB hfs (by intro q hq; repeat (first | exact hq | exact List.mem_append_left _ hq | apply List.mem_append_right | apply List.mem_cons_of_mem)))).mono ?_); rintro e wv ⟨rfl, hb9⟩; replace hO := hO.call hb9; clear hb9) | (go_at_call 16; refine (hi _).mono ?_; rintro e wv ⟨rfl, hb⟩; replace hO := hO.call hb; clear hb)); (try simp only []); (refine hK _ _ ?_); clear hK K)))); (try simp only [Act.put]); (try simp only [List.setIfInBounds_toArray, List.set_cons_zero, List.set_cons_succ])
            refine wpList_done (qk_intro ?_)
          refine wpAny_takePL 5 rfl (by kernel_rfl) (by kernel_rfl) (by kernel_rfl) (by intro c d v a w h; cases d <;> exact h) (by rfl) ?_
          (first | go_big_quiet_skip | (go_big_quiet_want; (go_big_quiet_op; (first | go_big_quiet_on | ((refine ⟨_, fun _ _ => rfl, ?_⟩); go_big_quiet_on))))); (refine wpQuiet_nil ?_); (try simp only [Act.put]); (try simp only [List.setIfInBounds_toArray, List.set_cons_zero, List.set_cons_succ])
          refine wpAny_done (by kernel_rfl) ?_ _
          rotate_left
          refine wpAny_takePL 5 rfl (by kernel_rfl) (by kernel_rfl) (by kernel_rfl) (by intro c d v a w h; cases d <;> exact h) (by rfl) ?_
          (first | go_big_quiet_skip | (go_big_quiet_want; (go_big_quiet_op; (first | go_big_quiet_on | ((refine ⟨_, fun _ _ => rfl, ?_⟩); go_big_quiet_on))))); (refine wpQuiet_nil ?_); (try simp only [Act.put]); (try simp only [List.setIfInBounds_toArray, List.set_cons_zero, List.set_cons_succ])
          refine wpAny_done (by kernel_rfl) ?_ _
          rotate_left
          refine wpAny_takePL 5 rfl (by kernel_rfl) (by kernel_rfl) (by kernel_rfl) (by intro c d v a w h; cases d <;> exact h) (by rfl) ?_
          (first | go_big_quiet_skip | (go_big_quiet_want; (go_big_quiet_op; (first | go_big_quiet_on | ((refine ⟨_, fun _ _ => rfl, ?_⟩); go_big_quiet_on))))); (refine wpQuiet_nil ?_); (try simp only [Act.put]); (try simp only [List.setIfInBounds_toArray, List.set_cons_zero, List.set_cons_succ])
          refine wpAny_done (by kernel_rfl) ?_ _
          rotate_left
          all_goals
            go_wp2_with (first | ((with_reducible refine is_load ?_); refine own_ld (h := ?_)) | ((with_reducible refine is_store ?_); (first | refine own_stR (hO := hO) (h := ?_) | refine own_st1 (hO := hO) (h := ?_)); clear hO; intro wv hO) | ((with_reducible refine is_box ?_); (first | (refine own_bx (o := ⟨some 3, _, _, _, _, _⟩) (hO := hO) (h := ?_); clear hO; intro n3 wv hO))) | ((with_reducible refine is_alloc ?_); (first | (refine own_al (o := ⟨some 9, _, _, _, _, _⟩) (hO := hO) (h := ?_); clear hO; intro n9 wv hO) | (refine own_al (o := ⟨some 10, _, _, _, _, _⟩) (hO := hO) (h := ?_); clear hO; intro n10 wv hO))) | (go_at_call 15; (with_reducible refine (cA _ (hO.tops ht (by simp)) (hO.isB hfs (by intro q hq; repeat (first | exact hq | exact List.mem_append_left _ hq | apply List.mem_append_right | apply List.mem_cons_of_mem)))).mono ?_); rintro e wv ⟨rfl, hb9⟩; replace hO := hO.call hb9; clear hb9) | (go_at_call 15; (with_reducible refine (cR _ (hO.tops ht (by simp)) (hO.isB hfs (by intro q hq; repeat (first | exact hq | exact List.mem_append_left _ hq | apply List.mem_append_right | apply List.mem_cons_of_mem)))).mono ?_); rintro e wv ⟨rfl, hb9⟩; replace hO := hO.call hb9; clear hb9))
            (go_roundg (4 - i)
             case measure => omega
             case rel => exact ⟨i + 1, by omega, by omega, by go_num, hO.sub (.cons _ (.cons _ (.refl _))) (.refl _) (fun _ h => h)⟩)
      · have g1 : decide ((i : Int) < 4) = false := decide_eq_false (by omega)
        go_wp2_with (first | ((with_reducible refine is_load ?_); refine own_ld (h := ?_)) | ((with_reducible refine is_store ?_); (first | refine own_stR (hO := hO) (h := ?_) | refine own_st1 (hO := hO) (h := ?_)); clear hO; intro wv hO) | ((with_reducible refine is_box ?_); (first | (refine own_bx (o := ⟨some 3, _, _, _, _, _⟩) (hO := hO) (h := ?_); clear hO; intro n3 wv hO))) | ((with_reducible refine is_alloc ?_); (first | (refine own_al (o := ⟨some 9, _, _, _, _, _⟩) (hO := hO) (h := ?_); clear hO; intro n9 wv hO) | (refine own_al (o := ⟨some 10, _, _, _, _, _⟩) (hO := hO) (h := ?_); clear hO; intro n10 wv hO))) | (go_at_call 17; (with_reducible refine (hval _ _ (hO.tops ht (by simp)) (hO.isB hfs (by intro q hq; repeat (first | exact hq | exact List.mem_append_left _ hq | apply List.mem_append_right | apply List.mem_cons_of_mem)))).mono ?_); rintro e wv ⟨rfl, hb9⟩; replace hO := hO.call hb9; clear hb9) | (go_at_call 14; (with_reducible refine (rinitial_any _).mono ?_); rintro e wv ⟨v9, rfl, ⟨hv9, hn9⟩, hb9⟩; have hf9 := hv9.form; replace hO := hO.gainB hb9 hv9 hn9; clear hb9 hv9 hn9) | (go_at_call 18; (with_reducible refine (rsame4_any _ _ iniL _ (hO.isB hfs (by intro q hq; repeat (first | exact hq | exact List.mem_append_left _ hq | apply List.mem_append_right | apply List.mem_cons_of_mem))) (hO.isB hf9 (by intro q hq; repeat (first | exact hq | exact List.mem_append_left _ hq | apply List.mem_append_right | apply List.mem_cons_of_mem))) (by decide)).mono ?_); rintro e wv ⟨rfl, hb9⟩; replace hO := hO.call hb9; clear hb9) | (go_at_call 19; refine (sane4_any _ (hO.tops ht (by simp))).mono ?_; rintro e wv ⟨rfl, hb⟩; replace hO := hO.call hb; clear hb))
        go_ret
        exact ⟨rfl, hO.keep.below⟩
end Go.Proofs.YtdfihajngmgigaaDoor
