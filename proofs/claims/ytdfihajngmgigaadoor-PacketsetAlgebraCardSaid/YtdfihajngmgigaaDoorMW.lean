/- The reference of packet sets: at, ranges, holds, none. -/
import Derived.Test.YtdfihajngmgigaaDoorMV
import Derived.Test.YtdfihajngmgigaaDoorMQ
namespace Go.Proofs.YtdfihajngmgigaaDoor
open Go.RowKit
set_option maxRecDepth 100000
set_option maxHeartbeats 2000000 in
theorem rat_any {vl : Value} {l : List Bx} {f : Nat} {v : Int} (w : World) (hv : IsBoxes w vl l) (hf : f < 5) (kv : vL l) (hl : l.length ≤ 1000000000000) :
    Calls Tryd.prog 100 #[vl, .int .i64 f, .int .u64 v] w (RetBoxes w (covB l f v)) := by
  have hO := own_arg hv
  have T1 := topOf_le f
  obtain ⟨a, c, rfl, ha⟩ := hv.view
  clear hv
  go_enter Tryd.func100, Tryd.ntmps100
  go_wp2_with (first | ((with_reducible refine is_load ?_); (first | (refine own_ld (h := ?_)))) | ((with_reducible refine is_store ?_); (first | (refine own_stR (hO := hO) (h := ?_); clear hO; intro wv hO) | (refine own_st1 (hO := hO) (h := ?_); clear hO; intro wv hO))) | ((with_reducible refine is_build ?_); (first | (refine' own_build1 (o := ⟨some 42, _, _, _, _, _⟩) hO (by rfl) rfl rfl ?hu ?hf ?_; (case hu => (first | exact Tryd.underlying29 | exact und_Set | exact und_Groups | exact und_Ranges)); (case hf => kernel_rfl); clear hO; intro n42 wv hO))) | ((with_reducible refine is_append ?_); (first | (refine own_ap (o := ⟨some 43, _, _, _, _, _⟩) (hO := hO) (h := ?_); clear hO; intro g43 c43 wv hO))))
  replace hO := hO.nilRow 66 10
  go_loopw [7, 8] (fun r i wr => ∃ k : Nat, k ≤ l.length ∧ i = .int .i64 k ∧ Own [] w [] [⟨r, (covB (l.take k) f v).length, cellsB (covB (l.take k) f v), 66, 10⟩] (roS (.slice a l.length c) (cellsB l)) wr) (fun _ i _ => l.length - (intOf i).toNat)
  case atStart => exact ⟨0, by omega, rfl, hO⟩
  case round =>
    clear hO
    obtain ⟨k, hk, rfl, hO⟩ := hrel
    by_cases hlt : k < l.length
    · obtain ⟨g, o, rfl⟩ := ha (by omega)
      simp only [roS] at hO
      have kb9 := kv l[k] (List.getElem_mem hlt) f hf
      have s1 : IntKind.u64.wrap (l[k].at f).lo = (l[k].at f).lo := by rw [IntKind.wrap_u64]; omega
      have s2 : IntKind.u64.wrap (l[k].at f).hi = (l[k].at f).hi := by rw [IntKind.wrap_u64]; omega
      have HT := Lib.hid (cov_take (f := f) (v := v) hlt)
      have hle : (covB (l.take k) f v).length ≤ k := filter_take_le _ _ _
      generalize covB (l.take k) f v = m at *
      by_cases h1 : (l[k].at f).lo ≤ v
      · by_cases h2 : v ≤ (l[k].at f).hi
        · have g1 : decide ((l[k].at f).lo ≤ v) = true := decide_eq_true h1
          have g2 : decide (v ≤ (l[k].at f).hi) = true := decide_eq_true h2
          go_wp2_with (first | ((with_reducible refine is_load ?_); (first | (refine own_ld (h := ?_)))) | ((with_reducible refine is_store ?_); (first | (refine own_stR (hO := hO) (h := ?_); clear hO; intro wv hO) | (refine own_st1 (hO := hO) (h := ?_); clear hO; intro wv hO))) | ((with_reducible refine is_build ?_); (first | (refine' own_build1 (o := ⟨some 42, _, _, _, _, _⟩) hO (by rfl) rfl rfl ?hu ?hf ?_; (case hu => (first | exact Tryd.underlying29 | exact und_Set | exact und_Groups | exact und_Ranges)); (case hf => kernel_rfl); clear hO; intro n42 wv hO))) | ((with_reducible refine is_append ?_); (first | (refine own_ap (o := ⟨some 43, _, _, _, _, _⟩) (hO := hO) (h := ?_); clear hO; intro g43 c43 wv hO))))
          go_roundw
          case rel =>
            refine ⟨k + 1, by omega, by go_num, ?_⟩
            rw [HT.out, g1, g2, Bool.and_self, if_pos rfl, List.length_append, cellsB_append, cellsB_one]
            exact hO.sub (.cons _ (.refl _)) (.refl _) (fun _ h => h)
          case measure => simp [intOf]; omega
        · have g1 : decide ((l[k].at f).lo ≤ v) = true := decide_eq_true h1
          have g2 : decide (v ≤ (l[k].at f).hi) = false := decide_eq_false h2
          go_wp2_with (first | ((with_reducible refine is_load ?_); (first | (refine own_ld (h := ?_)))) | ((with_reducible refine is_store ?_); (first | (refine own_stR (hO := hO) (h := ?_); clear hO; intro wv hO) | (refine own_st1 (hO := hO) (h := ?_); clear hO; intro wv hO))) | ((with_reducible refine is_build ?_); (first | (refine' own_build1 (o := ⟨some 42, _, _, _, _, _⟩) hO (by rfl) rfl rfl ?hu ?hf ?_; (case hu => (first | exact Tryd.underlying29 | exact und_Set | exact und_Groups | exact und_Ranges)); (case hf => kernel_rfl); clear hO; intro n42 wv hO))) | ((with_reducible refine is_append ?_); (first | (refine own_ap (o := ⟨some 43, _, _, _, _, _⟩) (hO := hO) (h := ?_); clear hO; intro g43 c43 wv hO))))
          go_roundw
          case rel =>
            refine ⟨k + 1, by omega, by go_num, ?_⟩
            rw [HT.out, g1, g2, Bool.and_false, if_neg Bool.false_ne_true, List.append_nil]
            exact hO.sub (.refl _) (.refl _) (fun _ h => h)
          case measure => simp [intOf]; omega
      · have g1 : decide ((l[k].at f).lo ≤ v) = false := decide_eq_false h1
        go_wp2_with (first | ((with_reducible refine is_load ?_); (first | (refine own_ld (h := ?_)))) | ((with_reducible refine is_store ?_); (first | (refine own_stR (hO := hO) (h := ?_); clear hO; intro wv hO) | (refine own_st1 (hO := hO) (h := ?_); clear hO; intro wv hO))) | ((with_reducible refine is_build ?_); (first | (refine' own_build1 (o := ⟨some 42, _, _, _, _, _⟩) hO (by rfl) rfl rfl ?hu ?hf ?_; (case hu => (first | exact Tryd.underlying29 | exact und_Set | exact und_Groups | exact und_Ranges)); (case hf => kernel_rfl); clear hO; intro n42 wv hO))) | ((with_reducible refine is_append ?_); (first | (refine own_ap (o := ⟨some 43, _, _, _, _, _⟩) (hO := hO) (h := ?_); clear hO; intro g43 c43 wv hO))))
        go_roundw
        case rel =>
          refine ⟨k + 1, by omega, by go_num, ?_⟩
          rw [HT.out, g1, Bool.false_and, if_neg Bool.false_ne_true, List.append_nil]
          exact hO.sub (.refl _) (.refl _) (fun _ h => h)
        case measure => simp [intOf]; omega
    · obtain rfl : k = l.length := by omega
      rw [List.take_length] at hO
      go_wp2_with (first | ((with_reducible refine is_load ?_); (first | (refine own_ld (h := ?_)))) | ((with_reducible refine is_store ?_); (first | (refine own_stR (hO := hO) (h := ?_); clear hO; intro wv hO) | (refine own_st1 (hO := hO) (h := ?_); clear hO; intro wv hO))) | ((with_reducible refine is_build ?_); (first | (refine' own_build1 (o := ⟨some 42, _, _, _, _, _⟩) hO (by rfl) rfl rfl ?hu ?hf ?_; (case hu => (first | exact Tryd.underlying29 | exact und_Set | exact und_Groups | exact und_Ranges)); (case hf => kernel_rfl); clear hO; intro n42 wv hO))) | ((with_reducible refine is_append ?_); (first | (refine own_ap (o := ⟨some 43, _, _, _, _, _⟩) (hO := hO) (h := ?_); clear hO; intro g43 c43 wv hO))))
      go_ret
      exact ⟨_, rfl, ⟨own_boxes hO List.mem_cons_self, own_new hO List.mem_cons_self⟩, hO.keep.below⟩
theorem slice_Ranges : SliceT Tryd.prog 61 64 2 8 := ⟨Tryd.underlying61, by omega, by
  obtain ⟨i, h1, h2, h3, h4⟩ := info_parts (show (Tryd.prog.info? 64).map (fun i => (i.zero, i.size, i.bytes)) = some (some (.agg #[.int .u32 0, .int .u32 0]), 2, 8) by kernel_rfl)
  exact ⟨i, _, h1, h2, h3, h4, rfl⟩⟩
theorem und_Ranges : (Tryd.prog).underlying 61 = some (.slice 64) := Tryd.underlying61
theorem rcs_append : ∀ l m : List Rg, rcs (l ++ m) = rcs l ++ rcs m
  | [], _ => rfl
  | r :: l, m => by simp [rcs, rcs_append l m]
theorem rcs_length : ∀ l : List Rg, (rcs l).length = l.length * 2
  | [] => rfl
  | r :: l => by simp [rcs, rcs_length l]; omega
def rgs (f : Nat) (l : List Bx) : List Rg := l.map (·.at f)
theorem rgs_take {f : Nat} {l : List Bx} {k : Nat} (h : k < l.length) : rgs f (l.take (k + 1)) = rgs f (l.take k) ++ [l[k].at f] := by
  unfold rgs
  rw [List.take_succ_eq_append_getElem h, List.map_append]
  rfl
/-- what a function hands back that makes a list of ranges -/
def RetRgs (w : World) (l : List Rg) (e : Ending) (w' : World) : Prop := ∃ v, e = .returned v ∧ (IsCells w' v l.length (rcs l) ∧ NewFrom w v) ∧ Below w.heap.size w w'
theorem own_rgs {M : List Nat} {w0 w : World} {X : List Chunk} {R : List Row} {S : List Ro} (hO : Own M w0 X R S w) {v : Value} {k : Nat} {l : List Rg} (hm : (⟨v, k, rcs l, 64, 2⟩ : Row) ∈ R) : IsCells w v l.length (rcs l) := by
  obtain ⟨h1, h2⟩ := hO.row _ hm
  dsimp only at h1 h2
  have hk : l.length = k := by rw [rcs_length] at h1; omega
  rcases h2 with ⟨hv, h0⟩ | ⟨g, cap, cur, hv, _, hg, hc, _, _, ht⟩
  · left
    obtain rfl : l = [] := List.length_eq_zero_iff.1 (by omega)
    exact ⟨hv, rfl, rfl⟩
  · right
    refine ⟨g, 0, cap, by rw [hv, hk], by rw [hk]; exact hc, fun j u hj => ?_⟩
    rw [cell_of_row w g (0 + j) cur _ _ hg]
    rw [← ht, List.getElem?_take] at hj
    split at hj
    · simpa using hj
    · cases hj
theorem rgs_length (f : Nat) (l : List Bx) : (rgs f l).length = l.length := by simp [rgs]
set_option maxHeartbeats 4000000 in
theorem ranges_any {va vb : Value} {la lb : List Bx} {f : Nat} (w : World) (hva : IsBoxes w va la) (hvb : IsBoxes w vb lb) (hf : f < 5) (na : la.length ≤ 1000000000000) (nb : lb.length ≤ 1000000000000) :
    Calls Tryd.prog 99 #[va, vb, .int .i64 f] w (RetRgs w (rgs f la ++ rgs f lb)) := by
  have hO := roS_arg2 hva hvb
  obtain ⟨a, c, rfl, ha⟩ := hva.view
  obtain ⟨a2, c2, rfl, ha2⟩ := hvb.view
  clear hva hvb
  have y1 : (0 : Int) ≤ (f : Int) := by omega
  have y2 : (f : Int) < 5 := by omega
  go_enter Tryd.func99, Tryd.ntmps99
  go_wp2_with (first | ((with_reducible refine is_load ?_); (first | (refine own_ld (h := ?_)))) | ((with_reducible refine is_store ?_); (first | (refine own_stR (hO := hO) (h := ?_); clear hO; intro wv hO) | (refine own_st1 (hO := hO) (h := ?_); clear hO; intro wv hO))) | ((with_reducible refine is_build ?_); (first | (refine' own_build1 (o := ⟨some 23, _, _, _, _, _⟩) hO (by rfl) rfl rfl ?hu ?hf ?_; (case hu => (first | exact Tryd.underlying29 | exact und_Set | exact und_Groups | exact und_Ranges)); (case hf => kernel_rfl); clear hO; intro n23 wv hO) | (refine' own_build1 (o := ⟨some 38, _, _, _, _, _⟩) hO (by rfl) rfl rfl ?hu ?hf ?_; (case hu => (first | exact Tryd.underlying29 | exact und_Set | exact und_Groups | exact und_Ranges)); (case hf => kernel_rfl); clear hO; intro n38 wv hO))) | ((with_reducible refine is_append ?_); (first | (refine own_ap (o := ⟨some 24, _, _, _, _, _⟩) (hO := hO) (h := ?_); clear hO; intro g24 c24 wv hO) | (refine own_ap (o := ⟨some 39, _, _, _, _, _⟩) (hO := hO) (h := ?_); clear hO; intro g39 c39 wv hO))))
  replace hO := hO.nilRow 64 2
  have hS1 : ∀ s ∈ roS (.slice a la.length c) (cellsB la), s ∈ roS (.slice a la.length c) (cellsB la) ++ roS (.slice a2 lb.length c2) (cellsB lb) := fun s h => List.mem_append_left _ h
  have hS2 : ∀ s ∈ roS (.slice a2 lb.length c2) (cellsB lb), s ∈ roS (.slice a la.length c) (cellsB la) ++ roS (.slice a2 lb.length c2) (cellsB lb) := fun s h => List.mem_append_right _ h
  generalize roS (.slice a la.length c) (cellsB la) ++ roS (.slice a2 lb.length c2) (cellsB lb) = SS at *
  go_loopw [7, 8] (fun r q wr => ∃ k : Nat, k ≤ la.length ∧ q = .int .i64 k ∧ Own [] w [] [⟨r, k, rcs (rgs f (la.take k)), 64, 2⟩] SS wr) (fun _ q _ => la.length - (intOf q).toNat)
  case atStart => exact ⟨0, by omega, rfl, hO⟩
  case round =>
    clear hO
    obtain ⟨k, hk, rfl, hO⟩ := hrel
    by_cases hlt : k < la.length
    · obtain ⟨g, o, rfl⟩ := ha (by omega)
      have hm1 := hS1 ⟨g, o, cellsB la⟩ (by simp [roS])
      replace hO := hO.sub (S' := ⟨g, o, cellsB la⟩ :: SS) (.refl _) (.refl _) (fun s hs => (List.mem_cons.1 hs).elim (fun h => h ▸ hm1) id)
      have t1 := cb_rg la hlt hf
      have HT := Lib.hid (rgs_take (f := f) hlt)
      generalize rgs f (la.take k) = m at *
      clear hm1 hS1 hS2
      go_wp2_with (first | ((with_reducible refine is_load ?_); (first | (refine own_ld (h := ?_)))) | ((with_reducible refine is_store ?_); (first | (refine own_stR (hO := hO) (h := ?_); clear hO; intro wv hO) | (refine own_st1 (hO := hO) (h := ?_); clear hO; intro wv hO))) | ((with_reducible refine is_build ?_); (first | (refine' own_build1 (o := ⟨some 23, _, _, _, _, _⟩) hO (by rfl) rfl rfl ?hu ?hf ?_; (case hu => (first | exact Tryd.underlying29 | exact und_Set | exact und_Groups | exact und_Ranges)); (case hf => kernel_rfl); clear hO; intro n23 wv hO) | (refine' own_build1 (o := ⟨some 38, _, _, _, _, _⟩) hO (by rfl) rfl rfl ?hu ?hf ?_; (case hu => (first | exact Tryd.underlying29 | exact und_Set | exact und_Groups | exact und_Ranges)); (case hf => kernel_rfl); clear hO; intro n38 wv hO))) | ((with_reducible refine is_append ?_); (first | (refine own_ap (o := ⟨some 24, _, _, _, _, _⟩) (hO := hO) (h := ?_); clear hO; intro g24 c24 wv hO) | (refine own_ap (o := ⟨some 39, _, _, _, _, _⟩) (hO := hO) (h := ?_); clear hO; intro g39 c39 wv hO))))
      go_roundw
      case rel =>
        refine ⟨k + 1, by omega, by go_num, ?_⟩
        rw [HT.out, rcs_append]
        exact hO.sub (.cons _ (.refl _)) (.refl _) (fun _ h => List.mem_cons_of_mem _ h)
      case measure => simp [intOf]; omega
    · obtain rfl : k = la.length := by omega
      rw [List.take_length] at hO
      go_wp2_with (first | ((with_reducible refine is_load ?_); (first | (refine own_ld (h := ?_)))) | ((with_reducible refine is_store ?_); (first | (refine own_stR (hO := hO) (h := ?_); clear hO; intro wv hO) | (refine own_st1 (hO := hO) (h := ?_); clear hO; intro wv hO))) | ((with_reducible refine is_build ?_); (first | (refine' own_build1 (o := ⟨some 23, _, _, _, _, _⟩) hO (by rfl) rfl rfl ?hu ?hf ?_; (case hu => (first | exact Tryd.underlying29 | exact und_Set | exact und_Groups | exact und_Ranges)); (case hf => kernel_rfl); clear hO; intro n23 wv hO) | (refine' own_build1 (o := ⟨some 38, _, _, _, _, _⟩) hO (by rfl) rfl rfl ?hu ?hf ?_; (case hu => (first | exact Tryd.underlying29 | exact und_Set | exact und_Groups | exact und_Ranges)); (case hf => kernel_rfl); clear hO; intro n38 wv hO))) | ((with_reducible refine is_append ?_); (first | (refine own_ap (o := ⟨some 24, _, _, _, _, _⟩) (hO := hO) (h := ?_); clear hO; intro g24 c24 wv hO) | (refine own_ap (o := ⟨some 39, _, _, _, _, _⟩) (hO := hO) (h := ?_); clear hO; intro g39 c39 wv hO))))
      go_loopw [7, 9] (fun r q wr => ∃ k : Nat, k ≤ lb.length ∧ q = .int .i64 k ∧ Own [] w [] [⟨r, la.length + k, rcs (rgs f la ++ rgs f (lb.take k)), 64, 2⟩] SS wr) (fun _ q _ => lb.length - (intOf q).toNat)
      case atStart => exact ⟨0, by omega, rfl, by simpa [rgs] using hO⟩
      case round =>
        clear hO
        obtain ⟨k, hk2, rfl, hO⟩ := hrel
        by_cases hlt2 : k < lb.length
        · obtain ⟨g, o, rfl⟩ := ha2 (by omega)
          have hm1 := hS2 ⟨g, o, cellsB lb⟩ (by simp [roS])
          replace hO := hO.sub (S' := ⟨g, o, cellsB lb⟩ :: SS) (.refl _) (.refl _) (fun s hs => (List.mem_cons.1 hs).elim (fun h => h ▸ hm1) id)
          have t1 := cb_rg lb hlt2 hf
          have HT := Lib.hid (show rgs f la ++ rgs f (lb.take (k + 1)) = (rgs f la ++ rgs f (lb.take k)) ++ [lb[k].at f] by rw [rgs_take hlt2, List.append_assoc])
          generalize rgs f la ++ rgs f (lb.take k) = m at *
          clear hm1 hS1 hS2
          go_wp2_with (first | ((with_reducible refine is_load ?_); (first | (refine own_ld (h := ?_)))) | ((with_reducible refine is_store ?_); (first | (refine own_stR (hO := hO) (h := ?_); clear hO; intro wv hO) | (refine own_st1 (hO := hO) (h := ?_); clear hO; intro wv hO))) | ((with_reducible refine is_build ?_); (first | (refine' own_build1 (o := ⟨some 23, _, _, _, _, _⟩) hO (by rfl) rfl rfl ?hu ?hf ?_; (case hu => (first | exact Tryd.underlying29 | exact und_Set | exact und_Groups | exact und_Ranges)); (case hf => kernel_rfl); clear hO; intro n23 wv hO) | (refine' own_build1 (o := ⟨some 38, _, _, _, _, _⟩) hO (by rfl) rfl rfl ?hu ?hf ?_; (case hu => (first | exact Tryd.underlying29 | exact und_Set | exact und_Groups | exact und_Ranges)); (case hf => kernel_rfl); clear hO; intro n38 wv hO))) | ((with_reducible refine is_append ?_); (first | (refine own_ap (o := ⟨some 24, _, _, _, _, _⟩) (hO := hO) (h := ?_); clear hO; intro g24 c24 wv hO) | (refine own_ap (o := ⟨some 39, _, _, _, _, _⟩) (hO := hO) (h := ?_); clear hO; intro g39 c39 wv hO))))
          go_roundw
          case rel =>
            refine ⟨k + 1, by omega, by go_num, ?_⟩
            rw [HT.out, rcs_append]
            exact hO.sub (.cons _ (.refl _)) (.refl _) (fun _ h => List.mem_cons_of_mem _ h)
          case measure => simp [intOf]; omega
        · obtain rfl : k = lb.length := by omega
          rw [List.take_length] at hO
          go_wp2_with (first | ((with_reducible refine is_load ?_); (first | (refine own_ld (h := ?_)))) | ((with_reducible refine is_store ?_); (first | (refine own_stR (hO := hO) (h := ?_); clear hO; intro wv hO) | (refine own_st1 (hO := hO) (h := ?_); clear hO; intro wv hO))) | ((with_reducible refine is_build ?_); (first | (refine' own_build1 (o := ⟨some 23, _, _, _, _, _⟩) hO (by rfl) rfl rfl ?hu ?hf ?_; (case hu => (first | exact Tryd.underlying29 | exact und_Set | exact und_Groups | exact und_Ranges)); (case hf => kernel_rfl); clear hO; intro n23 wv hO) | (refine' own_build1 (o := ⟨some 38, _, _, _, _, _⟩) hO (by rfl) rfl rfl ?hu ?hf ?_; (case hu => (first | exact Tryd.underlying29 | exact und_Set | exact und_Groups | exact und_Ranges)); (case hf => kernel_rfl); clear hO; intro n38 wv hO))) | ((with_reducible refine is_append ?_); (first | (refine own_ap (o := ⟨some 24, _, _, _, _, _⟩) (hO := hO) (h := ?_); clear hO; intro g24 c24 wv hO) | (refine own_ap (o := ⟨some 39, _, _, _, _, _⟩) (hO := hO) (h := ?_); clear hO; intro g39 c39 wv hO))))
          go_ret
          exact ⟨_, rfl, ⟨own_rgs hO List.mem_cons_self, own_new hO List.mem_cons_self⟩, hO.keep.below⟩
/-- may nothing hold of parts? -/
def noB (o : Int) (x y : Bool) : Bool := if o = 1 then !x || !y else if o = 2 then !x else !x && !y
theorem holds_any (o : Int) (x y : Bool) (w : World) (ho : o = 0 ∨ o = 1 ∨ o = 2 ∨ o = 3) : Calls Tryd.prog 96 #[.int .i64 o, .bool x, .bool y] w fun e w' => e = .returned (.bool (if o = 0 then orB x y else if o = 1 then andB x y else if o = 2 then exB x y else xorB x y)) ∧ w = w' := by
  rcases ho with rfl | rfl | rfl | rfl <;> cases x <;> cases y <;>
    (go_enter Tryd.func96, Tryd.ntmps96
     go_wp2_with (first | ((with_reducible refine is_load ?_); (first | (refine own_ld (h := ?_)))) | ((with_reducible refine is_store ?_); (first | (refine own_stR (hO := hO) (h := ?_); clear hO; intro wv hO) | (refine own_st1 (hO := hO) (h := ?_); clear hO; intro wv hO))))
     go_ret
     exact ⟨rfl, rfl⟩)
theorem none_any (o : Int) (x y : Bool) (w : World) (ho : o = 0 ∨ o = 1 ∨ o = 2 ∨ o = 3) : Calls Tryd.prog 97 #[.int .i64 o, .bool x, .bool y] w fun e w' => e = .returned (.bool (noB o x y)) ∧ w = w' := by
  rcases ho with rfl | rfl | rfl | rfl <;> cases x <;> cases y <;>
    (go_enter Tryd.func97, Tryd.ntmps97
     go_wp2_with (first | ((with_reducible refine is_load ?_); (first | (refine own_ld (h := ?_)))) | ((with_reducible refine is_store ?_); (first | (refine own_stR (hO := hO) (h := ?_); clear hO; intro wv hO) | (refine own_st1 (hO := hO) (h := ?_); clear hO; intro wv hO))))
     go_ret
     exact ⟨rfl, rfl⟩)
/-- an operation of the reference: its number, and what it is -/
structure OpR (o : Int) (op : Bool → Bool → Bool) : Prop where
  holds : ∀ (x y : Bool) (w : World), Calls Tryd.prog 96 #[.int .i64 o, .bool x, .bool y] w fun e w' => e = .returned (.bool (op x y)) ∧ w = w'
  none : ∀ (x y : Bool) (w : World), Calls Tryd.prog 97 #[.int .i64 o, .bool x, .bool y] w fun e w' => e = .returned (.bool (noB o x y)) ∧ w = w'
  nil : ∀ (f n : Nat) (a b : List Bx), noB o (!a.isEmpty) (!b.isEmpty) = true → canonF op f n a b = []
theorem opr_or : OpR 0 orB := ⟨fun x y w => holds_any 0 x y w (by simp), fun x y w => none_any 0 x y w (by simp), fun f n a b h => by
  cases a <;> cases b <;> simp [noB] at h
  exact canonF_nil rfl n f⟩
end Go.Proofs.YtdfihajngmgigaaDoor
