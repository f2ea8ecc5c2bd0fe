/- The reference of intervals: Insert, Starts. -/
import Derived.Test.YtbdfblgdmappeaaGreatDoorMC
import Derived.Test.YtbdfblgdmappeaaGreatDoorMD
import Derived.Test.YtbdfblgdmappeaaGreatDoorMB
import Derived.Test.YtbdfblgdmappeaaGreatDoorMN
import Derived.Test.YtbdfblgdmappeaaGreatDoorMQ
namespace Go.Proofs.YtbdfblgdmappeaaGreatDoor
open Go.RowKit
set_option maxRecDepth 100000
theorem insU_at {v : Int} : ∀ {l : List Int} {k : Nat}, k ≤ l.length → (∀ j (h : j < l.length), j < k → l[j] < v) → (∀ h : k < l.length, v < l[k]) → insU v l = l.take k ++ v :: l.drop k
 | [], k, _, _, _ => by simp [insU]
 | x :: l, 0, _, _, h2 => by
  have := h2 (by simp)
  simp only [List.getElem_cons_zero] at this
  rw [insU, if_pos this]; rfl
 | x :: l, k + 1, h, h1, h2 => by
  have h0 := h1 0 (by simp) (by omega)
  simp only [List.getElem_cons_zero] at h0
  rw [insU, if_neg (by omega), if_neg (by omega), List.take_succ_cons, List.drop_succ_cons, List.cons_append]
  rw [insU_at (k := k) (by simp only [List.length_cons] at h; omega) (fun j hj hk => by have := h1 (j + 1) (by simp; omega) (by omega); rwa [List.getElem_cons_succ] at this) (fun hk => by have := h2 (by simp; omega); rwa [List.getElem_cons_succ] at this)]
theorem insU_in {v : Int} : ∀ {l : List Int} {k : Nat} (h : k < l.length), (∀ j (h : j < l.length), j < k → l[j] < v) → l[k] = v → insU v l = l
 | [], k, h, _, _ => by simp at h
 | x :: l, 0, _, _, h2 => by
  simp only [List.getElem_cons_zero] at h2
  rw [insU, if_neg (by omega), if_pos h2.symm]
 | x :: l, k + 1, h, h1, h2 => by
  have h0 := h1 0 (by simp) (by omega)
  simp only [List.getElem_cons_zero] at h0
  rw [List.getElem_cons_succ] at h2
  rw [insU, if_neg (by omega), if_neg (by omega), insU_in (k := k) (by simp only [List.length_cons] at h; omega) (fun j hj hk => by have := h1 (j + 1) (by simp; omega) (by omega); rwa [List.getElem_cons_succ] at this) h2]
theorem src_ul {w : World} {g off i m : Nat} {l : List Int} (h : w.rangeAt g 0 (ul l)) (ho : off = i) (hm : i + m ≤ l.length) : SrcAt w 1 (some ⟨g, off, none⟩) m (ul ((l.drop i).take m)) := by
 subst ho
 refine ⟨by simp [ul]; omega, fun _ => ⟨g, off, rfl, fun j u hj => ?_⟩⟩
 have hj' : (ul l)[off + j]? = some u := by
  unfold ul at hj ⊢
  rw [List.getElem?_map, List.getElem?_take] at hj
  rw [List.getElem?_map]
  split at hj
  ·rw [List.getElem?_drop] at hj; exact hj
  ·simp at hj
 have := h (off + j) u hj'
 rwa [Nat.zero_add] at this
def InsU (w : World) (g : Nat) (l : List Int) (e : Ending) (w' : World) : Prop := ∃ g' c', e = .returned (.slice (some ⟨g', 0, none⟩) l.length c') ∧ l.length ≤ c' ∧ w'.rangeAt g' 0 (ul l) ∧ (g' = g ∨ w.heap.size ≤ g') ∧ Below w.heap.size w w'
theorem src_none {w : World} {A : Option Addr} {m : Nat} (hm : m = 0) : SrcAt w 1 A m (ul []) := by
 subst hm
 exact ⟨rfl, fun h => absurd h (by omega)⟩
theorem end_cells {l : List Int} {k : Nat} (v : Int) (hk : k = l.length) : [] ++ ul (List.take k (List.drop 0 l)) ++ [Value.int IntKind.u64 v] ++ ul [] = ul (l.take k ++ v :: l.drop k) := by
 subst hk
 simp [ul]
theorem ins_cells {l : List Int} {k : Nat} (v : Int) (_hk : k ≤ l.length) : [] ++ ul (List.take k (List.drop 0 l)) ++ [Value.int IntKind.u64 v] ++ ul (List.take (l.length - k) (List.drop k l)) = ul (l.take k ++ v :: l.drop k) := by
 rw [List.drop_zero, List.take_of_length_le (l := l.drop k) (by simp)]
 simp [ul]
theorem own_u64 {w0 w : World} {X : List Chunk} {R : List Row} {S : List Ro} {v : Value} {k : Nat} {xs : List Value} {e : TypeId} {L : List Int} (hO : Own [] w0 X (⟨v, k, xs, e, 1⟩ :: R) S w) (he : xs = ul L) (h0 : 0 < k) :
  ∃ g c, v = .slice (some ⟨g, 0, none⟩) L.length c ∧ L.length ≤ c ∧ w.rangeAt g 0 (ul L) ∧ w0.heap.size ≤ g := by
 subst he
 have hn := own_new hO List.mem_cons_self
 obtain ⟨h1, h2⟩ := hO.row _ List.mem_cons_self
 dsimp only at h1 h2
 have hk : L.length = k := by rw [ul_length] at h1; omega
 rcases h2 with ⟨_, h9⟩ | ⟨g, cap, cur, hv, _, hg, hc, _, _, ht⟩
 ·omega
 refine ⟨g, cap, by rw [hv, hk], by rw [hk]; exact hc, fun j u hj => ?_, hn g (by rw [hv]; rfl)⟩
 rw [cell_of_row w g (0 + j) cur _ _ hg]
 rw [← ht, List.getElem?_take] at hj
 split at hj
 ·simpa using hj
 ·cases hj
set_option maxHeartbeats 4000000 in
theorem insert_any {g c : Nat} {l : List Int} {v top : Int} (w : World) (hr : w.rangeAt g 0 (ul l)) (hl : l.length ≤ c) (hn : l.length ≤ 1000000000000) (h0 : 0 ≤ top) (h1 : top ≤ 4294967295) :
  Calls Tryz.prog 205 #[.slice (some ⟨g, 0, none⟩) l.length c, .int .u64 v, .int .u32 top] w (InsU w g (insT top v l)) := by
 have hO := own_start [] w
 replace hO := hO.addOld ⟨g, 0, ul l⟩ hr
 have s1 : IntKind.u64.wrap top = top := by rw [IntKind.wrap_u64]; omega
 go_enter Tryz.func205, Tryz.ntmps205
 by_cases ht : top < v
 ·have g1 : decide (top < v) = true := decide_eq_true ht
  have e0 : insT top v l = l := by unfold insT; rw [if_pos ht]
  rw [e0]
  go_wp2_with fail
  go_ret
  exact ⟨_, _, rfl, hl, hO.ro _ List.mem_cons_self, .inl rfl, hO.keep.below⟩
 have g1 : decide (top < v) = false := decide_eq_false ht
 have eT : insT top v l = insU v l := by unfold insT; rw [if_neg ht]
 rw [eT]
 go_wp2_with fail
 go_loopw [7] (fun q wr => ∃ k : Nat, k ≤ l.length ∧ (∀ j (h : j < l.length), j < k → l[j] < v) ∧ q = .int .i64 k ∧ Own [] w [] [] [⟨g, 0, ul l⟩] wr) (fun q _ => l.length - (intOf q).toNat)
 case atStart => exact ⟨0, by omega, fun j _ h => by omega, rfl, hO⟩
 case round =>
  clear hO
  obtain ⟨k, hk, hlow, rfl, hO⟩ := hrel
  have HL := Lib.hid hlow
  clear hlow
  have s2 : IntKind.i64.wrap ((k : Int) + 1) = (k : Int) + 1 := IntWalk.i64_in _ (by omega)
  have y1 : (0 : Int) ≤ (k : Int) := by omega
  by_cases hlt : k < l.length
  ·have g2 : decide ((k : Int) < (l.length : Int)) = true := decide_eq_true (by omega)
   have u1 := ul_at hlt
   by_cases hv : l[k] < v
   ·have g3 : decide (l[k] < v) = true := decide_eq_true hv
    go_wp2_with (refine ldN ?_)
    go_roundw
    case rel =>
     refine ⟨k + 1, by omega, fun j h hj => ?_, by go_num, hO⟩
     rcases (by omega : j < k ∨ j = k) with h9 | rfl
     ·exact HL.out j h h9
     ·exact hv
    case measure => simp [intOf]; omega
   ·have g3 : decide (l[k] < v) = false := decide_eq_false hv
    by_cases he : l[k] = v
    ·have g4 : (l[k] == v) = true := by simp [he]
     have eI := insU_in hlt HL.out he
     (try rw [eI])
     go_wp2_with (refine ldN ?_)
     go_ret
     exact ⟨_, _, rfl, hl, hO.ro _ List.mem_cons_self, .inl rfl, hO.keep.below⟩
    ·have g4 : (l[k] == v) = false := by simp [he]
     have eI := insU_at hk HL.out (fun _ => by omega)
     go_wp2_with (refine ldN ?_)
     refine wp_region_any (by kernel_rfl) ?_
     replace hO := hO.drew
     have ix9 := Ix.mk [1, 2, 3, 5, 8, 9, 10]
     iterate 7 (refine wpAny_tk ix9 ?_; replace ix9 := ix9.tail; (first | go_big_quiet_skip | (go_big_quiet_want; (go_big_quiet_op; (first | go_big_quiet_on | ((refine ⟨_, fun _ _ => rfl, ?_⟩); go_big_quiet_on))))); (refine wpQuiet_nil ?_); (try simp only [Act.put]); (try simp only [sI9, sZ9, sS9]))
     clear ix9
     refine wpAny_all (rs := [0, 6]) (by kernel_rfl) (by simp) (ord_cons ?_ (ord_cons ?_ ord_nil))
     rotate_left 2
     all_goals
      refine wpOp_of_listL rfl ?_
      (first | ((with_reducible refine is_build ?_); (refine own_build0 (o := ⟨some 40, _, _, _, _, _⟩) hO (by rfl) rfl slice_u64 ?_); clear hO; intro n40 wv hO) | ((with_reducible refine is_build ?_); (refine' own_buildP (o := ⟨some 46, _, _, _, _, _⟩) [.int .u64 v] hO (by rfl) rfl slice_u64 rfl rfl (by rfl) (by decide) (by decide) ?_); clear hO; intro n46 wv hO)); (try simp only [Act.put]); (try simp only [sI9, sZ9, sS9])
      refine wpList_done (qk_intro ?_)
     refine wpAny_all (rs := [4, 6]) (by kernel_rfl) (by simp) (ord_cons ?_ (ord_cons ?_ ord_nil))
     rotate_left 2
     refine wpAny_1 0 ?_
     rotate_left 1
     all_goals
      refine wpOp_of_listL rfl ?_
      (first | ((with_reducible refine is_build ?_); (refine own_build0 (o := ⟨some 40, _, _, _, _, _⟩) hO (by rfl) rfl slice_u64 ?_); clear hO; intro n40 wv hO) | ((with_reducible refine is_append ?_); (refine own_appendA (o := ⟨some 44, _, _, _, _, _⟩) hO rfl rfl slice_u64 rfl rfl (src_ul (i := 0) (m := k) (hO.ro ⟨g, 0, ul l⟩ List.mem_cons_self) (by omega) (by omega)) (ul_one _) (fun _ => by repeat (exact UpdR.here)) (by simp; omega) (by unfold maxLen; simp; omega) ?_); clear hO; intro A44 c44 wv hO) | ((with_reducible refine is_build ?_); (refine' own_buildP (o := ⟨some 46, _, _, _, _, _⟩) [.int .u64 v] hO (by rfl) rfl slice_u64 rfl rfl (by rfl) (by decide) (by decide) ?_); clear hO; intro n46 wv hO)); (try simp only [Act.put]); (try simp only [sI9, sZ9, sS9])
      refine wpList_done (qk_intro ?_)
     refine wpAny_1 6 ?_
     rotate_left 1
     refine wpAny_1 4 ?_
     rotate_left 1
     refine wpAny_1 4 ?_
     rotate_left 1
     all_goals
      refine wpOp_of_listL rfl ?_
      (first | ((with_reducible refine is_append ?_); (refine own_appendA (o := ⟨some 44, _, _, _, _, _⟩) hO rfl rfl slice_u64 rfl rfl (src_ul (i := 0) (m := k) (hO.ro ⟨g, 0, ul l⟩ List.mem_cons_self) (by omega) (by omega)) (ul_one _) (fun _ => by repeat (exact UpdR.here)) (by simp; omega) (by unfold maxLen; simp; omega) ?_); clear hO; intro A44 c44 wv hO) | ((with_reducible refine is_build ?_); (refine' own_buildP (o := ⟨some 46, _, _, _, _, _⟩) [.int .u64 v] hO (by rfl) rfl slice_u64 rfl rfl (by rfl) (by decide) (by decide) ?_); clear hO; intro n46 wv hO)); (try simp only [Act.put]); (try simp only [sI9, sZ9, sS9])
      refine wpList_done (qk_intro ?_)
     refine wpAny_1 7 ?_
     rotate_left 1
     refine wpAny_1 7 ?_
     rotate_left 1
     refine wpAny_1 7 ?_
     rotate_left 1
     all_goals
      refine wpOp_of_listL rfl ?_
      (refine ap9 47 hO ?_; clear hO; intro g47 c47 wv hO); (try simp only [Act.put]); (try simp only [sI9, sZ9, sS9])
      refine wpList_done (qk_intro ?_)
     refine wpAny_1 11 ?_
     rotate_left 1
     refine wpAny_1 11 ?_
     rotate_left 1
     refine wpAny_1 11 ?_
     rotate_left 1
     all_goals
      refine wpOp_of_listL rfl ?_
      ((with_reducible refine is_append ?_); (refine own_appendA (o := ⟨some 51, _, _, _, _, _⟩) hO rfl rfl slice_u64 rfl rfl (src_ul (i := k) (m := l.length - k) (hO.ro ⟨g, 0, ul l⟩ List.mem_cons_self) (by omega) (by omega)) (ul_one _) (fun _ => by repeat (exact UpdR.here)) (by simp; omega) (by unfold maxLen; simp; omega) ?_); clear hO; intro A51 c51 wv hO); (try simp only [Act.put]); (try simp only [sI9, sZ9, sS9])
      refine wpList_done (qk_intro ?_)
     refine wpAny_1 12 ?_
     rotate_left 1
     refine wpAny_1 12 ?_
     rotate_left 1
     refine wpAny_1 12 ?_
     rotate_left 1
     all_goals
      refine wpOp_of_listL rfl ?_
      ((refine wpList_step (fun K hK => ?_)); go_simp; ((refine hK _ _ ?_); clear hK K))
      refine wpList_done (qk_intro ?_)
     refine wpAny_done (by kernel_rfl) ?_ _
     rotate_left
     refine wpAny_done (by kernel_rfl) ?_ _
     rotate_left
     refine wpAny_done (by kernel_rfl) ?_ _
     rotate_left
     all_goals
      go_wp2_with fail
      go_ret
      have hX := ins_cells v hk
      obtain ⟨g9, c9, e9, h9, r9, n9⟩ := own_u64 hO hX (by omega)
      rw [Nat.zero_add] at e9
      (try rw [eI])
      exact ⟨g9, c9, congrArg Ending.returned e9, h9, r9, .inr n9, hO.keep.below⟩
  ·have g2 : decide ((k : Int) < (l.length : Int)) = false := decide_eq_false (by omega)
   have eI := insU_at hk HL.out (fun h => absurd h hlt)
   go_wp2_with fail
   refine wp_region_any (by kernel_rfl) ?_
   replace hO := hO.drew
   have ix9 := Ix.mk [1, 2, 3, 5, 8, 9, 10]
   iterate 7 (refine wpAny_tk ix9 ?_; replace ix9 := ix9.tail; (first | go_big_quiet_skip | (go_big_quiet_want; (go_big_quiet_op; (first | go_big_quiet_on | ((refine ⟨_, fun _ _ => rfl, ?_⟩); go_big_quiet_on))))); (refine wpQuiet_nil ?_); (try simp only [Act.put]); (try simp only [sI9, sZ9, sS9]))
   clear ix9
   refine wpAny_all (rs := [0, 6]) (by kernel_rfl) (by simp) (ord_cons ?_ (ord_cons ?_ ord_nil))
   rotate_left 2
   all_goals
    refine wpOp_of_listL rfl ?_
    (first | ((with_reducible refine is_build ?_); (refine own_build0 (o := ⟨some 40, _, _, _, _, _⟩) hO (by rfl) rfl slice_u64 ?_); clear hO; intro n40 wv hO) | ((with_reducible refine is_build ?_); (refine' own_buildP (o := ⟨some 46, _, _, _, _, _⟩) [.int .u64 v] hO (by rfl) rfl slice_u64 rfl rfl (by rfl) (by decide) (by decide) ?_); clear hO; intro n46 wv hO)); (try simp only [Act.put]); (try simp only [sI9, sZ9, sS9])
    refine wpList_done (qk_intro ?_)
   refine wpAny_all (rs := [4, 6]) (by kernel_rfl) (by simp) (ord_cons ?_ (ord_cons ?_ ord_nil))
   rotate_left 2
   refine wpAny_1 0 ?_
   rotate_left 1
   all_goals
    refine wpOp_of_listL rfl ?_
    (first | ((with_reducible refine is_build ?_); (refine own_build0 (o := ⟨some 40, _, _, _, _, _⟩) hO (by rfl) rfl slice_u64 ?_); clear hO; intro n40 wv hO) | ((with_reducible refine is_append ?_); (refine own_appendA (o := ⟨some 44, _, _, _, _, _⟩) hO rfl rfl slice_u64 rfl rfl (src_ul (i := 0) (m := k) (hO.ro ⟨g, 0, ul l⟩ List.mem_cons_self) (by omega) (by omega)) (ul_one _) (fun _ => by repeat (exact UpdR.here)) (by simp; omega) (by unfold maxLen; simp; omega) ?_); clear hO; intro A44 c44 wv hO) | ((with_reducible refine is_build ?_); (refine' own_buildP (o := ⟨some 46, _, _, _, _, _⟩) [.int .u64 v] hO (by rfl) rfl slice_u64 rfl rfl (by rfl) (by decide) (by decide) ?_); clear hO; intro n46 wv hO)); (try simp only [Act.put]); (try simp only [sI9, sZ9, sS9])
    refine wpList_done (qk_intro ?_)
   refine wpAny_1 6 ?_
   rotate_left 1
   refine wpAny_1 4 ?_
   rotate_left 1
   refine wpAny_1 4 ?_
   rotate_left 1
   all_goals
    refine wpOp_of_listL rfl ?_
    (first | ((with_reducible refine is_append ?_); (refine own_appendA (o := ⟨some 44, _, _, _, _, _⟩) hO rfl rfl slice_u64 rfl rfl (src_ul (i := 0) (m := k) (hO.ro ⟨g, 0, ul l⟩ List.mem_cons_self) (by omega) (by omega)) (ul_one _) (fun _ => by repeat (exact UpdR.here)) (by simp; omega) (by unfold maxLen; simp; omega) ?_); clear hO; intro A44 c44 wv hO) | ((with_reducible refine is_build ?_); (refine' own_buildP (o := ⟨some 46, _, _, _, _, _⟩) [.int .u64 v] hO (by rfl) rfl slice_u64 rfl rfl (by rfl) (by decide) (by decide) ?_); clear hO; intro n46 wv hO)); (try simp only [Act.put]); (try simp only [sI9, sZ9, sS9])
    refine wpList_done (qk_intro ?_)
   refine wpAny_1 7 ?_
   rotate_left 1
   refine wpAny_1 7 ?_
   rotate_left 1
   refine wpAny_1 7 ?_
   rotate_left 1
   all_goals
    refine wpOp_of_listL rfl ?_
    (refine ap9 47 hO ?_; clear hO; intro g47 c47 wv hO); (try simp only [Act.put]); (try simp only [sI9, sZ9, sS9])
    refine wpList_done (qk_intro ?_)
   refine wpAny_1 11 ?_
   rotate_left 1
   refine wpAny_1 11 ?_
   rotate_left 1
   refine wpAny_1 11 ?_
   rotate_left 1
   all_goals
    refine wpOp_of_listL rfl ?_
    ((with_reducible refine is_append ?_); (refine own_appendA (o := ⟨some 51, _, _, _, _, _⟩) hO rfl rfl slice_u64 rfl rfl (src_none (by omega)) (ul_one _) (fun _ => by repeat (exact UpdR.here)) (by simp; omega) (by unfold maxLen; simp; omega) ?_); clear hO; intro A51 c51 wv hO); (try simp only [Act.put]); (try simp only [sI9, sZ9, sS9])
    refine wpList_done (qk_intro ?_)
   refine wpAny_1 12 ?_
   rotate_left 1
   refine wpAny_1 12 ?_
   rotate_left 1
   refine wpAny_1 12 ?_
   rotate_left 1
   all_goals
    refine wpOp_of_listL rfl ?_
    ((refine wpList_step (fun K hK => ?_)); go_simp; ((refine hK _ _ ?_); clear hK K))
    refine wpList_done (qk_intro ?_)
   refine wpAny_done (by kernel_rfl) ?_ _
   rotate_left
   refine wpAny_done (by kernel_rfl) ?_ _
   rotate_left
   refine wpAny_done (by kernel_rfl) ?_ _
   rotate_left
   all_goals
    go_wp2_with fail
    all_goals
     go_ret
     have hX := end_cells (l := l) (k := k) v (by omega)
     obtain ⟨g9, c9, e9, h9, r9, n9⟩ := own_u64 hO hX (by omega)
     rw [Nat.zero_add] at e9
     exact ⟨g9, c9, congrArg Ending.returned e9, h9, r9, .inr n9, hO.keep.below⟩
def rcs : List Rg → List Value
 | [] => []
 | r :: l => .int .u32 r.lo :: .int .u32 r.hi :: rcs l
theorem rcs_at : ∀ {l : List Rg} {i : Nat} (h : i < l.length), (rcs l)[i * 2]? = some (.int .u32 l[i].lo) ∧ (rcs l)[i * 2 + 1]? = some (.int .u32 l[i].hi)
 | r :: l, 0, _ => ⟨rfl, rfl⟩
 | r :: l, i + 1, h => by
  have := rcs_at (l := l) (i := i) (by simpa using h)
  rw [show (i + 1) * 2 = i * 2 + 1 + 1 by omega]
  exact this
theorem starts_take {top : Int} {l : List Rg} {i : Nat} (h : i < l.length) : ptsR top (l.take (i + 1)) = if l[i].lo ≤ l[i].hi then insT top (l[i].hi + 1) (insT top l[i].lo (ptsR top (l.take i))) else ptsR top (l.take i) := by
 unfold ptsR
 rw [List.take_succ_eq_append_getElem h, List.foldl_append]
 rfl
theorem insU_len (v : Int) : ∀ l, (insU v l).length ≤ l.length + 1
 | [] => by simp [insU]
 | x :: l => by
  have := insU_len v l
  unfold insU
  split
  ·simp
  ·split <;> simp <;> omega
theorem insT_len (top v : Int) (l : List Int) : (insT top v l).length ≤ l.length + 1 := by
 unfold insT
 split
 ·omega
 ·exact insU_len v l
theorem ptsR_len (top : Int) (rs : List Rg) : ∀ i, i ≤ rs.length → (ptsR top (rs.take i)).length ≤ 1 + 2 * i
 | 0, _ => by simp [ptsR]
 | i + 1, h => by
  have := ptsR_len top rs i (by omega)
  rw [starts_take (by omega)]
  split
  ·have h1 := insT_len top rs[i].lo (ptsR top (rs.take i))
   have h2 := insT_len top (rs[i].hi + 1) (insT top rs[i].lo (ptsR top (rs.take i)))
   omega
  ·omega
theorem Own.chunkRo {M : List Nat} {w0 w : World} {S : List Ro} {n : Nat} {cs : List Value} {t : TypeId} (hO : Own M w0 [⟨n, cs, t⟩] [] S w) : Own M w0 [] [] (⟨n, 0, cs⟩ :: S) w :=
 (hO.sub (List.nil_sublist _) (.refl _) (fun _ h => h)).addRo ⟨n, 0, cs⟩ (fun j u hj => by rw [(hO.chunk _ List.mem_cons_self).cell (0 + j)]; simpa using hj) (fun _ hm => by simp [excl] at hm)
def NewU4 (w : World) (l : List Int) (e : Ending) (w' : World) : Prop := ∃ g c, e = .returned (.slice (some ⟨g, 0, none⟩) l.length c) ∧ l.length ≤ c ∧ w'.rangeAt g 0 (ul l) ∧ w.heap.size ≤ g ∧ Below w.heap.size w w'
set_option maxHeartbeats 4000000 in
theorem starts_any {vl : Value} {l : List Rg} {top : Int} (w : World) (hv : IsCells w vl l.length (rcs l)) (hn : l.length ≤ 100000000000) (h0 : 0 ≤ top) (h1 : top ≤ 4294967295) (hb : ∀ r ∈ l, 0 ≤ r.lo ∧ r.lo ≤ 4294967295 ∧ 0 ≤ r.hi ∧ r.hi ≤ 4294967295) :
  Calls Tryz.prog 183 #[vl, .int .u32 top] w (NewU4 w (ptsR top l)) := by
 have hO := own_start [] w
 obtain ⟨a, c, rfl, ha, hS⟩ : ∃ a c, vl = .slice a l.length c ∧ (0 < l.length → ∃ g o, a = some ⟨g, o, none⟩) ∧ Own [] w [] [] (roS (.slice a l.length c) (rcs l)) w := by
  rcases hv with ⟨rfl, h2, _⟩ | ⟨g, o, c, rfl, _, h2⟩
  ·exact ⟨none, 0, by rw [h2], fun h => by omega, hO⟩
  ·exact ⟨_, _, rfl, fun _ => ⟨_, _, rfl⟩, hO.addOld ⟨g, o, rcs l⟩ h2⟩
 clear hO
 have hO := hS
 clear hS hv
 go_enter Tryz.func183, Tryz.ntmps183
 go_wp2_with ((with_reducible refine is_build ?_); (refine' own_buildP (o := ⟨some 7, _, _, _, _, _⟩) [.int .u64 0] hO (by rfl) rfl slice_u64 rfl rfl (by rfl) (by decide) (by decide) ?_); clear hO; intro n7 wv hO)
 have hn7 := own_newC (l := 1) (c := 1) hO List.mem_cons_self n7 rfl
 replace hO := hO.chunkRo
 go_loopw [5, 6] (fun o q wr => ∃ i g c', i ≤ l.length ∧ q = .int .i64 (i : Nat) ∧ o = .slice (some ⟨g, 0, none⟩) (ptsR top (l.take i)).length c' ∧ (ptsR top (l.take i)).length ≤ c' ∧ w.heap.size ≤ g ∧ Own [] w [] [] (⟨g, 0, ul (ptsR top (l.take i))⟩ :: roS (.slice a l.length c) (rcs l)) wr) (fun _ q _ => l.length - (intOf q).toNat)
 case atStart => exact ⟨0, n7, 1, by omega, rfl, rfl, by simp [ptsR], hn7, hO⟩
 case round =>
  clear hO hn7
  obtain ⟨i, g, c', hi, rfl, rfl, hc', hg', hO⟩ := hrel
  have y1 : (0 : Int) ≤ (i : Int) := by omega
  have hP := ptsR_len top l i hi
  by_cases hlt : i < l.length
  ·obtain ⟨gl, ol, rfl⟩ := ha (by omega)
   have HT := Lib.hid (starts_take (top := top) hlt)
   obtain ⟨b1, b2, b3, b4⟩ := hb l[i] (List.getElem_mem hlt)
   generalize ptsR top (l.take i) = P at *
   obtain ⟨u1, u2⟩ := rcs_at hlt
   simp only [roS] at hO
   generalize l[i] = r9 at *
   by_cases hle : r9.lo ≤ r9.hi
   ·have g1 : decide (r9.lo ≤ r9.hi) = true := decide_eq_true hle
    have hE := HT.out
    rw [if_pos hle] at hE
    have lA := insT_len top r9.lo P
    have c1 := fun w hr => insert_any (g := g) (c := c') (l := P) (v := r9.lo) (top := top) w hr hc' (by omega) h0 h1
    have c2 := fun g2 d2 w hr hd => insert_any (g := g2) (c := d2) (l := insT top r9.lo P) (v := r9.hi + 1) (top := top) w hr hd (by omega) h0 h1
    generalize insT top r9.lo P = A at *
    generalize insT top (r9.hi + 1) A = B at *
    have s1 : IntKind.u64.wrap r9.lo = r9.lo := by rw [IntKind.wrap_u64]; omega
    have s2 : IntKind.u64.wrap r9.hi = r9.hi := by rw [IntKind.wrap_u64]; omega
    have s3 : IntKind.u64.wrap (r9.hi + 1) = r9.hi + 1 := by rw [IntKind.wrap_u64]; omega
    have s4 : IntKind.i64.wrap ((i : Int) + 1) = (i : Int) + 1 := IntWalk.i64_in _ (by omega)
    have HE := Lib.hid hE
    clear hE
    go_wp2_with fail
    (refine own_quiet hO (by kernel_rfl) (by kernel_rfl) ?_; clear hO; (repeat (go_big_quiet_want; (first | ((with_reducible refine is_loadQ ?_); (refine q_ld (h := ?_)); (try simp only [Act.put]); (try simp only [sI9, sZ9, sS9]); go_big_quiet_on) | (go_big_quiet_op; (first | go_big_quiet_on | ((refine ⟨_, fun _ _ => rfl, ?_⟩); go_big_quiet_on)))))); (refine wpQuiet_nil ?_); intro wv hO)
    go_wp2_with fail
    refine wp_region_any (by kernel_rfl) ?_
    replace hO := hO.drew
    have ix9 := Ix.mk [0, 1, 2, 3, 4, 7, 9, 10, 11, 12, 16]
    iterate 11 (refine wpAny_tk ix9 ?_; replace ix9 := ix9.tail; (first | go_big_quiet_skip | (go_big_quiet_want; (go_big_quiet_op; (first | go_big_quiet_on | ((refine ⟨_, fun _ _ => rfl, ?_⟩); go_big_quiet_on))))); (refine wpQuiet_nil ?_); (try simp only [Act.put]); (try simp only [sI9, sZ9, sS9]))
    clear ix9
    refine wpAny_all (rs := [5, 13]) (by kernel_rfl) (by simp) (ord_cons ?_ (ord_cons ?_ ord_nil))
    rotate_left 2
    all_goals
     refine wpOp_of_listL rfl ?_
     (refine ldN ?_); (try simp only [Act.put]); (try simp only [sI9, sZ9, sS9])
     refine wpList_done (qk_intro ?_)
    refine wpAny_tk (Ix.mk [6]) ?_
    (first | go_big_quiet_skip | (go_big_quiet_want; (go_big_quiet_op; (first | go_big_quiet_on | ((refine ⟨_, fun _ _ => rfl, ?_⟩); go_big_quiet_on))))); (refine wpQuiet_nil ?_); (try simp only [Act.put]); (try simp only [sI9, sZ9, sS9])
    refine wpAny_all (rs := [8, 13]) (by kernel_rfl) (by simp) (ord_cons ?_ (ord_cons ?_ ord_nil))
    rotate_left 2
    have ix9 := Ix.mk [14, 15]
    iterate 2 (refine wpAny_tk ix9 ?_; replace ix9 := ix9.tail; (first | go_big_quiet_skip | (go_big_quiet_want; (go_big_quiet_op; (first | go_big_quiet_on | ((refine ⟨_, fun _ _ => rfl, ?_⟩); go_big_quiet_on))))); (refine wpQuiet_nil ?_); (try simp only [Act.put]); (try simp only [sI9, sZ9, sS9]))
    clear ix9
    refine wpAny_1 5 ?_
    rotate_left 1
    all_goals
     refine wpOp_of_listL rfl ?_
     (first | refine ldN ?_ | ((refine wpList_step (fun K hK => ?_)); go_simp; ((go_at_call 205; (with_reducible refine (c1 _ (hO.ro ⟨g, 0, ul P⟩ List.mem_cons_self)).mono ?_); rintro e wv ⟨g2, d2, rfl, hd2, hr2, hg2, hb9⟩; have hz1 := hO.keep.size; replace hO := (hO.call hb9).addRo ⟨g2, 0, ul A⟩ hr2 (fun _ hm => by simp [excl] at hm); clear hb9 c1); (try simp only []); (refine hK _ _ ?_); clear hK K))); (try simp only [Act.put]); (try simp only [sI9, sZ9, sS9])
     refine wpList_done (qk_intro ?_)
    refine wpAny_1 13 ?_
    rotate_left 1
    have ix9 := Ix.mk [14, 15]
    iterate 2 (refine wpAny_tk ix9 ?_; replace ix9 := ix9.tail; (first | go_big_quiet_skip | (go_big_quiet_want; (go_big_quiet_op; (first | go_big_quiet_on | ((refine ⟨_, fun _ _ => rfl, ?_⟩); go_big_quiet_on))))); (refine wpQuiet_nil ?_); (try simp only [Act.put]); (try simp only [sI9, sZ9, sS9]))
    clear ix9
    refine wpAny_1 8 ?_
    rotate_left 1
    refine wpAny_tk (Ix.mk [6]) ?_
    (first | go_big_quiet_skip | (go_big_quiet_want; (go_big_quiet_op; (first | go_big_quiet_on | ((refine ⟨_, fun _ _ => rfl, ?_⟩); go_big_quiet_on))))); (refine wpQuiet_nil ?_); (try simp only [Act.put]); (try simp only [sI9, sZ9, sS9])
    refine wpAny_1 8 ?_
    rotate_left 1
    all_goals
     refine wpOp_of_listL rfl ?_
     (first | refine ldN ?_ | ((refine wpList_step (fun K hK => ?_)); go_simp; ((go_at_call 205; (with_reducible refine (c1 _ (hO.ro ⟨g, 0, ul P⟩ List.mem_cons_self)).mono ?_); rintro e wv ⟨g2, d2, rfl, hd2, hr2, hg2, hb9⟩; have hz1 := hO.keep.size; replace hO := (hO.call hb9).addRo ⟨g2, 0, ul A⟩ hr2 (fun _ hm => by simp [excl] at hm); clear hb9 c1); (try simp only []); (refine hK _ _ ?_); clear hK K))); (try simp only [Act.put]); (try simp only [sI9, sZ9, sS9])
     refine wpList_done (qk_intro ?_)
    have ix9 := Ix.mk [14, 15]
    iterate 2 (refine wpAny_tk ix9 ?_; replace ix9 := ix9.tail; (first | go_big_quiet_skip | (go_big_quiet_want; (go_big_quiet_op; (first | go_big_quiet_on | ((refine ⟨_, fun _ _ => rfl, ?_⟩); go_big_quiet_on))))); (refine wpQuiet_nil ?_); (try simp only [Act.put]); (try simp only [sI9, sZ9, sS9]))
    clear ix9
    refine wpAny_1 17 ?_
    rotate_left 1
    refine wpAny_1 17 ?_
    rotate_left 1
    refine wpAny_1 17 ?_
    rotate_left 1
    all_goals
     refine wpOp_of_listL rfl ?_
     ((refine wpList_step (fun K hK => ?_)); go_simp; ((go_at_call 205; (with_reducible refine (c2 g2 d2 _ (hO.ro ⟨g2, 0, ul A⟩ List.mem_cons_self) hd2).mono ?_); rintro e wv ⟨g3, d3, rfl, hd3, hr3, hg3, hb9⟩; have hz2 := hO.keep.size; replace hO := (hO.call hb9).addRo ⟨g3, 0, ul B⟩ hr3 (fun _ hm => by simp [excl] at hm); clear hb9); (try simp only []); (refine hK _ _ ?_); clear hK K))
     refine wpList_done (qk_intro ?_)
    refine wpAny_1 18 ?_
    rotate_left 1
    refine wpAny_1 18 ?_
    rotate_left 1
    refine wpAny_1 18 ?_
    rotate_left 1
    all_goals
     refine wpOp_of_listL rfl ?_
     ((refine wpList_step (fun K hK => ?_)); go_simp; ((refine hK _ _ ?_); clear hK K))
     refine wpList_done (qk_intro ?_)
    refine wpAny_done (by kernel_rfl) ?_ _
    rotate_left
    refine wpAny_done (by kernel_rfl) ?_ _
    rotate_left
    refine wpAny_done (by kernel_rfl) ?_ _
    rotate_left
    all_goals
     go_wp2_with fail
     go_roundw
     case rel =>
      refine ⟨i + 1, g3, d3, by omega, by go_num, by rw [HE.out], by rw [HE.out]; exact hd3, by omega, ?_⟩
      rw [HE.out]
      exact hO.sub (.refl _) (.refl _) fun s hs => (List.mem_cons.1 hs).elim (fun h => h ▸ List.mem_cons_self) fun h => List.mem_cons_of_mem _ (List.mem_cons_of_mem _ (List.mem_cons_of_mem _ h))
     case measure => simp [intOf]; omega
   ·have g1 : decide (r9.lo ≤ r9.hi) = false := decide_eq_false hle
    have hE := HT.out
    rw [if_neg hle] at hE
    have s4 : IntKind.i64.wrap ((i : Int) + 1) = (i : Int) + 1 := IntWalk.i64_in _ (by omega)
    have HE := Lib.hid hE
    clear hE
    go_wp2_with fail
    (refine own_quiet hO (by kernel_rfl) (by kernel_rfl) ?_; clear hO; (repeat (go_big_quiet_want; (first | ((with_reducible refine is_loadQ ?_); (refine q_ld (h := ?_)); (try simp only [Act.put]); (try simp only [sI9, sZ9, sS9]); go_big_quiet_on) | (go_big_quiet_op; (first | go_big_quiet_on | ((refine ⟨_, fun _ _ => rfl, ?_⟩); go_big_quiet_on)))))); (refine wpQuiet_nil ?_); intro wv hO)
    go_wp2_with fail
    go_roundw
    case rel =>
     refine ⟨i + 1, g, c', by omega, by go_num, by rw [HE.out], by rw [HE.out]; exact hc', hg', by rw [HE.out]; exact hO⟩
    case measure => simp [intOf]; omega
  ·obtain rfl : i = l.length := by omega
   rw [List.take_length] at hO hc'
   go_wp2_with fail
   go_ret
   exact ⟨g, c', by simp only [List.take_length]; rfl, hc', hO.ro _ List.mem_cons_self, hg', hO.keep.below⟩
def JoinOk (gs : List Grp) (L : List Bx) (p : Int) : Prop := (L ≠ [] → ∃ lo gs', gs = ⟨⟨lo, p - 1⟩, L⟩ :: gs') ∧ (L = [] → ∀ g ∈ gs.head?, g.r.hi + 1 < p)
theorem JoinOk.zero (p : Int) : JoinOk [] [] p := ⟨fun h => absurd rfl h, fun _ g hg => by cases hg⟩
theorem JoinOk.join {gs : List Grp} {L : List Bx} {s : Rg} (h : JoinOk gs L s.lo) (hL : L ≠ []) :
  ∃ lo gs', gs = ⟨⟨lo, s.lo - 1⟩, L⟩ :: gs' ∧ addG s L gs = ⟨⟨lo, s.hi⟩, L⟩ :: gs' ∧ JoinOk (addG s L gs) L (s.hi + 1) := by
 obtain ⟨lo, gs', rfl⟩ := h.1 hL
 have e : addG s L (⟨⟨lo, s.lo - 1⟩, L⟩ :: gs') = ⟨⟨lo, s.hi⟩, L⟩ :: gs' := by
  rw [addG, if_neg hL, if_pos (by dsimp only; exact ⟨by omega, rfl⟩)]
 refine ⟨lo, gs', rfl, e, ?_⟩
 rw [e]
 exact ⟨fun _ => ⟨lo, gs', by rw [show s.hi + 1 - 1 = s.hi by omega]⟩, fun h => absurd h hL⟩
theorem JoinOk.skip {gs : List Grp} {L : List Bx} {s : Rg} (h : JoinOk gs L s.lo) (hs : s.lo ≤ s.hi) : addG s [] gs = gs ∧ JoinOk (addG s [] gs) [] (s.hi + 1) := by
 rw [addG_nil]
 refine ⟨rfl, fun h => absurd rfl h, fun _ g hg => ?_⟩
 by_cases hL : L = []
 ·have := h.2 hL g hg; omega
 ·obtain ⟨lo, gs', rfl⟩ := h.1 hL
  cases hg
  dsimp only; omega
theorem JoinOk.new {gs : List Grp} {L T : List Bx} {s : Rg} (h : JoinOk gs L s.lo) (hT : T ≠ []) (hn : T ≠ L) : addG s T gs = ⟨s, T⟩ :: gs ∧ JoinOk (addG s T gs) T (s.hi + 1) := by
 have e : addG s T gs = ⟨s, T⟩ :: gs := by
  cases gs with
  | nil => rw [addG, if_neg hT]
  | cons g gs =>
   rw [addG, if_neg hT, if_neg]
   rintro ⟨h1, h2⟩
   by_cases hL : L = []
   ·have := h.2 hL g rfl; omega
   ·obtain ⟨lo, gs', h3⟩ := h.1 hL
    rw [List.cons.injEq] at h3
    rw [h3.1] at h2
    exact hn h2.symm
 refine ⟨e, ?_⟩
 rw [e]
 exact ⟨fun _ => ⟨s.lo, gs, by rw [show s.hi + 1 - 1 = s.hi by omega]⟩, fun h => absurd h hT⟩
def boxesG (f : Nat) (gs : List Grp) : List Bx := flatG f gs.reverse
theorem boxesG_cons (f : Nat) (g : Grp) (gs : List Grp) : boxesG f (g :: gs) = boxesG f gs ++ g.rest.map fun x => x.set f g.r := by
 unfold boxesG flatG; rw [List.reverse_cons, List.flatMap_append]; simp
theorem boxesG_length (f : Nat) (gs : List Grp) : (boxesG f gs).length = total gs := flatG_rev_length f gs
theorem boxes_new {f : Nat} {gs : List Grp} {L T : List Bx} {s : Rg} (h : JoinOk gs L s.lo) (hs : s.lo ≤ s.hi) (hn : T = [] ∨ T ≠ L) :
  boxesG f (addG s T gs) = boxesG f gs ++ (T.map fun x => x.set f s) ∧ JoinOk (addG s T gs) T (s.hi + 1) := by
 by_cases hT : T = []
 ·subst hT
  obtain ⟨h1, h2⟩ := h.skip hs
  exact ⟨by rw [h1]; simp, h2⟩
 ·obtain ⟨h1, h2⟩ := h.new hT (hn.resolve_left hT)
  exact ⟨by rw [h1, boxesG_cons], h2⟩
def midJ (f : Nat) (A L : List Bx) (lo h0 h1 : Int) (j : Nat) : List Bx := A ++ ((L.take j).map (fun x => x.set f ⟨lo, h1⟩) ++ (L.drop j).map fun x => x.set f ⟨lo, h0⟩)
theorem midJ_length (f : Nat) (A L : List Bx) (lo h0 h1 : Int) (j : Nat) : (midJ f A L lo h0 h1 j).length = A.length + L.length := by
 unfold midJ; simp; omega
theorem boxes_join {f : Nat} {gs : List Grp} {L : List Bx} {s : Rg} (h : JoinOk gs L s.lo) (hL : L ≠ []) :
  ∃ A lo, boxesG f gs = midJ f A L lo (s.lo - 1) s.hi 0 ∧ boxesG f (addG s L gs) = midJ f A L lo (s.lo - 1) s.hi L.length ∧ JoinOk (addG s L gs) L (s.hi + 1) := by
 obtain ⟨lo, gs', rfl, h2, h3⟩ := h.join hL
 refine ⟨boxesG f gs', lo, ?_, ?_, h3⟩
 ·rw [boxesG_cons]; simp [midJ]
 ·rw [h2, boxesG_cons]; simp [midJ]
theorem set_hi {f : Nat} (hf : f < 5) (x : Bx) (lo h0 h1 : Int) : (x.set f ⟨lo, h0⟩).set f ⟨((x.set f ⟨lo, h0⟩).at f).lo, h1⟩ = x.set f ⟨lo, h1⟩ := Bx.ext_at fun k hk => by
 rw [Bx.at_set _ _ _ hk, Bx.at_set _ _ _ hf, Bx.at_set _ _ _ hk, Bx.at_set _ _ _ hk, if_pos rfl]
 split <;> rfl
theorem midJ_at {f : Nat} {A L : List Bx} {lo h0 h1 : Int} {j : Nat} (h : j < L.length) : ∀ h', (midJ f A L lo h0 h1 j)[A.length + j]'h' = L[j].set f ⟨lo, h0⟩ := by
 intro h'
 have hl : ((L.take j).map fun x => x.set f ⟨lo, h1⟩).length = j := by simp; omega
 have e : (midJ f A L lo h0 h1 j)[A.length + j]? = some (L[j].set f ⟨lo, h0⟩) := by
  unfold midJ
  rw [List.getElem?_append_right (by omega), Nat.add_sub_cancel_left, List.getElem?_append_right (by omega), hl, Nat.sub_self, List.drop_eq_getElem_cons h]
  rfl
 rw [List.getElem?_eq_getElem h'] at e
 exact Option.some.inj e
theorem midJ_set {f : Nat} (hf : f < 5) {A L : List Bx} {lo h0 h1 : Int} {j : Nat} (h : j < L.length) : ∀ h', (midJ f A L lo h0 h1 j).set (A.length + j) (((midJ f A L lo h0 h1 j)[A.length + j]'h').set f ⟨(((midJ f A L lo h0 h1 j)[A.length + j]'h').at f).lo, h1⟩) = midJ f A L lo h0 h1 (j + 1) := by
 intro h'
 have hl : ((L.take j).map fun x => x.set f ⟨lo, h1⟩).length = j := by simp; omega
 rw [midJ_at h h', set_hi hf]
 unfold midJ
 rw [List.set_append_right _ _ (by omega), Nat.add_sub_cancel_left, List.set_append_right _ _ (by omega), hl, Nat.sub_self, List.drop_eq_getElem_cons h, List.take_succ_eq_append_getElem h, List.map_cons, List.set_cons_zero, List.map_append, List.append_assoc]
 rfl
set_option maxHeartbeats 2000000 in
theorem rat_any {vl : Value} {l : List Bx} {f : Nat} {v : Int} (w : World) (hv : IsBoxes w vl l) (hf : f < 5) (kv : vL l) (hl : l.length ≤ 1000000000000) :
  Calls Tryz.prog 184 #[vl, .int .i64 f, .int .u64 v] w (RetBoxes w (covB l f v)) := by
 have hO := own_arg hv
 have T1 := topOf_le f
 obtain ⟨a, c, rfl, ha⟩ := hv.view
 clear hv
 go_enter Tryz.func184, Tryz.ntmps184
 go_wp2_with fail
 replace hO := hO.nilRow 98 10
 go_loopw [7, 8] (fun r i wr => ∃ k : Nat, k ≤ l.length ∧ i = .int .i64 k ∧ Own [] w [] [⟨r, (covB (l.take k) f v).length, cellsB (covB (l.take k) f v), 98, 10⟩] (roS (.slice a l.length c) (cellsB l)) wr) (fun _ i _ => l.length - (intOf i).toNat)
 case atStart => exact ⟨0, by omega, rfl, hO⟩
 case round =>
  clear hO
  obtain ⟨k, hk, rfl, hO⟩ := hrel
  by_cases hlt : k < l.length
  ·obtain ⟨g, o, rfl⟩ := ha (by omega)
   simp only [roS] at hO
   have kb9 := kv l[k] (List.getElem_mem hlt) f hf
   have s1 : IntKind.u64.wrap (l[k].at f).lo = (l[k].at f).lo := by rw [IntKind.wrap_u64]; omega
   have s2 : IntKind.u64.wrap (l[k].at f).hi = (l[k].at f).hi := by rw [IntKind.wrap_u64]; omega
   have HT := Lib.hid (cov_take (f := f) (v := v) hlt)
   have hle : (covB (l.take k) f v).length ≤ k := filter_take_le _ _ _
   generalize covB (l.take k) f v = m at *
   by_cases h1 : (l[k].at f).lo ≤ v
   ·by_cases h2 : v ≤ (l[k].at f).hi
    ·have g1 : decide ((l[k].at f).lo ≤ v) = true := decide_eq_true h1
     have g2 : decide (v ≤ (l[k].at f).hi) = true := decide_eq_true h2
     go_wp2_with (first | refine ldN ?_ | (refine bl9 42 hO ?_; clear hO; intro n42 wv hO) | (refine ap9 43 hO ?_; clear hO; intro g43 c43 wv hO))
     go_roundw
     case rel =>
      refine ⟨k + 1, by omega, by go_num, ?_⟩
      rw [HT.out, g1, g2, Bool.and_self, if_pos rfl, List.length_append, cellsB_append, cellsB_one]
      exact hO.sub (.cons _ (.refl _)) (.refl _) (fun _ h => h)
     case measure => simp [intOf]; omega
    ·have g1 : decide ((l[k].at f).lo ≤ v) = true := decide_eq_true h1
     have g2 : decide (v ≤ (l[k].at f).hi) = false := decide_eq_false h2
     go_wp2_with (refine ldN ?_)
     go_roundw
     case rel =>
      refine ⟨k + 1, by omega, by go_num, ?_⟩
      rw [HT.out, g1, g2, Bool.and_false, if_neg Bool.false_ne_true, List.append_nil]
      exact hO.sub (.refl _) (.refl _) (fun _ h => h)
     case measure => simp [intOf]; omega
   ·have g1 : decide ((l[k].at f).lo ≤ v) = false := decide_eq_false h1
    go_wp2_with (refine ldN ?_)
    go_roundw
    case rel =>
     refine ⟨k + 1, by omega, by go_num, ?_⟩
     rw [HT.out, g1, Bool.false_and, if_neg Bool.false_ne_true, List.append_nil]
     exact hO.sub (.refl _) (.refl _) (fun _ h => h)
    case measure => simp [intOf]; omega
  ·obtain rfl : k = l.length := by omega
   rw [List.take_length] at hO
   go_wp2_with fail
   go_ret
   exact ⟨_, rfl, ⟨own_boxes hO List.mem_cons_self, own_new hO List.mem_cons_self⟩, hO.keep.below⟩
theorem slice_Ranges : SliceT Tryz.prog 155 96 2 8 := ⟨Tryz.underlying155, by omega, by
 obtain ⟨i, h1, h2, h3, h4⟩ := info_parts (show (Tryz.prog.info? 96).map (fun i => (i.zero, i.size, i.bytes)) = some (some (.agg #[.int .u32 0, .int .u32 0]), 2, 8) by kernel_rfl)
 exact ⟨i, _, h1, h2, h3, h4, rfl⟩⟩
theorem und_Ranges : (Tryz.prog).underlying 155 = some (.slice 96) := Tryz.underlying155
theorem rcs_append : ∀ l m : List Rg, rcs (l ++ m) = rcs l ++ rcs m
 | [], _ => rfl
 | r :: l, m => by simp [rcs, rcs_append l m]
theorem rcs_length : ∀ l : List Rg, (rcs l).length = l.length * 2
 | [] => rfl
 | r :: l => by simp [rcs, rcs_length l]; omega
def rgs (f : Nat) (l : List Bx) : List Rg := l.map (·.at f)
theorem rgs_take {f : Nat} {l : List Bx} {k : Nat} (h : k < l.length) : rgs f (l.take (k + 1)) = rgs f (l.take k) ++ [l[k].at f] := by
 unfold rgs
 rw [List.take_succ_eq_append_getElem h, List.map_append]
 rfl
def RetRgs (w : World) (l : List Rg) (e : Ending) (w' : World) : Prop := ∃ v, e = .returned v ∧ (IsCells w' v l.length (rcs l) ∧ NewFrom w v) ∧ Below w.heap.size w w'
theorem own_rgs {M : List Nat} {w0 w : World} {X : List Chunk} {R : List Row} {S : List Ro} (hO : Own M w0 X R S w) {v : Value} {k : Nat} {l : List Rg} (hm : (⟨v, k, rcs l, 96, 2⟩ : Row) ∈ R) : IsCells w v l.length (rcs l) := by
 obtain ⟨h1, h2⟩ := hO.row _ hm
 dsimp only at h1 h2
 have hk : l.length = k := by rw [rcs_length] at h1; omega
 rcases h2 with ⟨hv, h0⟩ | ⟨g, cap, cur, hv, _, hg, hc, _, _, ht⟩
 ·left
  obtain rfl : l = [] := List.length_eq_zero_iff.1 (by omega)
  exact ⟨hv, rfl, rfl⟩
 ·right
  refine ⟨g, 0, cap, by rw [hv, hk], by rw [hk]; exact hc, fun j u hj => ?_⟩
  rw [cell_of_row w g (0 + j) cur _ _ hg]
  rw [← ht, List.getElem?_take] at hj
  split at hj
  ·simpa using hj
  ·cases hj
theorem rgs_length (f : Nat) (l : List Bx) : (rgs f l).length = l.length := by simp [rgs]
set_option maxHeartbeats 4000000 in
theorem ranges_any {va vb : Value} {la lb : List Bx} {f : Nat} (w : World) (hva : IsBoxes w va la) (hvb : IsBoxes w vb lb) (hf : f < 5) (na : la.length ≤ 1000000000000) (nb : lb.length ≤ 1000000000000) :
  Calls Tryz.prog 159 #[va, vb, .int .i64 f] w (RetRgs w (rgs f la ++ rgs f lb)) := by
 have hO := roS_arg2 hva hvb
 obtain ⟨a, c, rfl, ha⟩ := hva.view
 obtain ⟨a2, c2, rfl, ha2⟩ := hvb.view
 clear hva hvb
 have y1 : (0 : Int) ≤ (f : Int) := by omega
 have y2 : (f : Int) < 5 := by omega
 go_enter Tryz.func159, Tryz.ntmps159
 go_wp2_with fail
 replace hO := hO.nilRow 96 2
 have hS1 : ∀ s ∈ roS (.slice a la.length c) (cellsB la), s ∈ roS (.slice a la.length c) (cellsB la) ++ roS (.slice a2 lb.length c2) (cellsB lb) := fun s h => List.mem_append_left _ h
 have hS2 : ∀ s ∈ roS (.slice a2 lb.length c2) (cellsB lb), s ∈ roS (.slice a la.length c) (cellsB la) ++ roS (.slice a2 lb.length c2) (cellsB lb) := fun s h => List.mem_append_right _ h
 generalize roS (.slice a la.length c) (cellsB la) ++ roS (.slice a2 lb.length c2) (cellsB lb) = SS at *
 go_loopw [7, 8] (fun r q wr => ∃ k : Nat, k ≤ la.length ∧ q = .int .i64 k ∧ Own [] w [] [⟨r, k, rcs (rgs f (la.take k)), 96, 2⟩] SS wr) (fun _ q _ => la.length - (intOf q).toNat)
 case atStart => exact ⟨0, by omega, rfl, hO⟩
 case round =>
  clear hO
  obtain ⟨k, hk, rfl, hO⟩ := hrel
  by_cases hlt : k < la.length
  ·obtain ⟨g, o, rfl⟩ := ha (by omega)
   have hm1 := hS1 ⟨g, o, cellsB la⟩ (by simp [roS])
   replace hO := hO.sub (S' := ⟨g, o, cellsB la⟩ :: SS) (.refl _) (.refl _) (fun s hs => (List.mem_cons.1 hs).elim (fun h => h ▸ hm1) id)
   have t1 := cb_rg la hlt hf
   have HT := Lib.hid (rgs_take (f := f) hlt)
   generalize rgs f (la.take k) = m at *
   clear hm1 hS1 hS2
   go_wp2_with (first | refine ldN ?_ | (refine' own_build1 (o := ⟨some 23, _, _, _, _, _⟩) hO (by rfl) rfl rfl ?hu ?hf ?_; (case hu => (exact und_Ranges)); (case hf => kernel_rfl); clear hO; intro n23 wv hO) | (refine ap9 24 hO ?_; clear hO; intro g24 c24 wv hO))
   go_roundw
   case rel =>
    refine ⟨k + 1, by omega, by go_num, ?_⟩
    rw [HT.out, rcs_append]
    exact hO.sub (.cons _ (.refl _)) (.refl _) (fun _ h => List.mem_cons_of_mem _ h)
   case measure => simp [intOf]; omega
  ·obtain rfl : k = la.length := by omega
   rw [List.take_length] at hO
   go_wp2_with fail
   go_loopw [7, 9] (fun r q wr => ∃ k : Nat, k ≤ lb.length ∧ q = .int .i64 k ∧ Own [] w [] [⟨r, la.length + k, rcs (rgs f la ++ rgs f (lb.take k)), 96, 2⟩] SS wr) (fun _ q _ => lb.length - (intOf q).toNat)
   case atStart => exact ⟨0, by omega, rfl, by simpa [rgs] using hO⟩
   case round =>
    clear hO
    obtain ⟨k, hk2, rfl, hO⟩ := hrel
    by_cases hlt2 : k < lb.length
    ·obtain ⟨g, o, rfl⟩ := ha2 (by omega)
     have hm1 := hS2 ⟨g, o, cellsB lb⟩ (by simp [roS])
     replace hO := hO.sub (S' := ⟨g, o, cellsB lb⟩ :: SS) (.refl _) (.refl _) (fun s hs => (List.mem_cons.1 hs).elim (fun h => h ▸ hm1) id)
     have t1 := cb_rg lb hlt2 hf
     have HT := Lib.hid (show rgs f la ++ rgs f (lb.take (k + 1)) = (rgs f la ++ rgs f (lb.take k)) ++ [lb[k].at f] by rw [rgs_take hlt2, List.append_assoc])
     generalize rgs f la ++ rgs f (lb.take k) = m at *
     clear hm1 hS1 hS2
     go_wp2_with (first | refine ldN ?_ | (refine' own_build1 (o := ⟨some 38, _, _, _, _, _⟩) hO (by rfl) rfl rfl ?hu ?hf ?_; (case hu => (exact und_Ranges)); (case hf => kernel_rfl); clear hO; intro n38 wv hO) | (refine ap9 39 hO ?_; clear hO; intro g39 c39 wv hO))
     go_roundw
     case rel =>
      refine ⟨k + 1, by omega, by go_num, ?_⟩
      rw [HT.out, rcs_append]
      exact hO.sub (.cons _ (.refl _)) (.refl _) (fun _ h => List.mem_cons_of_mem _ h)
     case measure => simp [intOf]; omega
    ·obtain rfl : k = lb.length := by omega
     rw [List.take_length] at hO
     go_wp2_with fail
     go_ret
     exact ⟨_, rfl, ⟨own_rgs hO List.mem_cons_self, own_new hO List.mem_cons_self⟩, hO.keep.below⟩
def noB (o : Int) (x y : Bool) : Bool := if o = 1 then !x || !y else if o = 2 then !x else !x && !y
theorem holds_any (o : Int) (x y : Bool) (w : World) (ho : o = 0 ∨ o = 1 ∨ o = 2 ∨ o = 3) : Calls Tryz.prog 181 #[.int .i64 o, .bool x, .bool y] w fun e w' => e = .returned (.bool (if o = 0 then orB x y else if o = 1 then andB x y else if o = 2 then exB x y else xorB x y)) ∧ w = w' := by
  rcases ho with rfl | rfl | rfl | rfl <;> cases x <;> cases y <;>
    (go_enter Tryz.func181, Tryz.ntmps181
     go_wp2_with fail
     go_ret
     exact ⟨rfl, rfl⟩)
theorem none_any (o : Int) (x y : Bool) (w : World) (ho : o = 0 ∨ o = 1 ∨ o = 2 ∨ o = 3) : Calls Tryz.prog 182 #[.int .i64 o, .bool x, .bool y] w fun e w' => e = .returned (.bool (noB o x y)) ∧ w = w' := by
  rcases ho with rfl | rfl | rfl | rfl <;> cases x <;> cases y <;>
    (go_enter Tryz.func182, Tryz.ntmps182
     go_wp2_with fail
     go_ret
     exact ⟨rfl, rfl⟩)
structure OpR (o : Int) (op : Bool → Bool → Bool) : Prop where
 holds : ∀ (x y : Bool) (w : World), Calls Tryz.prog 181 #[.int .i64 o, .bool x, .bool y] w fun e w' => e = .returned (.bool (op x y)) ∧ w = w'
 none : ∀ (x y : Bool) (w : World), Calls Tryz.prog 182 #[.int .i64 o, .bool x, .bool y] w fun e w' => e = .returned (.bool (noB o x y)) ∧ w = w'
 nil : ∀ (f n : Nat) (a b : List Bx), noB o (!a.isEmpty) (!b.isEmpty) = true → canonF op f n a b = []
theorem opr_or : OpR 0 orB := ⟨fun x y w => holds_any 0 x y w (by simp), fun x y w => none_any 0 x y w (by simp), fun f n a b h => by
 cases a <;> cases b <;> simp [noB] at h
 exact canonF_nil rfl n f⟩
theorem opr_and : OpR 1 andB := ⟨fun x y w => holds_any 1 x y w (by simp), fun x y w => none_any 1 x y w (by simp), fun f n a b h => by
 cases a
 ·exact canonF_left (fun _ => rfl) n f b
 ·cases b
  ·exact canonF_right (fun p => by cases p <;> rfl) n f _
  ·simp [noB] at h⟩
theorem opr_ex : OpR 2 exB := ⟨fun x y w => holds_any 2 x y w (by simp), fun x y w => none_any 2 x y w (by simp), fun f n a b h => by
 cases a
 ·exact canonF_left (fun _ => rfl) n f b
 ·simp [noB] at h⟩
end Go.Proofs.YtbdfblgdmappeaaGreatDoor
