/- slices.Sort and slices.Compact at numbers: the kit's layings, as its tool writes them, turned to names. -/
import Derived.Shelf.Sort.Plain
import Derived.Shelf.Slices.CompactI
import Derived.Test.YtfhkmkbfgmbbaaaGreatDoorRows
import Derived.Test.YtfhkmkbfgmbbaaaGreatDoorMG
import Derived.Test.YtfhkmkbfgmbbaaaGreatDoorMB
import Derived.Test.YtfhkmkbfgmbbaaaGreatDoorMD
import Derived.Test.YtfhkmkbfgmbbaaaGreatDoorMH
import Derived.Test.YtfhkmkbfgmbbaaaGreatDoorMC
namespace Go.Proofs.YtfhkmkbfgmbbaaaGreatDoor
open Go.Shelf
def sortIntsLay_ren : Go.Shelf.Ren := ⟨fun | 189 => 30 | 125 => 49 | 257 => 48 | 128 => 74 | 129 => 75 | 294 => 65 | 295 => 66 | 296 => 67 | 297 => 68 | 298 => 69 | 299 => 70 | 216 => 71 | 300 => 72 | 301 => 73 | 328 => 83 | 329 => 84 | 330 => 85 | 331 => 86 | 332 => 87 | 215 => 88 | 343 => 98 | n => n, fun | 28 => 22 | 3 => 3 | 46 => 71 | 0 => 0 | 51 => 28 | 53 => 54 | 4 => 4 | 183 => 89 | 182 => 88 | 131 => 58 | 5 => 5 | 9 => 9 | 218 => 101 | 222 => 105 | 228 => 114 | 229 => 61 | n => n, fun | n => n⟩
theorem sortIntsLay : Go.Proofs.Lays.n189 Tryz.prog sortIntsLay_ren := {
  mixed := by kernel_rfl
  f125 := Tryz.func49.trans (congrArg some (by kernel_rfl))
  f128 := Tryz.func74.trans (congrArg some (by kernel_rfl))
  f129 := Tryz.func75.trans (congrArg some (by kernel_rfl))
  f189 := Tryz.func30.trans (congrArg some (by kernel_rfl))
  f215 := Tryz.func88.trans (congrArg some (by kernel_rfl))
  f216 := Tryz.func71.trans (congrArg some (by kernel_rfl))
  f257 := Tryz.func48.trans (congrArg some (by kernel_rfl))
  f294 := Tryz.func65.trans (congrArg some (by kernel_rfl))
  f295 := Tryz.func66.trans (congrArg some (by kernel_rfl))
  f296 := Tryz.func67.trans (congrArg some (by kernel_rfl))
  f297 := Tryz.func68.trans (congrArg some (by kernel_rfl))
  f298 := Tryz.func69.trans (congrArg some (by kernel_rfl))
  f299 := Tryz.func70.trans (congrArg some (by kernel_rfl))
  f300 := Tryz.func72.trans (congrArg some (by kernel_rfl))
  f301 := Tryz.func73.trans (congrArg some (by kernel_rfl))
  f328 := Tryz.func83.trans (congrArg some (by kernel_rfl))
  f329 := Tryz.func84.trans (congrArg some (by kernel_rfl))
  f330 := Tryz.func85.trans (congrArg some (by kernel_rfl))
  f331 := Tryz.func86.trans (congrArg some (by kernel_rfl))
  f332 := Tryz.func87.trans (congrArg some (by kernel_rfl))
  f343 := Tryz.func98.trans (congrArg some (by kernel_rfl))
  t0 := Tryz.underlying0
  a0 := Tryz.isAgg0
  z0 := Tryz.sizeOf0
  v0 := Tryz.zeroValue0
  t3 := Tryz.underlying3
  a3 := Tryz.isAgg3
  z3 := Tryz.sizeOf3
  v3 := Tryz.zeroValue3
  t4 := Tryz.underlying4
  a4 := Tryz.isAgg4
  z4 := Tryz.sizeOf4
  v4 := Tryz.zeroValue4
  t5 := Tryz.underlying5
  a5 := Tryz.isAgg5
  z5 := Tryz.sizeOf5
  v5 := Tryz.zeroValue5
  t9 := Tryz.underlying9
  a9 := Tryz.isAgg9
  z9 := Tryz.sizeOf9
  v9 := Tryz.zeroValue9
  t28 := Tryz.underlying22
  a28 := Tryz.isAgg22
  z28 := Tryz.sizeOf22
  v28 := Tryz.zeroValue22
  t46 := Tryz.underlying71
  a46 := Tryz.isAgg71
  z46 := Tryz.sizeOf71
  v46 := Tryz.zeroValue71
  t51 := Tryz.underlying28
  a51 := Tryz.isAgg28
  z51 := Tryz.sizeOf28
  v51 := Tryz.zeroValue28
  t53 := Tryz.underlying54
  a53 := Tryz.isAgg54
  z53 := Tryz.sizeOf54
  v53 := Tryz.zeroValue54
  t131 := Tryz.underlying58
  a131 := Tryz.isAgg58
  z131 := Tryz.sizeOf58
  v131 := Tryz.zeroValue58
  t182 := Tryz.underlying88
  a182 := Tryz.isAgg88
  z182 := Tryz.sizeOf88
  v182 := Tryz.zeroValue88
  t183 := Tryz.underlying89
  a183 := Tryz.isAgg89
  z183 := Tryz.sizeOf89
  v183 := Tryz.zeroValue89
  t218 := Tryz.underlying101
  a218 := Tryz.isAgg101
  z218 := Tryz.sizeOf101
  v218 := Tryz.zeroValue101
  t222 := Tryz.underlying105
  a222 := Tryz.isAgg105
  z222 := Tryz.sizeOf105
  v222 := Tryz.zeroValue105
  t228 := Tryz.underlying114
  a228 := Tryz.isAgg114
  z228 := Tryz.sizeOf114
  v228 := Tryz.zeroValue114
  t229 := Tryz.underlying61
  a229 := Tryz.isAgg61
  z229 := Tryz.sizeOf61
  v229 := Tryz.zeroValue61 }
def compactLay_ren : Go.Shelf.Ren := ⟨fun | 20 => 31 | n => n, fun | 22 => 22 | 3 => 3 | 4 => 4 | 0 => 0 | n => n, fun | n => n⟩
theorem compactLay : Go.Proofs.Lays2.n20 Tryz.prog compactLay_ren := {
  mixed := by kernel_rfl
  f20 := Tryz.func31.trans (congrArg some (by kernel_rfl))
  t0 := Tryz.underlying0
  a0 := Tryz.isAgg0
  z0 := Tryz.sizeOf0
  v0 := Tryz.zeroValue0
  t3 := Tryz.underlying3
  a3 := Tryz.isAgg3
  z3 := Tryz.sizeOf3
  v3 := Tryz.zeroValue3
  t4 := Tryz.underlying4
  a4 := Tryz.isAgg4
  z4 := Tryz.sizeOf4
  v4 := Tryz.zeroValue4
  t22 := Tryz.underlying22
  a22 := Tryz.isAgg22
  z22 := Tryz.sizeOf22
  v22 := Tryz.zeroValue22
  i3 := by kernel_rfl }
end Go.Proofs.YtfhkmkbfgmbbaaaGreatDoor

/- The segments of the week: plain. -/
namespace Go.Proofs.YtfhkmkbfgmbbaaaGreatDoor
/-- the minutes from 1 on, n of them -/
def mins : Nat → List Int
  | 0 => []
  | n + 1 => mins n ++ [(n : Int) + 1]
theorem mem_mins {x : Int} : ∀ {n : Nat}, x ∈ mins n ↔ 1 ≤ x ∧ x ≤ n
  | 0 => by simp [mins]; omega
  | n + 1 => by
    rw [mins, List.mem_append, mem_mins, List.mem_singleton]
    omega
theorem mins_asc : ∀ n, (mins n).Pairwise (· < ·)
  | 0 => List.Pairwise.nil
  | n + 1 => by
    rw [mins, List.pairwise_append]
    exact ⟨mins_asc n, List.pairwise_singleton .., fun a ha b hb => by
      have := mem_mins.1 ha
      rw [List.mem_singleton] at hb
      omega⟩
/-- the segments, as the reference finds them among the first n minutes -/
def segR (ls : List (List Rg)) (n : Nat) : List Int := 0 :: (mins n).filter fun m => ls.any fun l => turnB l m
theorem segR_asc (ls : List (List Rg)) (n : Nat) : (segR ls n).Pairwise (· < ·) := by
  unfold segR
  rw [List.pairwise_cons]
  refine ⟨fun x hx => ?_, (mins_asc n).filter _⟩
  have := mem_mins.1 (List.mem_filter.1 hx).1
  omega
theorem mem_segR {ls : List (List Rg)} {x : Int} : x ∈ segR ls 10079 ↔ x = 0 ∨ 1 ≤ x ∧ x < 10080 ∧ ∃ l ∈ ls, turnB l x = true := by
  unfold segR
  rw [List.mem_cons, List.mem_filter, mem_mins, List.any_eq_true]
  constructor
  · rintro (h | ⟨⟨h1, h2⟩, h3⟩)
    · exact .inl h
    · exact .inr ⟨h1, by omega, h3⟩
  · rintro (h | ⟨h1, h2, h3⟩)
    · exact .inl h
    · exact .inr ⟨⟨h1, by omega⟩, h3⟩
/-- what the program collects, sorted and without repeats, are the segments -/
theorem seg_eq {ls : List (List Rg)} {s : List Int} (hb : ∀ l ∈ ls, BndR l) (hs : s.Pairwise (· ≤ ·)) (hm : ∀ x, x ∈ s ↔ x = 0 ∨ ∃ l ∈ ls, ∃ r ∈ canU l, (x = r.lo ∨ x = r.hi + 1) ∧ x < 10080) : cpt s = segR ls 10079 := by
  obtain ⟨h1, h2⟩ := cpt_spec hs
  refine asc_ext h1 (segR_asc ls 10079) fun x => ?_
  rw [h2, hm, mem_segR]
  constructor
  · rintro (h | ⟨l, hl, r, hr, h3, h4⟩)
    · exact .inl h
    · have hr2 := canU_bnd (hb l hl) r hr
      by_cases h0 : x = 0
      · exact .inl h0
      · exact .inr ⟨by omega, h4, l, hl, (turn_iff (hb l hl) x).2 ⟨r, hr, h3⟩⟩
  · rintro (h | ⟨h3, h4, l, hl, h5⟩)
    · exact .inl h
    · obtain ⟨r, hr, h6⟩ := (turn_iff (hb l hl) x).1 h5
      exact .inr ⟨l, hl, r, hr, h6, h4⟩
end Go.Proofs.YtfhkmkbfgmbbaaaGreatDoor

/- slices.Sort and slices.Compact at numbers. -/
namespace Go.Proofs.YtfhkmkbfgmbbaaaGreatDoor
open Go.RowKit Go.Lib
open Go.Shelf
open Go.Sort hiding Below
set_option maxRecDepth 100000
theorem intsK_len (l : List Int) : (ints l).length = l.length := by simp [ints]
theorem intsK_at {l : List Int} {k : Nat} (h : k < l.length) : (ints l)[k]? = some (.int .i64 l[k]) := by simp [ints, h]
theorem holds_int {w : World} {g m cap : Nat} {l : List Int} (h : w.ownsRow 0 3 1 (.slice (some ⟨g, 0, none⟩) m cap) m (ints l)) : Holds (Value.int .i64) w g 0 l.toArray ∧ g < w.heap.size ∧ l.length = m ∧ m ≤ cap := by
  obtain ⟨hl, ⟨hn, -⟩ | ⟨g', cap', cur, hv, -, hg, hc, hm, hs, ht⟩⟩ := h
  · cases hn
  · cases hv
    have hlm : l.length = m := by rw [intsK_len] at hl; omega
    have hlt : g < w.heap.size := by
      rcases Nat.lt_or_ge g w.heap.size with h' | h'
      · exact h'
      · rw [Array.getElem?_eq_none h'] at hg; cases hg
    refine ⟨?_, hlt, hlm, hc⟩
    unfold Holds
    intro j hj
    have hj' : j < l.length := by simpa using hj
    refine ⟨?_, frozen_of_row w g _ _ _ hg⟩
    rw [Nat.zero_add, cell_of_row w g j cur 3 (0, 0) hg, getElem!_pos _ j (by simpa using hj)]
    have h1 : (cur.toList.take (m * 1))[j]? = (ints l)[j]? := by rw [ht]
    rw [List.getElem?_take_of_lt (by omega), intsK_at hj'] at h1
    rw [← Array.getElem?_toList, h1]
    simp
/-- what is left when a row's numbers are put anew -/
theorem put_int {w : World} {g m cap n : Nat} {xs : List Value} {d : Array Int} {os : Array Obj} (h : w.ownsRow 0 3 1 (.slice (some ⟨g, 0, none⟩) m cap) m xs) (hd : d.size = m) :
    Keep [g] w (grow (putRow (Value.int .i64) (Sort.ahead w n) g 0 d) os) ∧ (grow (putRow (Value.int .i64) (Sort.ahead w n) g 0 d) os).ownsRow 0 3 1 (.slice (some ⟨g, 0, none⟩) m cap) m (ints d.toList) := by
  obtain ⟨hl, ⟨hn, -⟩ | ⟨g', cap', cur, hv, -, hg, hc, hm, hs, ht⟩⟩ := h
  · cases hn
  · cases hv
    have hlt : g < w.heap.size := by
      rcases Nat.lt_or_ge g w.heap.size with h' | h'
      · exact h'
      · rw [Array.getElem?_eq_none h'] at hg; cases hg
    have hr : (ints d.toList).length = m * 1 := by rw [intsK_len]; simp [hd]
    have hH : (grow (putRow (Value.int .i64) (Sort.ahead w n) g 0 d) os).heap = w.heap.modify g (onCells (putCells (Value.int .i64) 0 d)) ++ os := rfl
    have hk : ∀ k, k < w.heap.size → k ≠ g → (grow (putRow (Value.int .i64) (Sort.ahead w n) g 0 d) os).heap[k]? = w.heap[k]? := by
      intro k hk hne
      rw [hH, Array.getElem?_append_left (by simpa using hk), Array.getElem?_modify, if_neg (fun e => hne e.symm)]
    have hG : (grow (putRow (Value.int .i64) (Sort.ahead w n) g 0 d) os).heap[g]? = some (.cells (putCells (Value.int .i64) 0 d cur) 3 (0, 0)) := by
      rw [hH, Array.getElem?_append_left (by simpa using hlt), Array.getElem?_modify, if_pos rfl, hg]; rfl
    refine ⟨⟨rfl, rfl, rfl, by rw [hH]; simp, fun k hk' hm' => hk k hk' (by simpa using hm')⟩, hr, .inr ⟨g, cap, _, rfl, Nat.zero_le _, hG, hc, hm, by simp [putCells, hs], ?_⟩⟩
    apply List.ext_getElem?
    intro j
    rcases Nat.lt_or_ge j (m * 1) with hj | hj
    · rw [List.getElem?_take_of_lt hj, Array.getElem?_toList]
      have hjc : j < cur.size := by rw [hs]; exact Nat.lt_of_lt_of_le hj (Nat.mul_le_mul_right 1 hc)
      have hjd : j < d.size := by omega
      have hjr : j < d.toList.length := by simpa using hjd
      unfold putCells
      rw [Array.getElem?_mapIdx, Array.getElem?_eq_getElem hjc, Option.map_some, if_pos ⟨Nat.zero_le _, by omega⟩, Nat.sub_zero, intsK_at hjr, getElem!_pos d j hjd]
      simp
    · rw [List.getElem?_eq_none (by simp; omega), List.getElem?_eq_none (by omega)]
theorem frontK {base size n m g c : Nat} {e : TypeId} {xs : List Value} {w : World} (h : w.ownsRow base e size (.slice (some ⟨g, 0, none⟩) n c) n xs) (hm : m ≤ n) : w.ownsRow base e size (.slice (some ⟨g, 0, none⟩) m c) m (xs.take (m * size)) := by
  have hle : m * size ≤ n * size := Nat.mul_le_mul_right _ hm
  rcases h.2 with ⟨h1, _⟩ | ⟨g', c', cur, h1, hb, hg, hnc, hcm, hcs, ht⟩
  · cases h1
  · cases h1
    refine ⟨by rw [List.length_take, h.1]; omega, .inr ⟨g, c, cur, rfl, hb, hg, by omega, hcm, hcs, ?_⟩⟩
    rw [← ht, List.take_take, Nat.min_eq_left hle]
theorem compact_cpt (l : List Int) : Lib.compact l = cpt l := by
  have h : ∀ m, m ≤ l.length → compactUpTo l.toArray m = cpt (l.take m) := by
    intro m
    induction m with
    | zero => intro _; rfl
    | succ m ih =>
      intro hm
      rw [compactUpTo_succ, ih (by omega)]
      have hg : l.toArray[m]! = l[m] := by rw [getElem!_pos l.toArray m (by simp; omega)]; simp
      cases m with
      | zero =>
        rw [if_pos (keeps_lt_one _ 0 (by omega)), hg, List.take_succ_eq_append_getElem (by omega)]
        rfl
      | succ k =>
        have hg2 : l.toArray[k]! = l[k] := by rw [getElem!_pos l.toArray k (by simp; omega)]; simp
        rw [cpt_take (by omega)]
        by_cases e : l[k] = l[k + 1]
        · rw [if_pos e, keeps_neg (by omega) (by rw [hg, Nat.add_sub_cancel, hg2, e])]
          simp
        · rw [if_neg e, if_pos (keeps_pos (by rw [hg, Nat.add_sub_cancel, hg2]; exact fun h => e h.symm)), hg]
  have := h l.length (Nat.le_refl _)
  rw [List.take_length] at this
  exact this
theorem sortInts_any {g m cap : Nat} {l : List Int} (w : World) (h : w.ownsRow 0 3 1 (.slice (some ⟨g, 0, none⟩) m cap) m (ints l)) (hl : l.length ≤ 1000000000000) :
    Calls Tryz.prog 30 #[.slice (some ⟨g, 0, none⟩) m cap] w fun e w' =>
      e = .returned (.tuple #[]) ∧ ∃ s : List Int, s.Perm l ∧ s.Pairwise (· ≤ ·) ∧ Keep [g] w w' ∧ w'.ownsRow 0 3 1 (.slice (some ⟨g, 0, none⟩) m cap) m (ints s) := by
  obtain ⟨hH, hg, rfl, -⟩ := holds_int h
  refine (Any.slices_Sort_int sortIntsLay g 0 cap l w hH hg (by omega)).mono fun e w' ⟨he, n, os, hw⟩ => ⟨he, l.mergeSort fun x y => decide (x ≤ y), List.mergeSort_perm _ _, ?_, ?_⟩
  · refine (List.pairwise_mergeSort (le := fun x y : Int => decide (x ≤ y)) (fun a b c h1 h2 => ?_) (fun a b => ?_) l).imp fun h => of_decide_eq_true h
    · simp only [decide_eq_true_eq] at *; omega
    · simp only [Bool.or_eq_true, decide_eq_true_eq]; omega
  · subst hw
    exact put_int h (by simp)
theorem compactInts_any {g m cap : Nat} {l : List Int} (w : World) (h : w.ownsRow 0 3 1 (.slice (some ⟨g, 0, none⟩) m cap) m (ints l)) (hl : l.length ≤ 1000000000000) :
    Calls Tryz.prog 31 #[.slice (some ⟨g, 0, none⟩) m cap] w fun e w' =>
      e = .returned (.slice (some ⟨g, 0, none⟩) (cpt l).length cap) ∧ Keep [g] w w' ∧ w'.ownsRow 0 3 1 (.slice (some ⟨g, 0, none⟩) (cpt l).length cap) (cpt l).length (ints (cpt l)) := by
  obtain ⟨hH, hg, rfl, hc⟩ := holds_int h
  refine (Any.slices_Compact_int compactLay g 0 cap l w hH (by omega) hc).mono fun e w' ⟨he, q, hw⟩ => ?_
  rw [compact_cpt] at he hw
  have hle : (cpt l).length ≤ l.length := by have := cpt_le l []; simpa [cpt] using this
  subst hw
  have hp := put_int (n := q) (os := #[]) h (d := (cpt l ++ List.replicate (l.length - (cpt l).length) 0).toArray) (by simp; omega)
  rw [grow_empty] at hp
  refine ⟨he, hp.1, ?_⟩
  have hf := frontK hp.2 hle
  dsimp only at hf
  rw [show (ints (cpt l ++ List.replicate (l.length - (cpt l).length) 0)).take ((cpt l).length * 1) = ints (cpt l) by
    rw [show ints (cpt l ++ List.replicate (l.length - (cpt l).length) 0) = ints (cpt l) ++ ints (List.replicate (l.length - (cpt l).length) 0) by simp [ints], List.take_left' (by rw [intsK_len]; omega)]] at hf
  exact hf
end Go.Proofs.YtfhkmkbfgmbbaaaGreatDoor

/- calendar.Segments. -/
namespace Go.Proofs.YtfhkmkbfgmbbaaaGreatDoor
open Go.RowKit
set_option maxRecDepth 100000
theorem slice_intsS : SliceT Tryz.prog 22 3 1 8 := ⟨Tryz.underlying22, by omega, by
  obtain ⟨i, h1, h2, h3, h4⟩ := info_parts (show (Tryz.prog.info? 3).map (fun i => (i.zero, i.size, i.bytes)) = some (some (.int .i64 0), 1, 8) by kernel_rfl)
  exact ⟨i, _, h1, h2, h3, h4, rfl⟩⟩
/-- the ends of a range that lie in the week -/
def edR (r : Rg) : List Int := (if r.lo < 10080 then [r.lo] else []) ++ (if r.hi + 1 < 10080 then [r.hi + 1] else [])
/-- what is collected behind k windows and i ranges of the next one -/
def accW (Ks : List (List Rg)) (k : Nat) (C : List Rg) (i : Nat) : List Int := 0 :: ((Ks.take k).flatMap fun K => (canU K).flatMap edR) ++ (C.take i).flatMap edR
theorem accW_step (Ks : List (List Rg)) (k : Nat) {C : List Rg} {i : Nat} (h : i < C.length) : accW Ks k C (i + 1) = accW Ks k C i ++ edR C[i] := by
  unfold accW
  rw [List.take_succ_eq_append_getElem h, List.flatMap_append, List.append_assoc]
  simp
theorem accW_next {Ks : List (List Rg)} {k : Nat} (h : k < Ks.length) (C : List Rg) : accW Ks (k + 1) C 0 = accW Ks k (canU Ks[k]) (canU Ks[k]).length := by
  unfold accW
  rw [List.take_succ_eq_append_getElem h, List.flatMap_append, List.take_length]
  simp
theorem accW_zero (Ks : List (List Rg)) (k : Nat) (C D : List Rg) : accW Ks k C 0 = accW Ks k D 0 := rfl
theorem edR_len (r : Rg) : (edR r).length ≤ 2 := by unfold edR; split <;> split <;> simp
theorem flat_len {α : Type} {f : α → List Int} {m : Nat} : ∀ {l : List α}, (∀ x ∈ l, (f x).length ≤ m) → (l.flatMap f).length ≤ l.length * m
  | [], _ => by simp
  | x :: l, h => by
    have h1 := h x (by simp)
    have h2 := flat_len (l := l) fun y hy => h y (List.mem_cons_of_mem _ hy)
    rw [List.flatMap_cons, List.length_append, List.length_cons, Nat.succ_mul]
    omega
theorem accW_len {Ks : List (List Rg)} {k : Nat} {C : List Rg} {i : Nat} (hk : Ks.length ≤ 10) (hK : ∀ K ∈ Ks, K.length ≤ 100000) (hC : C.length ≤ 200001) : (accW Ks k C i).length ≤ 5000000 := by
  have h1 : ((Ks.take k).flatMap fun K => (canU K).flatMap edR).length ≤ (Ks.take k).length * 400002 := flat_len fun K hm => by
    have h2 := flat_len (f := edR) (m := 2) (l := canU K) fun r _ => edR_len r
    have h3 := canU_len K
    have h4 := hK K (List.mem_of_mem_take hm)
    omega
  have h5 := flat_len (f := edR) (m := 2) (l := C.take i) fun r _ => edR_len r
  have h6 : (Ks.take k).length ≤ 10 := by rw [List.length_take]; omega
  have h7 : (C.take i).length ≤ 200001 := by rw [List.length_take]; omega
  unfold accW
  rw [List.cons_append, List.length_cons, List.length_append]
  omega
theorem mem_accW {Ks : List (List Rg)} {x : Int} : x ∈ accW Ks Ks.length [] 0 ↔ x = 0 ∨ ∃ l ∈ Ks, ∃ r ∈ canU l, (x = r.lo ∨ x = r.hi + 1) ∧ x < 10080 := by
  unfold accW edR
  rw [List.take_length]
  simp only [List.take_zero, List.flatMap_nil, List.append_nil, List.mem_cons, List.mem_flatMap, List.mem_append]
  constructor
  · rintro (h | ⟨l, hl, r, hr, h⟩)
    · exact .inl h
    · right
      refine ⟨l, hl, r, hr, ?_⟩
      rcases h with h | h
      · split at h
        · rename_i h2
          obtain rfl := List.mem_singleton.1 h
          exact ⟨.inl rfl, h2⟩
        · cases h
      · split at h
        · rename_i h2
          obtain rfl := List.mem_singleton.1 h
          exact ⟨.inr rfl, h2⟩
        · cases h
  · rintro (h | ⟨l, hl, r, hr, h, h2⟩)
    · exact .inl h
    · right
      refine ⟨l, hl, r, hr, ?_⟩
      rcases h with rfl | rfl
      · left; rw [if_pos h2]; simp
      · right; rw [if_pos h2]; simp
theorem segs_sorted {Ks : List (List Rg)} {s : List Int} (hb : ∀ l ∈ Ks, BndR l) (hp : s.Perm (accW Ks Ks.length [] 0)) (hs : s.Pairwise (· ≤ ·)) : cpt s = segR Ks 10079 :=
  seg_eq hb hs fun x => by rw [hp.mem_iff, mem_accW]
/-- a call that changes a row of its own, and hands it back shorter -/
theorem Own.afterRow3 {M : List Nat} {w0 w w' : World} {X : List Chunk} {R R' : List Row} {S : List Ro} (hO : Own M w0 X R S w) {v v' : Value} {k k' size : Nat} {xs ys : List Value} {e : TypeId} (hu : UpdR R ⟨v, k, xs, e, size⟩ ⟨v', k', ys, e, size⟩ R') (hk : Keep v.ownBlock.toList w w') (hr : w'.ownsRow 0 e size v' k' ys) (hv : v'.ownBlock = v.ownBlock) : Own M w0 X R' S w' := by
  obtain ⟨A, B, rfl, rfl⟩ := hu.split
  exact hO.grow (r := ⟨v, k, xs, e, size⟩) (r' := ⟨v', k', ys, e, size⟩) (grown_of_keep hk) hr fun g hg => .inl (hv ▸ hg)
theorem idx_pair {x y : Int} {k : Nat} (h : k < 2) (w : World) : Sem.run Tryz.prog (Instr.index 55 (.agg #[.int .u64 x, .int .u64 y]) (.int .i64 k)) w = .ok (.int .u64 (if k = 0 then x else y)) w := by
  rcases (show k = 0 ∨ k = 1 by omega) with rfl | rfl <;> rfl
/-- a list of numbers that a call makes -/
def RetInts (w : World) (l : List Int) (e : Ending) (w' : World) : Prop := ∃ v, e = .returned v ∧ (IsCells w' v l.length (ints l) ∧ NewFrom w v) ∧ Below w.heap.size w w'
theorem one_rgsS : OneT Tryz.prog 23 := ⟨_, Tryz.underlying23, rfl, by kernel_rfl⟩
/-- what a range adds behind j of its two ends -/
def preE (r : Rg) (j : Nat) : List Int := (if j = 0 then [] else if r.lo < 10080 then [r.lo] else []) ++ (if j ≤ 1 then [] else if r.hi + 1 < 10080 then [r.hi + 1] else [])
theorem preE_step (r : Rg) {j : Nat} (h : j < 2) : preE r (j + 1) = preE r j ++ (if (if j = 0 then r.lo else r.hi + 1) < 10080 then [if j = 0 then r.lo else r.hi + 1] else []) := by
  rcases (show j = 0 ∨ j = 1 by omega) with rfl | rfl
  · simp [preE]
  · simp [preE]
theorem preE_two (r : Rg) : preE r 2 = edR r := by simp [preE, edR]
set_option maxHeartbeats 16000000 in
theorem segs_any {vl : Value} {vs : List Value} {Ks : List (List Rg)} (w : World) (hlen : vs.length = Ks.length) (hv : IsCells w vl Ks.length vs) (hK : ∀ k (h : k < Ks.length), IsCells w (vs[k]'(by omega)) Ks[k].length (rcs Ks[k])) (hk10 : Ks.length ≤ 10) (hKl : ∀ K ∈ Ks, K.length ≤ 100000) (hb : ∀ K ∈ Ks, BndR K) :
    Calls Tryz.prog 14 #[vl] w (RetInts w (segR Ks 10079)) := by
  have hO := own_cellsA (own_start [] w) hv
  obtain ⟨a, c, rfl, ha⟩ := formC_view (isCells_form hv)
  simp only [List.append_nil] at hO
  clear hv
  have hsz : ∀ k C i, C.length ≤ 200001 → (accW Ks k C i).length ≤ 5000000 := fun k C i h => accW_len hk10 hKl h
  go_enter Tryz.func14, Tryz.ntmps14
  go_upto_region 3 with ((with_reducible refine is_build ?_); (refine' own_buildP (o := ⟨some 10, _, _, _, _, _⟩) [.int .i64 0] hO (by rfl) rfl slice_intsS rfl rfl (by rfl) (by decide) (by decide) ?_); clear hO; intro n10 wv hO)
  replace hO : Own [] w [] [⟨.slice (some ⟨n10, 0, none⟩) 1 1, (accW Ks 0 [] 0).length, ints (accW Ks 0 [] 0), 3, 1⟩] (roS (.slice a Ks.length c) vs) wv := hO.chunkRow (k := 1) (size := 1) rfl (by decide)
  go_loopw [3, 13] (fun r q wr => ∃ (k : Nat) (m : List Int), k ≤ Ks.length ∧ q = .int .i64 k ∧ Hid (m = accW Ks k [] 0) ∧ Own [] w [] [⟨r, m.length, ints m, 3, 1⟩] (roS (.slice a Ks.length c) vs) wr) (fun _ q _ => Ks.length - (intOf q).toNat)
  case atStart => exact ⟨0, _, by omega, rfl, Lib.hid rfl, hO⟩
  case round =>
    clear hO
    obtain ⟨k, m, hk, rfl, HM, hO⟩ := hrel
    have s4 : IntKind.i64.wrap ((k : Int) + 1) = (k : Int) + 1 := IntWalk.i64_in _ (by omega)
    by_cases hlt : k < Ks.length
    · have g1 : decide ((k : Int) < (Ks.length : Int)) = true := decide_eq_true (by omega)
      obtain ⟨g, o, rfl⟩ := ha (by omega)
      rw [show roS (.slice (some ⟨g, o, none⟩) Ks.length c) vs = [⟨g, o, vs⟩] from rfl] at hO
      have hlv : k < vs.length := by omega
      have u1 : vs[k]? = some vs[k] := List.getElem?_eq_getElem hlv
      have hKk := hK k hlt
      have hKn := hKl _ (List.getElem_mem hlt)
      have hKb := hb _ (List.getElem_mem hlt)
      have HNx := Lib.hid (accW_next hlt [])
      have hcl := canU_len Ks[k]
      have hcb := canU_bnd hKb
      have hU := fun (wq : World) (h : Keep [] w wq) => (unionU_any (lb := []) wq (hKk.below h.below) (.inl ⟨rfl, rfl, rfl⟩) (by omega) (by simp) hKb (fun _ h => absurd h List.not_mem_nil) : Calls Tryz.prog 29 #[vs[k], .slice none 0 0] wq (RetRgs wq (canU (Ks[k] ++ []))))
      rw [List.append_nil] at hU
      generalize canU Ks[k] = C at *
      generalize vs[k] = vk at *
      have hCl : C.length ≤ 200001 := by omega
      clear hKk hKn hKb hcl
      go_wp2_with (first | ((with_reducible refine is_load ?_); (refine own_ldV (hl := ld_one one_rgsS (hO.roCell List.mem_cons_self u1)) (h := ?_))) | (go_at_call 29; (with_reducible refine (hU _ hO.keep).mono ?_); rintro e wv ⟨v9, rfl, ⟨hv9, hn9⟩, hb9⟩; have hf9 := isCells_form hv9; replace hO := hO.gainC hb9 hv9 hn9; clear hb9 hv9 hn9; obtain ⟨a9, c9, rfl, ha9⟩ := hf9.view; clear hf9 hU))
      go_loopw [3, 20] (fun r q wr => ∃ (i : Nat) (m : List Int), i ≤ C.length ∧ q = .int .i64 i ∧ Hid (m = accW Ks k C i) ∧ Own [] w [] [⟨r, m.length, ints m, 3, 1⟩] (roS (.slice a9 C.length c9) (rcs C) ++ [⟨g, o, vs⟩]) wr) (fun _ q _ => C.length - (intOf q).toNat)
      case atStart => exact ⟨0, m, by omega, rfl, Lib.hid (HM.out.trans (accW_zero _ _ _ _)), hO⟩
      case round =>
        clear hO HM
        obtain ⟨i, m, hi, rfl, HM, hO⟩ := hrel
        have s5 : IntKind.i64.wrap ((i : Int) + 1) = (i : Int) + 1 := IntWalk.i64_in _ (by omega)
        have hml := hsz k C i hCl
        rw [← HM.out] at hml
        by_cases hlt2 : i < C.length
        · have g2 : decide ((i : Int) < (C.length : Int)) = true := decide_eq_true (by omega)
          obtain ⟨g9, o9, rfl⟩ := ha9 (by omega)
          rw [show roS (.slice (some ⟨g9, o9, none⟩) C.length c9) (rcs C) = [⟨g9, o9, rcs C⟩] from rfl, List.cons_append, List.nil_append] at hO
          have y1 := rcs_two hlt2
          obtain ⟨b1, b2, b3, b4⟩ := hcb _ (List.getElem_mem hlt2)
          have HS := Lib.hid (accW_step Ks k hlt2)
          generalize C[i] = r at *
          have t1 : IntKind.u64.wrap r.lo = r.lo := by rw [IntKind.wrap_u64]; omega
          have t2 : IntKind.u64.wrap r.hi = r.hi := by rw [IntKind.wrap_u64]; omega
          have t3 : IntKind.u64.wrap (r.hi + 1) = r.hi + 1 := by rw [IntKind.wrap_u64]; omega
          go_wp2_with (first | ((with_reducible refine is_load ?_); (refine own_ldV (h := ?_))) | ((with_reducible refine is_store ?_); (refine own_stRV (hO := hO) (h := ?_); clear hO; intro wv hO)) | ((with_reducible refine is_alloc ?_); (refine own_alV (o := ⟨some 7, _, _, _, _, _⟩) (hO := hO) (h := ?_); clear hO; intro n7 wv hO)))
          go_loopw [3, 32] (fun rr q wr => ∃ (j : Nat) (m2 : List Int), j ≤ 2 ∧ q = .int .i64 j ∧ m2.length ≤ m.length + j ∧ Hid (m2 = m ++ preE r j) ∧ Own [] w [⟨n7, [.int .u32 r.lo, .int .u32 r.hi], 46⟩] [⟨rr, m2.length, ints m2, 3, 1⟩] [⟨g9, o9, rcs C⟩, ⟨g, o, vs⟩] wr) (fun _ q _ => 2 - (intOf q).toNat)
          case atStart => exact ⟨0, m, by omega, rfl, by omega, Lib.hid (by simp [preE]), hO⟩
          case round =>
            clear hO
            obtain ⟨j, m2, hj, rfl, hm2, HP, hO⟩ := hrel
            have s6 : IntKind.i64.wrap ((j : Int) + 1) = (j : Int) + 1 := IntWalk.i64_in _ (by omega)
            by_cases hj2 : j < 2
            · have g3 : decide ((j : Int) < 2) = true := decide_eq_true (by omega)
              have c5 := fun w => idx_pair (x := r.lo) (y := r.hi + 1) hj2 w
              have HT := Lib.hid (preE_step r hj2)
              have hE0 : 0 ≤ (if j = 0 then r.lo else r.hi + 1) ∧ (if j = 0 then r.lo else r.hi + 1) ≤ 4294967296 := by split <;> omega
              generalize (if j = 0 then r.lo else r.hi + 1) = E at *
              have t4 : IntKind.i64.wrap E = E := IntWalk.i64_in _ (by omega)
              obtain ⟨a7, c7, rfl, -⟩ := own_view hO List.mem_cons_self
              by_cases hE : E < 10080
              · have g4 : decide (E < 10080) = true := decide_eq_true hE
                have HQ : Hid (m2 ++ [E] = m ++ preE r (j + 1)) := Lib.hid (by rw [HP.out, HT.out, if_pos hE, List.append_assoc])
                have HC : Hid (ints m2 ++ [Value.int .i64 E] = ints (m2 ++ [E])) := Lib.hid (by simp [ints])
                clear HP HT hE
                go_wp2_with (first | ((with_reducible refine is_build ?_); (refine' own_buildP (o := ⟨some 40, _, _, _, _, _⟩) [.int .i64 E] hO (by rfl) rfl slice_intsS rfl rfl (by rfl) (by decide) (by decide) ?_); clear hO; intro n40 wv hO) | ((with_reducible refine is_append ?_); (refine own_append (o := ⟨some 41, _, _, _, _, _⟩) hO rfl rfl slice_intsS rfl rfl List.mem_cons_self rfl (by omega) rfl (fun _ _ => by repeat (exact UpdR.here)) (by (omega)) (by unfold maxLen; (omega)) ?_); clear hO; intro g41 c41 wv hO))
                rw [HC.out] at hO
                go_roundw
                case rel => exact ⟨j + 1, m2 ++ [E], by omega, by go_num, by simp; omega, HQ, by rw [List.length_append]; exact hO.sub (X' := [⟨n7, [.int .u32 r.lo, .int .u32 r.hi], 46⟩]) (.cons _ (.refl _)) (.refl _) (fun _ h => h)⟩
                case measure => simp [intOf]; omega
              · have g4 : decide (E < 10080) = false := decide_eq_false hE
                have HQ : Hid (m2 = m ++ preE r (j + 1)) := Lib.hid (by rw [HP.out, HT.out, if_neg hE, List.append_nil])
                clear HP HT hE
                go_wp2_with fail
                go_roundw
                case rel => exact ⟨j + 1, m2, by omega, by go_num, by omega, HQ, hO⟩
                case measure => simp [intOf]; omega
            · have g3 : decide ((j : Int) < 2) = false := decide_eq_false (by omega)
              have HQ : Hid (m2 = accW Ks k C (i + 1)) := Lib.hid (by
                rw [HP.out, HS.out, HM.out, show j = 2 by omega, preE_two])
              clear HP HS HM
              go_wp2_with fail
              go_roundw
              case rel => exact ⟨i + 1, m2, by omega, by go_num, HQ, hO.sub (X' := []) (List.nil_sublist _) (.refl _) (fun _ h => h)⟩
              case measure => simp [intOf]; omega
        · have g2 : decide ((i : Int) < (C.length : Int)) = false := decide_eq_false (by omega)
          have HQ : Hid (m = accW Ks (k + 1) [] 0) := Lib.hid (by rw [HM.out, HNx.out, show i = C.length by omega])
          clear HM HNx
          go_wp2_with fail
          go_roundw
          case rel => exact ⟨k + 1, m, by omega, by go_num, HQ, hO.sub (.refl _) (.refl _) (fun s hs => List.mem_append_right _ hs)⟩
          case measure => simp [intOf]; omega
    · have g1 : decide ((k : Int) < (Ks.length : Int)) = false := decide_eq_false (by omega)
      have HA : Hid (m = accW Ks Ks.length [] 0) := Lib.hid (by rw [HM.out, show k = Ks.length by omega])
      have hml := hsz Ks.length [] 0 (by simp)
      rw [← HA.out] at hml
      have hm0 : 0 < m.length := by rw [HA.out]; simp [accW]
      have HF : Hid (∀ s : List Int, s.Perm m → s.Pairwise (· ≤ ·) → cpt s = segR Ks 10079) := Lib.hid fun s hp hs => segs_sorted hb (HA.out ▸ hp) hs
      clear HM HA
      obtain ⟨a7, c7, rfl, ha7⟩ := own_view hO List.mem_cons_self
      obtain ⟨g7, rfl⟩ := ha7 hm0
      have hSo := fun (w : World) (h : w.ownsRow 0 3 1 (.slice (some ⟨g7, 0, none⟩) m.length c7) m.length (ints m)) => sortInts_any w h (by omega)
      have hCo := fun (s : List Int) (hp : s.Perm m) (w : World) (h : w.ownsRow 0 3 1 (.slice (some ⟨g7, 0, none⟩) m.length c7) m.length (ints s)) => compactInts_any w h (by rw [hp.length_eq]; omega)
      go_wp2_with (first | (go_at_call 30; (with_reducible refine (hSo _ (hO.row _ List.mem_cons_self)).mono ?_); rintro e wv ⟨rfl, z9, hp9, hs9, hk9, hr9⟩; replace hO := hO.afterRow .here hk9 hr9; clear hk9 hr9 hSo) | (go_at_call 31; (with_reducible refine (hCo z9 hp9 _ (hO.row _ List.mem_cons_self)).mono ?_); rintro e wv ⟨rfl, hk9, hr9⟩; replace hO := hO.afterRow3 .here hk9 hr9 rfl; clear hk9 hr9 hCo))
      have HE := HF.out _ hp9 hs9
      rw [HE] at hO
      go_ret
      exact ⟨_, by rw [HE]; rfl, ⟨hO.rowIs List.mem_cons_self, own_new hO List.mem_cons_self⟩, hO.keep.below⟩
end Go.Proofs.YtfhkmkbfgmbbaaaGreatDoor

/- The tape's minutes. -/
namespace Go.Proofs.YtfhkmkbfgmbbaaaGreatDoor
open Go.RowKit
set_option maxRecDepth 100000
theorem slice_intsM : SliceT Tryz.prog 22 3 1 8 := ⟨Tryz.underlying22, by omega, by
  obtain ⟨i, h1, h2, h3, h4⟩ := info_parts (show (Tryz.prog.info? 3).map (fun i => (i.zero, i.size, i.bytes)) = some (some (.int .i64 0), 1, 8) by kernel_rfl)
  exact ⟨i, _, h1, h2, h3, h4, rfl⟩⟩
def mnC : List Value := [.int .i64 0, .int .i64 479, .int .i64 480, .int .i64 481, .int .i64 1019, .int .i64 1020, .int .i64 1439, .int .i64 700]
theorem mn_cell {a : Nat} (h : a < 8) : ∃ x : Int, mnC[a]? = some (.int .i64 x) ∧ 0 ≤ x ∧ x ≤ 1439 := by
  rcases (show a = 0 ∨ a = 1 ∨ a = 2 ∨ a = 3 ∨ a = 4 ∨ a = 5 ∨ a = 6 ∨ a = 7 by omega) with rfl | rfl | rfl | rfl | rfl | rfl | rfl | rfl <;> exact ⟨_, rfl, by decide, by decide⟩
set_option maxHeartbeats 4000000 in
theorem minute_any {w : World} {n : Nat} {sl : Value} {zs : List Int} {i : Nat} (hZ : ZsOk sl zs) (hT : TapeIn w n sl zs i) :
    Calls Tryz.prog 7 #[.pointer (some ⟨n, 0, none⟩)] w (TPost w n sl zs fun v _ => ∃ m, v = .int .i64 m ∧ 0 ≤ m ∧ m ≤ 10079) := by
  have hO := own_tape hT
  obtain ⟨sa, sc, rfl, -⟩ := hZ.view
  go_enter Tryz.func7, Tryz.ntmps7
  go_wp2_with (first | ((with_reducible refine is_load ?_); (refine own_ldV (h := ?_))) | (go_at_call 17; (with_reducible refine (next_pos 7 hZ (hO.tapeIn (by (repeat (first | exact List.mem_cons_self | refine List.mem_cons_of_mem _ ?_))) (fun _ h => h) hT.le) (by omega) (by omega)).mono ?_); rintro e wv ⟨v, i1, rfl, hv, hk9, hT1⟩; replace hO := hO.after (by (repeat (exact Upd.here))) hk9 hT1.blk; replace hT := hT1; clear hT1 hk9; obtain ⟨r, rfl, hr0, hr1⟩ := hv; have t1 : IntKind.i64.wrap (1440 * r) = 1440 * r := IntWalk.i64_in _ (by omega)) | ((with_reducible refine is_build ?_); (refine' own_buildP (o := ⟨some 6, _, _, _, _, _⟩) [.int .i64 0, .int .i64 479, .int .i64 480, .int .i64 481, .int .i64 1019, .int .i64 1020, .int .i64 1439, .int .i64 700] hO (by rfl) rfl slice_intsM rfl rfl (by rfl) (by decide) (by decide) ?_); clear hO; intro n6 wv hO) | (go_at_call 17; (with_reducible refine (next_pos 8 hZ (hO.tapeIn (by (repeat (first | exact List.mem_cons_self | refine List.mem_cons_of_mem _ ?_))) (fun _ h => h) hT.le) (by omega) (by omega)).mono ?_); rintro e wv ⟨v, i2, rfl, hv, hk9, hT1⟩; replace hO := hO.after (by (repeat (first | exact Upd.here | apply Upd.there))) hk9 hT1.blk; replace hT := hT1; clear hT1 hk9; obtain ⟨r2, rfl, hr2, hr3⟩ := hv; obtain ⟨B, rfl⟩ : ∃ B : Nat, r2 = (B : Int) := ⟨r2.toNat, by omega⟩; obtain ⟨x, hx, x0, x1⟩ := mn_cell (a := B) (by omega); have t2 : IntKind.i64.wrap (1440 * r + x) = 1440 * r + x := IntWalk.i64_in _ (by omega); unfold mnC at hx))
  go_ret
  exact tpost hO (by (repeat (first | exact List.mem_cons_self | refine List.mem_cons_of_mem _ ?_))) (fun _ h => h) hT.le ⟨_, rfl, by omega, by omega⟩
end Go.Proofs.YtfhkmkbfgmbbaaaGreatDoor
