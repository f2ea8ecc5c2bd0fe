/- Plain laws of intersections and differences of boxes. No program in sight. -/
import Derived.Test.YtnhjcbmlplfpmaaDoorBoxC
namespace Go.Proofs.YtnhjcbmlplfpmaaDoor
open Go.RowKit

theorem hasB_iff {b : Bx} {h : Hd} : hasB b h = true ↔ vldTo b 5 ∧ inTo b h 5 := by
  unfold hasB; rw [Bool.and_eq_true, vld_iff]; simp
theorem interTo_at (a b : Bx) {k : Nat} (h : k < 5) : (interTo a b).at k = ⟨max (a.at k).lo (b.at k).lo, min (a.at k).hi (b.at k).hi⟩ := Bx.at_of _ h
theorem interB_yes {a b : Bx} (h : (interB a b).2 = true) : vldTo a 5 ∧ vldTo b 5 ∧ vldTo (interTo a b) 5 ∧ interB a b = (interTo a b, true) := by
  unfold interB at h ⊢
  split at h
  · rename_i hc
    simp only [Bool.and_eq_true, vld_iff] at hc
    refine ⟨hc.1.1, hc.1.2, hc.2, ?_⟩
    rw [if_pos (by simp only [Bool.and_eq_true, vld_iff]; exact hc)]
  · cases h
/-- a header is in both exactly if it is in the intersection -/
theorem interB_has (a b : Bx) (h : Hd) : ((interB a b).2 && hasB (interB a b).1 h) = (hasB a h && hasB b h) := by
  rw [Bool.eq_iff_iff, Bool.and_eq_true, Bool.and_eq_true, hasB_iff, hasB_iff, hasB_iff]
  constructor
  · rintro ⟨h1, _, h3⟩
    obtain ⟨va, vb, _, e⟩ := interB_yes h1
    rw [e] at h3
    refine ⟨⟨va, fun i hi => ?_⟩, vb, fun i hi => ?_⟩
    · have := h3 i hi; simp only [interTo_at a b hi] at this; omega
    · have := h3 i hi; simp only [interTo_at a b hi] at this; omega
  · rintro ⟨⟨va, ia⟩, vb, ib⟩
    have hv : vldTo (interTo a b) 5 := fun i hi => by
      have h1 := ia i hi; have h2 := ib i hi; have h3 := va i hi; have h4 := vb i hi
      simp only [interTo_at a b hi]; omega
    have e : interB a b = (interTo a b, true) := by
      unfold interB; rw [if_pos (by simp only [Bool.and_eq_true, vld_iff]; exact ⟨⟨va, vb⟩, hv⟩)]
    rw [e]
    refine ⟨rfl, hv, fun i hi => ?_⟩
    have h1 := ia i hi; have h2 := ib i hi
    simp only [interTo_at a b hi]; omega
theorem subB_has {a b : Bx} {h : Hd} (hs : subB a b = true) (ha : hasB a h = true) : hasB b h = true := by
  obtain ⟨va, ia⟩ := hasB_iff.1 ha
  unfold subB at hs
  rw [vld_iff.2 va] at hs
  simp only [Bool.not_true, Bool.false_or, Bool.and_eq_true, vld_iff, decide_eq_true_eq] at hs
  exact hasB_iff.2 ⟨hs.1, fun i hi => by have h1 := hs.2 i hi; have h2 := ia i hi; omega⟩

/-- how many boxes of a list contain a header -/
def cnt (h : Hd) (l : List Bx) : Nat := (l.filter (hasB · h)).length
theorem cnt_append (h : Hd) (l m : List Bx) : cnt h (l ++ m) = cnt h l + cnt h m := by simp [cnt]
theorem cnt_take (h : Hd) (l : List Bx) {k : Nat} (hk : k < l.length) : cnt h (l.take (k + 1)) = cnt h (l.take k) + if hasB l[k] h then 1 else 0 := by
  rw [List.take_succ_eq_append_getElem hk, cnt_append]
  congr 1
  simp only [cnt, List.filter_cons, List.filter_nil]
  split <;> simp

section
variable {a x : Bx} (va : vldTo a 5) (hx : ∀ i, i < 5 → (a.at i).lo ≤ (x.at i).lo ∧ (x.at i).lo ≤ (x.at i).hi ∧ (x.at i).hi ≤ (a.at i).hi)
/-- what part k of the difference is, side by side -/
def Part (a x : Bx) (k : Nat) (p : Bx) : Prop :=
  (∀ i, i < 5 → i ≠ k → p.at i = if i < k then x.at i else a.at i) ∧
  ((p.at k = ⟨(a.at k).lo, (x.at k).lo - 1⟩ ∧ (a.at k).lo < (x.at k).lo) ∨ (p.at k = ⟨(x.at k).hi + 1, (a.at k).hi⟩ ∧ (x.at k).hi < (a.at k).hi))
theorem subK_at' (a x : Bx) (k : Nat) {i : Nat} (h : i < 5) : (subK a x k).at i = if i < k then x.at i else a.at i := by
  unfold subK; rw [Bx.at_of _ h]
theorem part_of {k : Nat} (hk : k < 5) {p : Bx} (hp : p ∈ subParts (subK a x k) x k) : Part a x k p := by
  unfold subParts at hp
  have hat := subK_at a x hk
  rw [hat] at hp
  rcases List.mem_append.1 hp with h | h
  · split at h
    · rename_i hlt
      obtain rfl := List.mem_singleton.1 h
      refine ⟨fun i hi hne => ?_, .inl ⟨?_, hlt⟩⟩
      · rw [Bx.at_set _ _ _ hi, if_neg hne, subK_at' a x k hi]
      · rw [Bx.at_set _ _ _ hk, if_pos rfl]
    · cases h
  · split at h
    · rename_i hlt
      obtain rfl := List.mem_singleton.1 h
      refine ⟨fun i hi hne => ?_, .inr ⟨?_, hlt⟩⟩
      · rw [Bx.at_set _ _ _ hi, if_neg hne, subK_at' a x k hi]
      · rw [Bx.at_set _ _ _ hk, if_pos rfl]
    · cases h
theorem mem_subL {m : Nat} {p : Bx} : p ∈ subL a x m ↔ ∃ k, k < m ∧ p ∈ subParts (subK a x k) x k := by
  induction m with
  | zero => simp [subL]
  | succ m ih =>
    simp only [subL, List.mem_append, ih]
    constructor
    · rintro (⟨k, h1, h2⟩ | h)
      · exact ⟨k, by omega, h2⟩
      · exact ⟨m, by omega, h⟩
    · rintro ⟨k, h1, h2⟩
      by_cases e : k = m
      · subst e; exact .inr h2
      · exact .inl ⟨k, by omega, h2⟩
include hx in
theorem Part.in_a {k : Nat} {p : Bx} (hk : k < 5) (h : Part a x k p) : ∀ i, i < 5 → (a.at i).lo ≤ (p.at i).lo ∧ (p.at i).lo ≤ (p.at i).hi ∧ (p.at i).hi ≤ (a.at i).hi ∨ (i ≠ k ∧ ¬ i < k ∧ p.at i = a.at i) := by
  intro i hi
  have h1 := hx i hi
  have h2 := hx k hk
  by_cases e : i = k
  · subst e
    rcases h.2 with ⟨h3, h4⟩ | ⟨h3, h4⟩ <;> rw [h3] <;> left <;> (dsimp only; omega)
  · have h3 := h.1 i hi e
    by_cases h4 : i < k
    · rw [if_pos h4] at h3; rw [h3]; left; omega
    · rw [if_neg h4] at h3; right; exact ⟨e, h4, h3⟩
include va hx in
theorem Part.vld {k : Nat} {p : Bx} (hk : k < 5) (h : Part a x k p) : vldTo p 5 := fun i hi => by
  have h1 := va i hi
  rcases h.in_a hx hk i hi with h2 | ⟨_, _, h2⟩
  · omega
  · rw [h2]; exact h1
include va hx in
theorem Part.has {k : Nat} {p : Bx} (hk : k < 5) (h : Part a x k p) (y : Hd) : hasB p y = true ↔ inTo a y 5 ∧ inTo x y k ∧ ((p.at k).lo ≤ y.at k ∧ y.at k ≤ (p.at k).hi) := by
  rw [hasB_iff]
  constructor
  · rintro ⟨_, hin⟩
    refine ⟨fun i hi => ?_, fun i hi => ?_, hin k hk⟩
    · have h1 := hin i hi
      rcases h.in_a hx hk i hi with h2 | ⟨_, _, h2⟩
      · omega
      · rw [h2] at h1; exact h1
    · have h1 := hin i (by omega)
      rw [h.1 i (by omega) (by omega), if_pos hi] at h1
      exact h1
  · rintro ⟨ha, hxk, hp⟩
    refine ⟨h.vld va hx hk, fun i hi => ?_⟩
    by_cases e : i = k
    · subst e; exact hp
    · rw [h.1 i hi e]
      split
      · rename_i hlt; exact hxk i hlt
      · exact ha i hi
include va hx in
theorem cnt_parts (y : Hd) {k : Nat} (hk : k < 5) : cnt y (subParts (subK a x k) x k) = if inTo a y 5 ∧ inTo x y k ∧ ¬ inTo x y (k + 1) then 1 else 0 := by
  have hat := subK_at a x hk
  have hk5 := hx k hk
  have split1 : inTo x y (k + 1) ↔ inTo x y k ∧ ((x.at k).lo ≤ y.at k ∧ y.at k ≤ (x.at k).hi) :=
    ⟨fun h => ⟨fun i hi => h i (by omega), h k (by omega)⟩, fun h => inTo_snoc h.1 h.2.1 h.2.2⟩
  have b1 : ∀ hlt : (a.at k).lo < (x.at k).lo, hasB ((subK a x k).set k ⟨(a.at k).lo, (x.at k).lo - 1⟩) y = decide (inTo a y 5 ∧ inTo x y k ∧ y.at k < (x.at k).lo) := fun hlt => by
    have hp : Part a x k ((subK a x k).set k ⟨(a.at k).lo, (x.at k).lo - 1⟩) := part_of hk (by unfold subParts; rw [hat, if_pos hlt]; simp)
    rw [Bool.eq_iff_iff, hp.has va hx hk, decide_eq_true_iff, Bx.at_set _ _ _ hk, if_pos rfl]
    constructor
    · rintro ⟨p1, p2, p3, p4⟩; exact ⟨p1, p2, by dsimp only at p4; omega⟩
    · rintro ⟨p1, p2, p3⟩; exact ⟨p1, p2, (p1 k hk).1, by dsimp only; omega⟩
  have b2 : ∀ hlt : (x.at k).hi < (a.at k).hi, hasB ((subK a x k).set k ⟨(x.at k).hi + 1, (a.at k).hi⟩) y = decide (inTo a y 5 ∧ inTo x y k ∧ (x.at k).hi < y.at k) := fun hlt => by
    have hp : Part a x k ((subK a x k).set k ⟨(x.at k).hi + 1, (a.at k).hi⟩) := part_of hk (by unfold subParts; rw [hat, if_pos hlt]; simp)
    rw [Bool.eq_iff_iff, hp.has va hx hk, decide_eq_true_iff, Bx.at_set _ _ _ hk, if_pos rfl]
    constructor
    · rintro ⟨p1, p2, p3, p4⟩; exact ⟨p1, p2, by dsimp only at p3; omega⟩
    · rintro ⟨p1, p2, p3⟩; exact ⟨p1, p2, by dsimp only; omega, (p1 k hk).2⟩
  unfold subParts
  rw [hat, cnt_append]
  by_cases ha : inTo a y 5
  · by_cases hxk : inTo x y k
    · have hak := ha k hk
      have e1 : cnt y (if (a.at k).lo < (x.at k).lo then [(subK a x k).set k ⟨(a.at k).lo, (x.at k).lo - 1⟩] else []) = if y.at k < (x.at k).lo then 1 else 0 := by
        split
        · rename_i hlt
          simp only [cnt, List.filter_cons, b1 hlt, ha, hxk, true_and, List.filter_nil, decide_eq_true_eq]
          split <;> simp
        · rw [if_neg (by omega)]; rfl
      have e2 : cnt y (if (x.at k).hi < (a.at k).hi then [(subK a x k).set k ⟨(x.at k).hi + 1, (a.at k).hi⟩] else []) = if (x.at k).hi < y.at k then 1 else 0 := by
        split
        · rename_i hlt
          simp only [cnt, List.filter_cons, b2 hlt, ha, hxk, true_and, List.filter_nil, decide_eq_true_eq]
          split <;> simp
        · rw [if_neg (by omega)]; rfl
      rw [e1, e2]
      simp only [ha, hxk, true_and, split1]
      split <;> split <;> split <;> omega
    · have e1 : cnt y (if (a.at k).lo < (x.at k).lo then [(subK a x k).set k ⟨(a.at k).lo, (x.at k).lo - 1⟩] else []) = 0 := by
        split
        · rename_i hlt; simp [cnt, b1 hlt, hxk]
        · rfl
      have e2 : cnt y (if (x.at k).hi < (a.at k).hi then [(subK a x k).set k ⟨(x.at k).hi + 1, (a.at k).hi⟩] else []) = 0 := by
        split
        · rename_i hlt; simp [cnt, b2 hlt, hxk]
        · rfl
      rw [e1, e2, if_neg (by simp [hxk])]
  · have e1 : cnt y (if (a.at k).lo < (x.at k).lo then [(subK a x k).set k ⟨(a.at k).lo, (x.at k).lo - 1⟩] else []) = 0 := by
      split
      · rename_i hlt; simp [cnt, b1 hlt, ha]
      · rfl
    have e2 : cnt y (if (x.at k).hi < (a.at k).hi then [(subK a x k).set k ⟨(x.at k).hi + 1, (a.at k).hi⟩] else []) = 0 := by
      split
      · rename_i hlt; simp [cnt, b2 hlt, ha]
      · rfl
    rw [e1, e2, if_neg (by simp [ha])]
include va hx in
theorem cnt_subL (y : Hd) {m : Nat} (hm : m ≤ 5) : cnt y (subL a x m) = if inTo a y 5 ∧ ¬ inTo x y m then 1 else 0 := by
  induction m with
  | zero => simp [subL, cnt, inTo]
  | succ m ih =>
    have hmono : inTo x y (m + 1) → inTo x y m := fun h i hi => h i (by omega)
    simp only [subL, cnt_append, ih (by omega), cnt_parts va hx y (show m < 5 by omega)]
    by_cases ha : inTo a y 5 <;> by_cases h1 : inTo x y m <;> by_cases h2 : inTo x y (m + 1) <;> simp [ha, h1, h2]
    exact h1 (hmono h2)
end

theorem interTo_mid {a b : Bx} (hv : vldTo (interTo a b) 5) : ∀ i, i < 5 → (a.at i).lo ≤ ((interTo a b).at i).lo ∧ ((interTo a b).at i).lo ≤ ((interTo a b).at i).hi ∧ ((interTo a b).at i).hi ≤ (a.at i).hi := fun i hi => by
  have h := (hv i hi).1
  simp only [interTo_at a b hi] at h ⊢
  omega
/-- the boxes of a difference are valid -/
theorem subtrB_vld (a b : Bx) : ∀ p ∈ subtrB a b, vld p = true := by
  intro p hp
  unfold subtrB at hp
  split at hp
  · cases hp
  · rename_i hva
    split at hp
    · obtain rfl := List.mem_singleton.1 hp
      simpa using hva
    · rename_i hi
      obtain ⟨va, vb, vi, e⟩ := interB_yes (by simpa using hi)
      rw [e] at hp
      obtain ⟨k, hk, hp⟩ := mem_subL.1 hp
      exact vld_iff.2 ((part_of hk hp).vld va (interTo_mid vi) hk)
/-- a header of a that is not in b is in exactly one of them, another one in none -/
theorem subtrB_cnt (a b : Bx) (h : Hd) : cnt h (subtrB a b) = if hasB a h && !hasB b h then 1 else 0 := by
  have hI := interB_has a b h
  unfold subtrB
  split
  · rename_i hva
    have : hasB a h = false := by unfold hasB; simp [hva]
    simp [this, cnt]
  · rename_i hva
    split
    · rename_i hi
      rw [hi, Bool.false_and] at hI
      simp only [cnt, List.filter_cons, List.filter_nil]
      cases ha : hasB a h <;> cases hb : hasB b h <;> simp [ha, hb] at hI ⊢
    · rename_i hi
      obtain ⟨va, vb, vi, e⟩ := interB_yes (by simpa using hi)
      rw [e, cnt_subL va (interTo_mid vi) h (Nat.le_refl 5)]
      rw [e, Bool.true_and] at hI
      have h1 : hasB (interTo a b) h = true ↔ inTo (interTo a b) h 5 := by rw [hasB_iff]; exact ⟨fun h => h.2, fun h => ⟨vi, h⟩⟩
      have h2 : hasB a h = true ↔ inTo a h 5 := by rw [hasB_iff]; exact ⟨fun h => h.2, fun h => ⟨va, h⟩⟩
      by_cases p1 : inTo a h 5 <;> by_cases p2 : inTo (interTo a b) h 5
      · rw [if_neg (by simp [p2])]
        rw [h1.2 p2, h2.2 p1] at hI
        rw [h2.2 p1]
        cases hb : hasB b h <;> simp [hb] at hI ⊢
      · rw [if_pos ⟨p1, p2⟩]
        have q : hasB (interTo a b) h = false := by cases hq : hasB (interTo a b) h; rfl; exact absurd (h1.1 hq) p2
        rw [q, h2.2 p1] at hI
        rw [h2.2 p1]
        cases hb : hasB b h <;> simp [hb] at hI ⊢
      · rw [if_neg (by simp [p1])]
        have q : hasB a h = false := by cases hq : hasB a h; rfl; exact absurd (h2.1 hq) p1
        simp [q]
      · rw [if_neg (by simp [p1])]
        have q : hasB a h = false := by cases hq : hasB a h; rfl; exact absurd (h2.1 hq) p1
        simp [q]
theorem subtrB_le (a b : Bx) : (subtrB a b).length ≤ 10 := by
  unfold subtrB
  split
  · simp
  · split
    · simp
    · exact subL_le _ _ 5
end Go.Proofs.YtnhjcbmlplfpmaaDoor
