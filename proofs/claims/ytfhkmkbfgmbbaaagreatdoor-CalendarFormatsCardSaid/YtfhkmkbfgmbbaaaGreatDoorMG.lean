/- What a list of words is: plain. -/
import Derived.Test.YtfhkmkbfgmbbaaaGreatDoorMC
import Derived.Test.YtfhkmkbfgmbbaaaGreatDoorMF
namespace Go.Proofs.YtfhkmkbfgmbbaaaGreatDoor
/-- what a list of words is: nothing (not a window), too many items, or a window -/
inductive Win where
  | bad
  | much
  | is (l : List Rg)
def nevW : List Bs := [[110, 101, 118, 101, 114]]
def parsF (most : Nat) (ws : List Bs) : Win := if ws = nevW then .is [] else match itemsF ws with
  | none => .bad
  | some p => if most < p.2 then .much else .is (canU p.1)
end Go.Proofs.YtfhkmkbfgmbbaaaGreatDoor

/- Windows day by day: what Format writes, and that Parse reads it back: plain. -/
namespace Go.Proofs.YtfhkmkbfgmbbaaaGreatDoor
/-- a list is a window up to top -/
def wokR (top : Int) (l : List Rg) (i : Nat) : Prop := ∀ j, j < i → ∀ h : j < l.length, l[j].lo ≤ l[j].hi ∧ l[j].hi ≤ top ∧ (∀ h0 : 0 < j, (l[j - 1]'(by omega)).hi + 2 ≤ l[j].lo)
noncomputable def winB (top : Int) (l : List Rg) : Bool := @decide (wokR top l l.length) (Classical.propDecidable _)
theorem winB_iff {top : Int} {l : List Rg} : winB top l = true ↔ wokR top l l.length := by unfold winB; simp
theorem wok_can {top : Int} {l : List Rg} (h : wokR top l l.length) : canR l ∧ ∀ r ∈ l, r.lo ≤ r.hi ∧ r.hi ≤ top := by
  have h1 : ∀ r ∈ l, r.lo ≤ r.hi ∧ r.hi ≤ top := fun r hr => by
    obtain ⟨j, hj, rfl⟩ := List.getElem_of_mem hr
    exact ⟨(h j hj hj).1, (h j hj hj).2.1⟩
  refine ⟨⟨fun r hr => (h1 r hr).1, ?_⟩, h1⟩
  rw [List.pairwise_iff_getElem]
  intro i j hi hj hij
  induction j with
  | zero => omega
  | succ j ih =>
    have h2 := (h (j + 1) hj hj).2.2 (by omega)
    have h3 := (h j (by omega) (by omega)).1
    simp only [Nat.add_sub_cancel] at h2
    by_cases e : i = j
    · subst e; exact h2
    · have := ih (by omega) (by omega)
      omega
theorem can_wok {top : Int} {l : List Rg} (h : canR l) (h2 : ∀ r ∈ l, r.hi ≤ top) : wokR top l l.length := fun j _ hj =>
  ⟨h.1 _ (List.getElem_mem hj), h2 _ (List.getElem_mem hj), fun _ => List.pairwise_iff_getElem.1 h.2 (j - 1) j (by omega) hj (by omega)⟩
/-- a list is the canonical list of what two lists share -/
def IsInt (a b c : List Rg) : Prop := canR c ∧ ∀ v, memR c v ↔ memR a v ∧ memR b v
theorem IsInt.uniq {a b c d : List Rg} (h : IsInt a b c) (k : IsInt a b d) : c = d := canR_unique h.1 k.1 fun v => (h.2 v).trans (k.2 v).symm
def cutR (lo hi : Int) (r : Rg) : Option Rg := if max r.lo lo ≤ min r.hi hi then some ⟨max r.lo lo, min r.hi hi⟩ else none
/-- the part of a list between two numbers -/
def interD (lo hi : Int) (l : List Rg) : List Rg := l.filterMap (cutR lo hi)
theorem mem_interD {lo hi : Int} {l : List Rg} {q : Rg} : q ∈ interD lo hi l ↔ ∃ r ∈ l, max r.lo lo ≤ min r.hi hi ∧ q = ⟨max r.lo lo, min r.hi hi⟩ := by
  unfold interD
  rw [List.mem_filterMap]
  constructor
  · rintro ⟨r, hr, h⟩
    unfold cutR at h
    split at h
    · rename_i h1; cases h; exact ⟨r, hr, h1, rfl⟩
    · cases h
  · rintro ⟨r, hr, h1, rfl⟩
    exact ⟨r, hr, by unfold cutR; rw [if_pos h1]⟩
theorem interD_mem {lo hi : Int} {l : List Rg} (v : Int) : memR (interD lo hi l) v ↔ memR l v ∧ lo ≤ v ∧ v ≤ hi := by
  constructor
  · rintro ⟨q, hq, h1, h2⟩
    obtain ⟨r, hr, h3, rfl⟩ := mem_interD.1 hq
    dsimp only at h1 h2
    exact ⟨⟨r, hr, by omega, by omega⟩, by omega, by omega⟩
  · rintro ⟨⟨r, hr, h1, h2⟩, h3, h4⟩
    exact ⟨_, mem_interD.2 ⟨r, hr, by omega, rfl⟩, by dsimp only; omega, by dsimp only; omega⟩
theorem interD_can {lo hi : Int} : ∀ {l : List Rg}, canR l → canR (interD lo hi l)
  | [], _ => ⟨fun _ h => absurd h List.not_mem_nil, List.Pairwise.nil⟩
  | r :: l, h => by
    obtain ⟨h0, h1, h2⟩ := canR_tail h
    have ih := interD_can (lo := lo) (hi := hi) h2
    unfold interD at ih ⊢
    rw [List.filterMap_cons]
    cases hc : cutR lo hi r with
    | none => exact ih
    | some q =>
      unfold cutR at hc
      split at hc
      · rename_i hq
        cases hc
        refine ⟨fun s hs => ?_, ?_⟩
        · rcases List.mem_cons.1 hs with rfl | hs
          · exact hq
          · exact ih.1 s hs
        · dsimp only
          rw [List.pairwise_cons]
          refine ⟨fun s hs => ?_, ih.2⟩
          obtain ⟨t, ht, h3, rfl⟩ := mem_interD.1 hs
          have := h1 t ht
          dsimp only
          omega
      · cases hc
theorem interD_is {lo hi : Int} {l : List Rg} (h : canR l) : IsInt l [⟨lo, hi⟩] (interD lo hi l) := ⟨interD_can h, fun v => by rw [interD_mem, memR_one]⟩
/-- the text of a part of a day -/
def tmT (d : Nat) (r : Rg) : Bs := timeT (r.lo - 1440 * d).toNat ++ 45 :: timeT (r.hi - 1440 * d + 1).toNat
/-- the words of parts of days -/
def wordsF : List (Nat × Rg) → List Bs
  | [] => []
  | [p] => [dayT p.1, tmT p.1 p.2]
  | p :: rest => dayT p.1 :: tmT p.1 p.2 :: [44] :: wordsF rest
theorem words_snoc : ∀ (l : List (Nat × Rg)) (p : Nat × Rg), wordsF (l ++ [p]) = wordsF l ++ (if l = [] then [] else [[44]]) ++ [dayT p.1, tmT p.1 p.2]
  | [], p => rfl
  | [q], p => rfl
  | q :: q2 :: l, p => by
    have ih := words_snoc (q2 :: l) p
    rw [if_neg (by simp)] at ih ⊢
    show wordsF (q :: (q2 :: l ++ [p])) = _
    rw [List.cons_append, wordsF, ← List.cons_append, ih]
    · rfl
    · simp
theorem words_len : ∀ {l : List (Nat × Rg)}, l ≠ [] → (wordsF l).length + 1 = 3 * l.length
  | [], h => absurd rfl h
  | [p], _ => rfl
  | p :: q :: l, _ => by
    have := words_len (l := q :: l) (by simp)
    rw [wordsF]
    · simp only [List.length_cons] at this ⊢; omega
    · simp
/-- the parts of the days before the n-th -/
def partsW (x : List Rg) : Nat → List (Nat × Rg)
  | 0 => []
  | n + 1 => partsW x n ++ (interD (1440 * n) (1440 * n + 1439) x).map fun r => (n, r)
/-- the words of a window -/
def fmtF (x : List Rg) : List Bs := if x = [] then nevW else wordsF (partsW x 7)
end Go.Proofs.YtfhkmkbfgmbbaaaGreatDoor

/- How the program intersects two canonical lists: plain. -/
namespace Go.Proofs.YtfhkmkbfgmbbaaaGreatDoor
/-- what holds ahead of each round: what is made, and what is left -/
structure InvI (a b : List Rg) (i j : Nat) (out : List Rg) : Prop where
  can : canR out
  apart : ∀ q ∈ out, ∀ (hi : i < a.length) (hj : j < b.length), q.hi + 2 ≤ max a[i].lo b[j].lo
  mem : ∀ v, memR out v ∨ (memR (a.drop i) v ∧ memR (b.drop j) v) ↔ memR a v ∧ memR b v
theorem InvI.start (a b : List Rg) : InvI a b 0 0 [] := ⟨⟨fun _ h => absurd h List.not_mem_nil, List.Pairwise.nil⟩, fun _ h => absurd h List.not_mem_nil, fun v => by simp [memR_nil]⟩
theorem InvI.done {a b : List Rg} {i j : Nat} {out : List Rg} (h : InvI a b i j out) (he : a.length ≤ i ∨ b.length ≤ j) : IsInt a b out := ⟨h.can, fun v => by
  rw [← h.mem v]
  rcases he with he | he
  · rw [List.drop_of_length_le he]; simp [memR_nil]
  · rw [List.drop_of_length_le he]; simp [memR_nil]⟩
/-- the range that a round may add -/
def addI (out : List Rg) (A B : Rg) : List Rg := if max A.lo B.lo ≤ min A.hi B.hi then out ++ [⟨max A.lo B.lo, min A.hi B.hi⟩] else out
theorem memR_drop {a : List Rg} {i : Nat} (h : i < a.length) (v : Int) : memR (a.drop i) v ↔ (a[i].lo ≤ v ∧ v ≤ a[i].hi) ∨ memR (a.drop (i + 1)) v := by
  rw [List.drop_eq_getElem_cons h, memR_cons]
theorem can_next {a : List Rg} (ha : canR a) {i : Nat} (h : i < a.length) : a[i].lo ≤ a[i].hi ∧ (∀ h2 : i + 1 < a.length, a[i].hi + 2 ≤ a[i + 1].lo) ∧ ∀ v, memR (a.drop (i + 1)) v → a[i].hi + 2 ≤ v := by
  refine ⟨ha.1 _ (List.getElem_mem h), fun h2 => List.pairwise_iff_getElem.1 ha.2 i (i + 1) h h2 (by omega), fun v hv => ?_⟩
  obtain ⟨r, hr, h1, _⟩ := hv
  obtain ⟨k, hk, rfl⟩ := List.getElem_of_mem hr
  rw [List.getElem_drop] at h1
  rw [List.length_drop] at hk
  have := List.pairwise_iff_getElem.1 ha.2 i (i + 1 + k) h (by omega) (by omega)
  omega
theorem addI_mem {out : List Rg} {A B : Rg} (v : Int) : memR (addI out A B) v ↔ memR out v ∨ ((A.lo ≤ v ∧ v ≤ A.hi) ∧ B.lo ≤ v ∧ v ≤ B.hi) := by
  unfold addI
  split
  · rw [memR_append, memR_one]
    dsimp only
    constructor
    · rintro (h | h)
      · exact .inl h
      · exact .inr (by omega)
    · rintro (h | h)
      · exact .inl h
      · exact .inr (by omega)
  · constructor
    · exact .inl
    · rintro (h | h)
      · exact h
      · omega
theorem addI_can {out : List Rg} {A B : Rg} (h : canR out) (hq : ∀ q ∈ out, q.hi + 2 ≤ max A.lo B.lo) : canR (addI out A B) := by
  unfold addI
  split
  · exact canR_snoc.2 ⟨h, by assumption, fun q hqm => hq q hqm⟩
  · exact h
theorem addI_in {out : List Rg} {A B : Rg} {q : Rg} (h : q ∈ addI out A B) : q ∈ out ∨ q = ⟨max A.lo B.lo, min A.hi B.hi⟩ := by
  unfold addI at h
  split at h
  · rcases List.mem_append.1 h with h | h
    · exact .inl h
    · exact .inr (List.mem_singleton.1 h)
  · exact .inl h
theorem InvI.left {a b : List Rg} {i j : Nat} {out : List Rg} (h : InvI a b i j out) (ha : canR a) (hb : canR b) (hi : i < a.length) (hj : j < b.length) (hlt : a[i].hi < b[j].hi) : InvI a b (i + 1) j (addI out a[i] b[j]) := by
  obtain ⟨a1, a2, a3⟩ := can_next ha hi
  obtain ⟨b1, b2, b3⟩ := can_next hb hj
  have hq := fun q hm => h.apart q hm hi hj
  refine ⟨addI_can h.can hq, fun q hm hi2 hj2 => ?_, fun v => ?_⟩
  · have h2 := a2 hi2
    rcases addI_in hm with hm | rfl
    · have := hq q hm; omega
    · dsimp only; omega
  · rw [addI_mem, ← h.mem v, memR_drop hi v, memR_drop hj v]
    constructor
    · rintro ((h1 | ⟨h1, h2⟩) | ⟨h1, h2⟩)
      · exact .inl h1
      · exact .inr ⟨.inl h1, .inl h2⟩
      · exact .inr ⟨.inr h1, h2⟩
    · rintro (h1 | ⟨h1 | h1, h2⟩)
      · exact .inl (.inl h1)
      · rcases h2 with h2 | h2
        · exact .inl (.inr ⟨h1, h2⟩)
        · have := b3 v h2; omega
      · exact .inr ⟨h1, h2⟩
theorem InvI.right {a b : List Rg} {i j : Nat} {out : List Rg} (h : InvI a b i j out) (ha : canR a) (hb : canR b) (hi : i < a.length) (hj : j < b.length) (hlt : ¬ a[i].hi < b[j].hi) : InvI a b i (j + 1) (addI out a[i] b[j]) := by
  obtain ⟨a1, a2, a3⟩ := can_next ha hi
  obtain ⟨b1, b2, b3⟩ := can_next hb hj
  have hq := fun q hm => h.apart q hm hi hj
  refine ⟨addI_can h.can hq, fun q hm hi2 hj2 => ?_, fun v => ?_⟩
  · have h2 := b2 hj2
    rcases addI_in hm with hm | rfl
    · have := hq q hm; omega
    · dsimp only; omega
  · rw [addI_mem, ← h.mem v, memR_drop hi v, memR_drop hj v]
    constructor
    · rintro ((h1 | ⟨h1, h2⟩) | ⟨h1, h2⟩)
      · exact .inl h1
      · exact .inr ⟨.inl h1, .inl h2⟩
      · exact .inr ⟨h1, .inr h2⟩
    · rintro (h1 | ⟨h1, h2 | h2⟩)
      · exact .inl (.inl h1)
      · rcases h1 with h1 | h1
        · exact .inl (.inr ⟨h1, h2⟩)
        · have := a3 v h1; omega
      · exact .inr ⟨h1, h2⟩
end Go.Proofs.YtfhkmkbfgmbbaaaGreatDoor

/- The calendar's items and segments: plain. -/
namespace Go.Proofs.YtfhkmkbfgmbbaaaGreatDoor
abbrev BndR (l : List Rg) : Prop := ∀ r ∈ l, 0 ≤ r.lo ∧ r.lo ≤ 4294967295 ∧ 0 ≤ r.hi ∧ r.hi ≤ 4294967295
theorem canU_mem {l : List Rg} (hl : BndR l) (v : Int) : memR (canU l) v ↔ memR l v := (canU_is hl).2 v
theorem canU_bnd {l : List Rg} (hl : BndR l) : BndR (canU l) := fun r hr => by
  have hc := (canU_is hl).1.1 r hr
  obtain ⟨s, hs, h1, h2⟩ := (canU_mem hl r.lo).1 ⟨r, hr, Int.le_refl _, hc⟩
  obtain ⟨t, ht, h3, h4⟩ := (canU_mem hl r.hi).1 ⟨r, hr, hc, Int.le_refl _⟩
  have := hl s hs
  have := hl t ht
  omega
/-- where a canonical list begins or ends, membership turns -/
theorem edge_iff {c : List Rg} (hc : canR c) (m : Int) : ¬ (memR c m ↔ memR c (m - 1)) ↔ ∃ r ∈ c, m = r.lo ∨ m = r.hi + 1 := by
  have sep : ∀ r ∈ c, ∀ s ∈ c, r = s ∨ r.hi + 2 ≤ s.lo ∨ s.hi + 2 ≤ r.lo := fun r hr s hs => by
    obtain ⟨i, hi, rfl⟩ := List.getElem_of_mem hr
    obtain ⟨j, hj, rfl⟩ := List.getElem_of_mem hs
    rcases Nat.lt_trichotomy i j with h | h | h
    · exact .inr (.inl (List.pairwise_iff_getElem.1 hc.2 i j hi hj h))
    · subst h; exact .inl rfl
    · exact .inr (.inr (List.pairwise_iff_getElem.1 hc.2 j i hj hi h))
  constructor
  · intro h
    by_cases h1 : memR c m
    · obtain ⟨r, hr, h2, h3⟩ := id h1
      refine ⟨r, hr, .inl ?_⟩
      by_cases h4 : r.lo ≤ m - 1
      · exact absurd ⟨fun _ => ⟨r, hr, h4, by omega⟩, fun _ => h1⟩ h
      · omega
    · by_cases h5 : memR c (m - 1)
      · obtain ⟨r, hr, h2, h3⟩ := id h5
        refine ⟨r, hr, .inr ?_⟩
        by_cases h4 : m ≤ r.hi
        · exact absurd ⟨r, hr, by omega, h4⟩ h1
        · omega
      · exact absurd ⟨fun h6 => absurd h6 h1, fun h6 => absurd h6 h5⟩ h
  · rintro ⟨r, hr, h1⟩ h
    have hr2 := hc.1 r hr
    rcases h1 with rfl | rfl
    · obtain ⟨s, hs, h2, h3⟩ := h.1 ⟨r, hr, Int.le_refl _, hr2⟩
      rcases sep r hr s hs with rfl | h4 | h4 <;> omega
    · obtain ⟨s, hs, h2, h3⟩ := h.2 ⟨r, hr, by omega, by omega⟩
      rcases sep r hr s hs with rfl | h4 | h4 <;> omega
/-- membership of a list turns at a minute -/
def turnB (l : List Rg) (m : Int) : Bool := memB l m != memB l (m - 1)
theorem turn_iff {l : List Rg} (hl : BndR l) (m : Int) : turnB l m = true ↔ ∃ r ∈ canU l, m = r.lo ∨ m = r.hi + 1 := by
  rw [← edge_iff (canU_is hl).1]
  unfold turnB
  rw [bne_iff_ne, Ne, Bool.eq_iff_iff, memB_iff, memB_iff, canU_mem hl, canU_mem hl]
end Go.Proofs.YtfhkmkbfgmbbaaaGreatDoor

/- The reference of intervals: what two lists share. -/
namespace Go.Proofs.YtfhkmkbfgmbbaaaGreatDoor
open Go.RowKit
set_option maxRecDepth 100000
def memI (la lb : List Rg) (v : Int) : Bool := memB la v && memB lb v
theorem memI_eq (la lb : List Rg) (v : Int) : memI la lb v = (memB la v && memB lb v) := rfl
/-- the canonical list of what two lists share -/
def canI (la lb : List Rg) : List Rg := keepK (memI la lb) 4294967295 (ptsR 4294967295 (la ++ lb)) (ptsR 4294967295 (la ++ lb)).length
theorem part_const {top : Int} {l m : List Rg} (h0 : 0 ≤ top) (_hb : ∀ r ∈ l, 0 ≤ r.lo ∧ r.hi ≤ top) (hm : ∀ r ∈ m, r ∈ l) {k : Nat} (hk : k < (ptsR top l).length) {v : Int} (h1 : (ptsR top l)[k] ≤ v) (h2 : v < bndK top (ptsR top l) (k + 1)) : memR m v ↔ memR m (ptsR top l)[k] := by
  have hs := ptsR_asc top l
  have hin : ∀ {x : Int}, x ∈ ptsR top l ↔ x = 0 ∨ x ≤ top ∧ ∃ r ∈ l, r.lo ≤ r.hi ∧ (x = r.lo ∨ x = r.hi + 1) := mem_ptsR
  have ht : ∀ x ∈ ptsR top l, x ≤ top := fun x hx => by
    rcases hin.1 hx with rfl | h
    · exact h0
    · exact h.1
  generalize ptsR top l = s at *
  have hvt : v ≤ top := by
    have : bndK top s (k + 1) ≤ top + 1 := by
      unfold bndK
      by_cases h : k + 1 < s.length
      · rw [List.getElem?_eq_getElem h, Option.getD_some]
        have := ht _ (List.getElem_mem h)
        omega
      · rw [List.getElem?_eq_none (by omega), Option.getD_none]
        exact Int.le_refl _
    omega
  constructor
  · rintro ⟨r, hr, a1, a2⟩
    refine ⟨r, hr, ?_, by omega⟩
    by_cases h : s[k] < r.lo
    · have := asc_next (top := top) hs hk (hin.2 (.inr ⟨by omega, r, hm r hr, by omega, .inl rfl⟩)) h
      omega
    · omega
  · rintro ⟨r, hr, a1, a2⟩
    refine ⟨r, hr, by omega, ?_⟩
    by_cases h : r.hi < v
    · have := asc_next (top := top) hs hk (hin.2 (.inr ⟨by omega, r, hm r hr, by omega, .inr rfl⟩)) (by omega)
      omega
    · omega
theorem canI_is {la lb : List Rg} (hb : ∀ r ∈ la ++ lb, 0 ≤ r.lo ∧ r.lo ≤ 4294967295 ∧ 0 ≤ r.hi ∧ r.hi ≤ 4294967295) : IsInt la lb (canI la lb) := by
  have hb' : ∀ r ∈ la ++ lb, 0 ≤ r.lo ∧ r.hi ≤ 4294967295 := fun r hr => ⟨(hb r hr).1, (hb r hr).2.2.2⟩
  have hA : ∀ r ∈ la, r ∈ la ++ lb := fun r hr => List.mem_append_left _ hr
  have hB : ∀ r ∈ lb, r ∈ la ++ lb := fun r hr => List.mem_append_right _ hr
  have hin : ∀ {x : Int}, x ∈ ptsR 4294967295 (la ++ lb) ↔ x = 0 ∨ x ≤ 4294967295 ∧ ∃ r ∈ la ++ lb, r.lo ≤ r.hi ∧ (x = r.lo ∨ x = r.hi + 1) := mem_ptsR
  have hs := ptsR_asc 4294967295 (la ++ lb)
  have ht : ∀ x ∈ ptsR 4294967295 (la ++ lb), x ≤ 4294967295 := fun x hx => by
    rcases hin.1 hx with rfl | h
    · decide
    · exact h.1
  have hge : ∀ x ∈ ptsR 4294967295 (la ++ lb), 0 ≤ x := fun x hx => by
    rcases hin.1 hx with rfl | ⟨_, r, hr, h1, h2⟩
    · exact Int.le_refl _
    · have := hb r hr; omega
  have hz : (0 : Int) ∈ ptsR 4294967295 (la ++ lb) := hin.2 (.inl rfl)
  have hfirst : (ptsR 4294967295 (la ++ lb))[0]? = some 0 := by
    obtain ⟨j, hj, e⟩ := List.getElem_of_mem hz
    rw [List.getElem?_eq_getElem (by omega)]
    by_cases hj0 : j = 0
    · subst hj0; rw [e]
    · have h1 := List.pairwise_iff_getElem.1 hs 0 j (by omega) hj (by omega)
      have h2 := hge _ (List.getElem_mem (show 0 < (ptsR 4294967295 (la ++ lb)).length by omega))
      omega
  obtain ⟨h1, h2, -⟩ := keepK_spec (p := memI la lb) (P := fun v => memR la v ∧ memR lb v) hs ht hfirst (fun k hk => by rw [memI_eq, Bool.and_eq_true, memB_iff, memB_iff]) (fun k hk v h1 h2 => by
    rw [part_const (by decide) hb' hA hk h1 h2, part_const (by decide) hb' hB hk h1 h2]) _ (Nat.le_refl _)
  refine ⟨h1, fun v => ?_⟩
  unfold canI
  rw [h2]
  have hbt : bndK 4294967295 (ptsR 4294967295 (la ++ lb)) (ptsR 4294967295 (la ++ lb)).length = 4294967295 + 1 := by unfold bndK; rw [List.getElem?_eq_none (Nat.le_refl _), Option.getD_none]
  rw [hbt]
  constructor
  · exact fun h => h.2.2
  · rintro ⟨a1, a2⟩
    obtain ⟨r, hr, b1, b2⟩ := id a1
    have := hb r (hA r hr)
    exact ⟨by omega, by omega, a1, a2⟩
set_option maxHeartbeats 16000000 in
theorem rkeepI_any {va vb : Value} {la lb : List Rg} (w : World) (hva : IsCells w va la.length (rcs la)) (hvb : IsCells w vb lb.length (rcs lb)) (na : la.length ≤ 10000000000) (nb : lb.length ≤ 10000000000)
    (ba : ∀ r ∈ la, 0 ≤ r.lo ∧ r.lo ≤ 4294967295 ∧ 0 ≤ r.hi ∧ r.hi ≤ 4294967295) (bb : ∀ r ∈ lb, 0 ≤ r.lo ∧ r.lo ≤ 4294967295 ∧ 0 ≤ r.hi ∧ r.hi ≤ 4294967295) :
    Calls Tryz.prog 43 #[va, vb, .int .i64 1, .int .u32 4294967295] w (RetRgs w (canI la lb)) := by
  have hO := own_cellsA (own_cellsA (own_start [] w) hvb) hva
  have hsA := fun (wq : World) (h : Keep [] w wq) => hva.below h.below
  have hsB := fun (wq : World) (h : Keep [] w wq) => hvb.below h.below
  have fa := isCells_form hva
  have fb := isCells_form hvb
  have za := rcs_nil_of la
  have zb := rcs_nil_of lb
  have hb : ∀ r ∈ la ++ lb, 0 ≤ r.lo ∧ r.lo ≤ 4294967295 ∧ 0 ≤ r.hi ∧ r.hi ≤ 4294967295 := fun r hr => (List.mem_append.1 hr).elim (ba r) (bb r)
  obtain ⟨a1, c1, rfl, -⟩ := formC_view fa
  obtain ⟨a2, c2, rfl, -⟩ := formC_view fb
  simp only [List.append_nil] at hO
  clear hva hvb
  have hst := fun (v : Value) (w : World) (hv : IsCells w v (la ++ lb).length (rcs (la ++ lb))) => starts_any (top := 4294967295) w hv (by rw [List.length_append]; omega) (by decide) (by decide) hb
  have hS1 : ∀ x ∈ ptsR 4294967295 (la ++ lb), 0 ≤ x ∧ x ≤ 4294967295 := fun x hx => by
    rcases mem_ptsR.1 hx with rfl | ⟨h1, r, hr, h2, h3⟩
    · omega
    · have := hb r hr; omega
  have hS2 := ptsR_len 4294967295 (la ++ lb) (la ++ lb).length (Nat.le_refl _)
  have hS3 := ptsR_asc 4294967295 (la ++ lb)
  rw [List.take_length, List.length_append] at hS2
  have hCU : canI la lb = keepK (memI la lb) 4294967295 (ptsR 4294967295 (la ++ lb)) (ptsR 4294967295 (la ++ lb)).length := rfl
  rw [hCU]
  clear hCU
  have hMB := memI_eq la lb
  generalize hS9 : ptsR 4294967295 (la ++ lb) = S at *
  clear hS9
  have s0 : IntKind.u64.wrap (4294967295 : Int) = 4294967295 := by decide
  have hE9 : [] ++ rcs la ++ rcs lb = rcs (la ++ lb) := by rw [rcs_append]; rfl
  go_enter Tryz.func43, Tryz.ntmps43
  go_wp2_with (first | ((with_reducible refine is_build ?_); (refine own_build0 (o := ⟨some 17, _, _, _, _, _⟩) hO (by rfl) rfl slice_Ranges ?_); clear hO; intro n17 wv hO) | ((with_reducible refine is_append ?_); (refine own_appendS (o := ⟨some 19, _, _, _, _, _⟩) hO rfl rfl slice_Ranges rfl rfl (src_of_cells (hsA _ hO.keep) (rcs_length la)) (rcs_one' la) (fun _ => by repeat (first | exact UpdR.here | apply UpdR.there)) (by simp; omega) (by unfold maxLen; simp; omega) ?_); clear hO; intro v19 wv hO) | ((with_reducible refine is_append ?_); (refine own_appendS (o := ⟨some 21, _, _, _, _, _⟩) hO rfl rfl slice_Ranges rfl rfl (src_of_cells (hsB _ hO.keep) (rcs_length lb)) (rcs_one' lb) (fun _ => by repeat (exact UpdR.here)) (by simp; omega) (by unfold maxLen; simp; omega) ?_); clear hO; intro v21 wv hO) | (go_at_call 61; (have hQ9 := hO); rw [hE9] at hQ9; (have hR9 := own_rgs hQ9 List.mem_cons_self); (with_reducible refine (hst _ _ hR9).mono ?_); clear hR9 hQ9; rintro e wv ⟨g9, c9, rfl, hc9, hr9, hg9, hb9⟩; have hs9 := hO.keep.size; replace hO := ((hO.call hb9).sub (X' := []) (R' := []) (List.nil_sublist _) (List.nil_sublist _) (fun _ h => h)).addRo ⟨g9, 0, ul S⟩ hr9 (fun _ hm => by simp [excl] at hm); clear hb9 hst))
  replace hO := hO.sub (X' := []) (R' := []) (List.nil_sublist _) (List.nil_sublist _) (fun _ h => h)
  replace hO := hO.nilRow 46 2
  go_loopw [10, 11] (fun r q wr => ∃ (i : Nat) (m : List Rg), i ≤ S.length ∧ q = .int .i64 i ∧ m.length ≤ i ∧ (∀ q ∈ m, 0 ≤ q.hi ∧ q.hi ≤ 4294967295) ∧ Hid (keepK (memI la lb) 4294967295 S i = m) ∧ Own [] w [] [⟨r, m.length, rcs m, 46, 2⟩] (⟨g9, 0, ul S⟩ :: (roS (.slice a1 la.length c1) (rcs la) ++ roS (.slice a2 lb.length c2) (rcs lb))) wr) (fun _ q _ => S.length - (intOf q).toNat)
  case atStart => exact ⟨0, [], by omega, rfl, by simp, by simp, Lib.hid rfl, hO⟩
  case round =>
    clear hO
    obtain ⟨i, m, hi, rfl, hmi, hmb, HM, hO⟩ := hrel
    have s4 : IntKind.i64.wrap ((i : Int) + 1) = (i : Int) + 1 := IntWalk.i64_in _ (by omega)
    by_cases hlt : i < S.length
    · have u1 := ul_at hlt
      obtain ⟨b1, b2⟩ := hS1 _ (List.getElem_mem hlt)
      have s5 : IntKind.u32.wrap S[i] = S[i] := by rw [IntKind.wrap_u32]; omega
      have cA := fun w hv => rctn_any (vl := .slice a1 la.length c1) (l := la) S[i] w hv (by omega)
      have cB := fun w hv => rctn_any (vl := .slice a2 lb.length c2) (l := lb) S[i] w hv (by omega)
      have hKy := fun h => keepK_yes (p := memI la lb) (top := 4294967295) hlt h
      have hKn := fun h => keepK_no (p := memI la lb) (top := 4294967295) hlt h
      have hbd := asc_bnd (top := 4294967295) hS3 (fun x hx => (hS1 x hx).2) hlt
      rw [hMB, HM.out] at hKy hKn
      clear HM
      generalize memB la S[i] = xa at *
      generalize memB lb S[i] = xb at *
      by_cases hn : i + 1 < S.length
      · have g2 : decide ((i : Int) + 1 < (S.length : Int)) = true := decide_eq_true (by omega)
        have u2 := ul_at hn
        obtain ⟨b3, b4⟩ := hS1 _ (List.getElem_mem hn)
        rw [bnd_in hn] at hKy hbd
        have s9 : IntKind.u64.wrap (S[i + 1] - 1) = S[i + 1] - 1 := by rw [IntKind.wrap_u64]; omega
        have sE : IntKind.u32.wrap (S[i + 1] - 1) = S[i + 1] - 1 := by rw [IntKind.wrap_u32]; omega
        have hE0 : 0 ≤ S[i + 1] - 1 := by omega
        have hE1 : S[i + 1] - 1 ≤ 4294967295 := by omega
        generalize S[i] = x at *
        generalize S[i + 1] = x2 at *
        go_wp2_with ((with_reducible refine is_load ?_); refine own_ld (h := ?_))
        refine wp_region_any (by kernel_rfl) ?_
        replace hO := hO.drew
        have ix9 := Ix.mk [0, 1, 2, 3, 7, 8, 9, 10]
        iterate 8 (refine wpAny_tk ix9 ?_; replace ix9 := ix9.tail; (first | go_big_quiet_skip | (go_big_quiet_want; (go_big_quiet_op; (first | go_big_quiet_on | ((refine ⟨_, fun _ _ => rfl, ?_⟩); go_big_quiet_on))))); (refine wpQuiet_nil ?_); (try simp only [Act.put]); (try simp only [List.setIfInBounds_toArray, List.set_cons_zero, List.set_cons_succ]))
        clear ix9
        refine wpAny_all (rs := [4, 11]) (by kernel_rfl) (by simp) (ord_cons ?_ (ord_cons ?_ ord_nil))
        rotate_left 2
        all_goals
          refine wpOp_of_listL rfl ?_
          ((with_reducible refine is_load ?_); refine own_ld (h := ?_)); (try simp only [Act.put]); (try simp only [List.setIfInBounds_toArray, List.set_cons_zero, List.set_cons_succ])
          refine wpList_done (qk_intro ?_)
        refine wpAny_tk (Ix.mk [5]) ?_
        (first | go_big_quiet_skip | (go_big_quiet_want; (go_big_quiet_op; (first | go_big_quiet_on | ((refine ⟨_, fun _ _ => rfl, ?_⟩); go_big_quiet_on))))); (refine wpQuiet_nil ?_); (try simp only [Act.put]); (try simp only [List.setIfInBounds_toArray, List.set_cons_zero, List.set_cons_succ])
        refine wpAny_all (rs := [6, 11]) (by kernel_rfl) (by simp) (ord_cons ?_ (ord_cons ?_ ord_nil))
        rotate_left 2
        refine wpAny_tk (Ix.mk [12]) ?_
        (first | go_big_quiet_skip | (go_big_quiet_want; (go_big_quiet_op; (first | go_big_quiet_on | ((refine ⟨_, fun _ _ => rfl, ?_⟩); go_big_quiet_on))))); (refine wpQuiet_nil ?_); (try simp only [Act.put]); (try simp only [List.setIfInBounds_toArray, List.set_cons_zero, List.set_cons_succ])
        refine wpAny_all (rs := [4]) (by kernel_rfl) (by simp) (ord_cons ?_ ord_nil)
        rotate_left 1
        all_goals
          refine wpOp_of_listL rfl ?_
          (first | ((with_reducible refine is_load ?_); refine own_ld (h := ?_)) | ((refine wpList_step (fun K hK => ?_)); go_simp; ((go_at_call 28; (with_reducible refine (cA _ (hO.isC fa za (by intro q hq; repeat (first | exact List.mem_append_left _ hq | apply List.mem_cons_of_mem)))).mono ?_); rintro e wv ⟨rfl, hb9⟩; replace hO := hO.call hb9; clear hb9); (try simp only []); (refine hK _ _ ?_); clear hK K))); (try simp only [Act.put]); (try simp only [List.setIfInBounds_toArray, List.set_cons_zero, List.set_cons_succ])
          refine wpList_done (qk_intro ?_)
        refine wpAny_all (rs := [11]) (by kernel_rfl) (by simp) (ord_cons ?_ ord_nil)
        rotate_left 1
        refine wpAny_tk (Ix.mk [12]) ?_
        (first | go_big_quiet_skip | (go_big_quiet_want; (go_big_quiet_op; (first | go_big_quiet_on | ((refine ⟨_, fun _ _ => rfl, ?_⟩); go_big_quiet_on))))); (refine wpQuiet_nil ?_); (try simp only [Act.put]); (try simp only [List.setIfInBounds_toArray, List.set_cons_zero, List.set_cons_succ])
        refine wpAny_all (rs := [6]) (by kernel_rfl) (by simp) (ord_cons ?_ ord_nil)
        rotate_left 1
        refine wpAny_tk (Ix.mk [5]) ?_
        (first | go_big_quiet_skip | (go_big_quiet_want; (go_big_quiet_op; (first | go_big_quiet_on | ((refine ⟨_, fun _ _ => rfl, ?_⟩); go_big_quiet_on))))); (refine wpQuiet_nil ?_); (try simp only [Act.put]); (try simp only [List.setIfInBounds_toArray, List.set_cons_zero, List.set_cons_succ])
        refine wpAny_all (rs := [6]) (by kernel_rfl) (by simp) (ord_cons ?_ ord_nil)
        rotate_left 1
        all_goals
          refine wpOp_of_listL rfl ?_
          (first | ((with_reducible refine is_load ?_); refine own_ld (h := ?_)) | ((refine wpList_step (fun K hK => ?_)); go_simp; ((go_at_call 28; (with_reducible refine (cA _ (hO.isC fa za (by intro q hq; repeat (first | exact List.mem_append_left _ hq | apply List.mem_cons_of_mem)))).mono ?_); rintro e wv ⟨rfl, hb9⟩; replace hO := hO.call hb9; clear hb9); (try simp only []); (refine hK _ _ ?_); clear hK K))); (try simp only [Act.put]); (try simp only [List.setIfInBounds_toArray, List.set_cons_zero, List.set_cons_succ])
          refine wpList_done (qk_intro ?_)
        refine wpAny_tk (Ix.mk [12]) ?_
        (first | go_big_quiet_skip | (go_big_quiet_want; (go_big_quiet_op; (first | go_big_quiet_on | ((refine ⟨_, fun _ _ => rfl, ?_⟩); go_big_quiet_on))))); (refine wpQuiet_nil ?_); (try simp only [Act.put]); (try simp only [List.setIfInBounds_toArray, List.set_cons_zero, List.set_cons_succ])
        refine wpAny_all (rs := [13]) (by kernel_rfl) (by simp) (ord_cons ?_ ord_nil)
        rotate_left 1
        refine wpAny_all (rs := [13]) (by kernel_rfl) (by simp) (ord_cons ?_ ord_nil)
        rotate_left 1
        refine wpAny_all (rs := [13]) (by kernel_rfl) (by simp) (ord_cons ?_ ord_nil)
        rotate_left 1
        all_goals
          refine wpOp_of_listL rfl ?_
          ((refine wpList_step (fun K hK => ?_)); go_simp; ((go_at_call 28; (with_reducible refine (cB _ (hO.isC fb zb (by intro q hq; repeat (first | exact hq | apply List.mem_append_right | apply List.mem_cons_of_mem)))).mono ?_); rintro e wv ⟨rfl, hb9⟩; replace hO := hO.call hb9; clear hb9); (try simp only []); (refine hK _ _ ?_); clear hK K))
          refine wpList_done (qk_intro ?_)
        refine wpAny_all (rs := [14]) (by kernel_rfl) (by simp) (ord_cons ?_ ord_nil)
        rotate_left 1
        refine wpAny_all (rs := [14]) (by kernel_rfl) (by simp) (ord_cons ?_ ord_nil)
        rotate_left 1
        refine wpAny_all (rs := [14]) (by kernel_rfl) (by simp) (ord_cons ?_ ord_nil)
        rotate_left 1
        all_goals
          refine wpOp_of_listL rfl ?_
          ((refine wpList_step (fun K hK => ?_)); go_simp; ((refine hK _ _ ?_); clear hK K))
          refine wpList_done (qk_intro ?_)
        refine wpAny_all (rs := [15]) (by kernel_rfl) (by simp) (ord_cons ?_ ord_nil)
        rotate_left 1
        refine wpAny_all (rs := [15]) (by kernel_rfl) (by simp) (ord_cons ?_ ord_nil)
        rotate_left 1
        refine wpAny_all (rs := [15]) (by kernel_rfl) (by simp) (ord_cons ?_ ord_nil)
        rotate_left 1
        all_goals
          refine wpOp_of_listL rfl ?_
          ((refine wpList_step (fun K hK => ?_)); go_simp; ((refine hK _ _ ?_); clear hK K))
          refine wpList_done (qk_intro ?_)
        refine wpAny_done (by kernel_rfl) ?_ _
        rotate_left
        refine wpAny_done (by kernel_rfl) ?_ _
        rotate_left
        refine wpAny_done (by kernel_rfl) ?_ _
        rotate_left
        all_goals
          cases hx : (xa && xb)
          · have HE := Lib.hid (hKn hx)
            cases xa
            · cases xb
              · clear hx hKy hKn
                go_wp2_with fail
                go_roundw
                case rel => exact ⟨i + 1, m, by omega, by go_num, by omega, hmb, HE, hO⟩
                case measure => simp [intOf]; omega
              · clear hx hKy hKn
                go_wp2_with fail
                go_roundw
                case rel => exact ⟨i + 1, m, by omega, by go_num, by omega, hmb, HE, hO⟩
                case measure => simp [intOf]; omega
            · cases xb
              · clear hx hKy hKn
                go_wp2_with fail
                go_roundw
                case rel => exact ⟨i + 1, m, by omega, by go_num, by omega, hmb, HE, hO⟩
                case measure => simp [intOf]; omega
              · cases hx
          · have HT := hKy hx
            cases xa
            · cases hx
            · cases xb
              · cases hx
              · clear hx hKy hKn
                obtain ⟨a4, c4, rfl, ha4⟩ := own_view hO List.mem_cons_self
                rcases snoc_cases m with rfl | ⟨A, q, rfl⟩
                · rw [addK_nil] at HT
                  have HE := Lib.hid HT
                  clear HT
                  have g5 : decide ((0 : Int) < (([] : List Rg).length : Nat)) = false := rfl
                  go_wp2_with fail
                  (refine own_quiet hO (by kernel_rfl) (by kernel_rfl) ?_; clear hO; (repeat (first | go_big_quiet_skip | (go_big_quiet_want; (go_big_quiet_op; (first | go_big_quiet_on | ((refine ⟨_, fun _ _ => rfl, ?_⟩); go_big_quiet_on)))))); (refine wpQuiet_nil ?_); intro wv hO)
                  go_wp2_with (first | ((with_reducible refine is_load ?_); refine own_ld (h := ?_)) | ((with_reducible refine is_build ?_); (refine' own_build1 (o := ⟨some 120, _, _, _, _, _⟩) hO (by rfl) rfl rfl ?hu ?hf ?_; (case hu => (exact und_Ranges)); (case hf => kernel_rfl); clear hO; intro n120 wv hO)) | ((with_reducible refine is_append ?_); (refine own_ap (o := ⟨some 121, _, _, _, _, _⟩) (hO := hO) (h := ?_); clear hO; intro g121 c121 wv hO)))
                  go_roundw
                  case rel =>
                    refine ⟨i + 1, [⟨x, x2 - 1⟩], by omega, by go_num, by simp, ?_, HE, ?_⟩
                    · intro r hr; rw [List.mem_singleton.1 hr]; exact ⟨hE0, hE1⟩
                    · exact hO.sub (.cons _ (.refl _)) (.refl _) (fun _ h => h)
                  case measure => simp [intOf]; omega
                · have hk : (A ++ [q]).length = A.length + 1 := by simp
                  rw [hk] at ha4
                  obtain ⟨gq, rfl⟩ := ha4 (by omega)
                  obtain ⟨q1, q2⟩ := hmb q (by simp)
                  obtain ⟨-, u3⟩ := rcs_at (l := A ++ [q]) (i := A.length) (by simp)
                  rw [List.getElem_concat_length rfl] at u3
                  rw [hk] at hO hmi ⊢
                  have g5 : decide ((0 : Int) < ((A.length + 1 : Nat) : Int)) = true := by simp
                  have s6 : IntKind.i64.wrap (((A.length + 1 : Nat) : Int) - 1) = (A.length : Int) := by rw [IntWalk.i64_in _ (by omega)]; omega
                  have s7 : IntKind.u64.wrap q.hi = q.hi := by rw [IntKind.wrap_u64]; omega
                  have s8 : IntKind.u64.wrap (q.hi + 1) = q.hi + 1 := by rw [IntKind.wrap_u64]; omega
                  by_cases hj : q.hi + 1 = x
                  · have g6 : (q.hi + 1 == x) = true := by simp [hj]
                    rw [addK_join hj] at HT
                    have HE := Lib.hid HT
                    clear HT hj
                    go_wp2_with fail
                    (refine own_quiet hO (by kernel_rfl) (by kernel_rfl) ?_; clear hO; (repeat (go_big_quiet_want; (first | ((with_reducible refine is_loadQ ?_); (refine q_ld (h := ?_)); (try simp only [Act.put]); (try simp only [List.setIfInBounds_toArray, List.set_cons_zero, List.set_cons_succ]); go_big_quiet_on) | (go_big_quiet_op; (first | go_big_quiet_on | ((refine ⟨_, fun _ _ => rfl, ?_⟩); go_big_quiet_on)))))); (refine wpQuiet_nil ?_); intro wv hO)
                    go_wp2_with ((with_reducible refine is_store ?_); (refine own_stW (hO := hO) (hn := rfl) (hl := by rw [rcs_length]; simp; omega) (h := ?_); clear hO; intro wv hO))
                    rw [rcs_set] at hO
                    go_roundw
                    case rel =>
                      refine ⟨i + 1, A ++ [⟨q.lo, x2 - 1⟩], by omega, by go_num, by simp; omega, ?_, HE, ?_⟩
                      · intro r hr
                        rcases List.mem_append.1 hr with hr | hr
                        · exact hmb r (List.mem_append_left _ hr)
                        · rw [List.mem_singleton.1 hr]; exact ⟨hE0, hE1⟩
                      · rw [List.length_append]
                        exact hO
                    case measure => simp [intOf]; omega
                  · have g6 : (q.hi + 1 == x) = false := by simp [hj]
                    rw [addK_apart hj] at HT
                    have HE := Lib.hid HT
                    clear HT hj
                    go_wp2_with fail
                    (refine own_quiet hO (by kernel_rfl) (by kernel_rfl) ?_; clear hO; (repeat (go_big_quiet_want; (first | ((with_reducible refine is_loadQ ?_); (refine q_ld (h := ?_)); (try simp only [Act.put]); (try simp only [List.setIfInBounds_toArray, List.set_cons_zero, List.set_cons_succ]); go_big_quiet_on) | (go_big_quiet_op; (first | go_big_quiet_on | ((refine ⟨_, fun _ _ => rfl, ?_⟩); go_big_quiet_on)))))); (refine wpQuiet_nil ?_); intro wv hO)
                    go_wp2_with (first | ((with_reducible refine is_load ?_); refine own_ld (h := ?_)) | ((with_reducible refine is_build ?_); (refine' own_build1 (o := ⟨some 120, _, _, _, _, _⟩) hO (by rfl) rfl rfl ?hu ?hf ?_; (case hu => (exact und_Ranges)); (case hf => kernel_rfl); clear hO; intro n120 wv hO)) | ((with_reducible refine is_append ?_); (refine own_ap (o := ⟨some 121, _, _, _, _, _⟩) (hO := hO) (h := ?_); clear hO; intro g121 c121 wv hO)))
                    go_roundw
                    case rel =>
                      refine ⟨i + 1, A ++ [q] ++ [⟨x, x2 - 1⟩], by omega, by go_num, by simp; omega, ?_, HE, ?_⟩
                      · intro r hr
                        rcases List.mem_append.1 hr with hr | hr
                        · exact hmb r hr
                        · rw [List.mem_singleton.1 hr]; exact ⟨hE0, hE1⟩
                      · rw [rcs_append, rcs_one, List.length_append, hk]
                        exact hO.sub (.cons _ (.refl _)) (.refl _) (fun _ h => h)
                    case measure => simp [intOf]; omega
      · have g2 : decide ((i : Int) + 1 < (S.length : Int)) = false := decide_eq_false (by omega)
        rw [bnd_end hn] at hKy hbd
        have sE : IntKind.u32.wrap (4294967295 : Int) = 4294967295 := by decide
        rw [show (4294967295 : Int) + 1 - 1 = 4294967295 by decide] at hKy
        have hE0 : 0 ≤ (4294967295 : Int) := by decide
        have hE1 : (4294967295 : Int) ≤ 4294967295 := by decide
        generalize S[i] = x at *
        go_wp2_with fail
        refine wp_region_any (by kernel_rfl) ?_
        replace hO := hO.drew
        have ix9 := Ix.mk [0, 1, 2, 3, 7, 8, 9, 10]
        iterate 8 (refine wpAny_tk ix9 ?_; replace ix9 := ix9.tail; (first | go_big_quiet_skip | (go_big_quiet_want; (go_big_quiet_op; (first | go_big_quiet_on | ((refine ⟨_, fun _ _ => rfl, ?_⟩); go_big_quiet_on))))); (refine wpQuiet_nil ?_); (try simp only [Act.put]); (try simp only [List.setIfInBounds_toArray, List.set_cons_zero, List.set_cons_succ]))
        clear ix9
        refine wpAny_all (rs := [4, 11]) (by kernel_rfl) (by simp) (ord_cons ?_ (ord_cons ?_ ord_nil))
        rotate_left 2
        all_goals
          refine wpOp_of_listL rfl ?_
          ((with_reducible refine is_load ?_); refine own_ld (h := ?_)); (try simp only [Act.put]); (try simp only [List.setIfInBounds_toArray, List.set_cons_zero, List.set_cons_succ])
          refine wpList_done (qk_intro ?_)
        refine wpAny_tk (Ix.mk [5]) ?_
        (first | go_big_quiet_skip | (go_big_quiet_want; (go_big_quiet_op; (first | go_big_quiet_on | ((refine ⟨_, fun _ _ => rfl, ?_⟩); go_big_quiet_on))))); (refine wpQuiet_nil ?_); (try simp only [Act.put]); (try simp only [List.setIfInBounds_toArray, List.set_cons_zero, List.set_cons_succ])
        refine wpAny_all (rs := [6, 11]) (by kernel_rfl) (by simp) (ord_cons ?_ (ord_cons ?_ ord_nil))
        rotate_left 2
        refine wpAny_tk (Ix.mk [12]) ?_
        (first | go_big_quiet_skip | (go_big_quiet_want; (go_big_quiet_op; (first | go_big_quiet_on | ((refine ⟨_, fun _ _ => rfl, ?_⟩); go_big_quiet_on))))); (refine wpQuiet_nil ?_); (try simp only [Act.put]); (try simp only [List.setIfInBounds_toArray, List.set_cons_zero, List.set_cons_succ])
        refine wpAny_all (rs := [4]) (by kernel_rfl) (by simp) (ord_cons ?_ ord_nil)
        rotate_left 1
        all_goals
          refine wpOp_of_listL rfl ?_
          (first | ((with_reducible refine is_load ?_); refine own_ld (h := ?_)) | ((refine wpList_step (fun K hK => ?_)); go_simp; ((go_at_call 28; (with_reducible refine (cA _ (hO.isC fa za (by intro q hq; repeat (first | exact List.mem_append_left _ hq | apply List.mem_cons_of_mem)))).mono ?_); rintro e wv ⟨rfl, hb9⟩; replace hO := hO.call hb9; clear hb9); (try simp only []); (refine hK _ _ ?_); clear hK K))); (try simp only [Act.put]); (try simp only [List.setIfInBounds_toArray, List.set_cons_zero, List.set_cons_succ])
          refine wpList_done (qk_intro ?_)
        refine wpAny_all (rs := [11]) (by kernel_rfl) (by simp) (ord_cons ?_ ord_nil)
        rotate_left 1
        refine wpAny_tk (Ix.mk [12]) ?_
        (first | go_big_quiet_skip | (go_big_quiet_want; (go_big_quiet_op; (first | go_big_quiet_on | ((refine ⟨_, fun _ _ => rfl, ?_⟩); go_big_quiet_on))))); (refine wpQuiet_nil ?_); (try simp only [Act.put]); (try simp only [List.setIfInBounds_toArray, List.set_cons_zero, List.set_cons_succ])
        refine wpAny_all (rs := [6]) (by kernel_rfl) (by simp) (ord_cons ?_ ord_nil)
        rotate_left 1
        refine wpAny_tk (Ix.mk [5]) ?_
        (first | go_big_quiet_skip | (go_big_quiet_want; (go_big_quiet_op; (first | go_big_quiet_on | ((refine ⟨_, fun _ _ => rfl, ?_⟩); go_big_quiet_on))))); (refine wpQuiet_nil ?_); (try simp only [Act.put]); (try simp only [List.setIfInBounds_toArray, List.set_cons_zero, List.set_cons_succ])
        refine wpAny_all (rs := [6]) (by kernel_rfl) (by simp) (ord_cons ?_ ord_nil)
        rotate_left 1
        all_goals
          refine wpOp_of_listL rfl ?_
          (first | ((with_reducible refine is_load ?_); refine own_ld (h := ?_)) | ((refine wpList_step (fun K hK => ?_)); go_simp; ((go_at_call 28; (with_reducible refine (cA _ (hO.isC fa za (by intro q hq; repeat (first | exact List.mem_append_left _ hq | apply List.mem_cons_of_mem)))).mono ?_); rintro e wv ⟨rfl, hb9⟩; replace hO := hO.call hb9; clear hb9); (try simp only []); (refine hK _ _ ?_); clear hK K))); (try simp only [Act.put]); (try simp only [List.setIfInBounds_toArray, List.set_cons_zero, List.set_cons_succ])
          refine wpList_done (qk_intro ?_)
        refine wpAny_tk (Ix.mk [12]) ?_
        (first | go_big_quiet_skip | (go_big_quiet_want; (go_big_quiet_op; (first | go_big_quiet_on | ((refine ⟨_, fun _ _ => rfl, ?_⟩); go_big_quiet_on))))); (refine wpQuiet_nil ?_); (try simp only [Act.put]); (try simp only [List.setIfInBounds_toArray, List.set_cons_zero, List.set_cons_succ])
        refine wpAny_all (rs := [13]) (by kernel_rfl) (by simp) (ord_cons ?_ ord_nil)
        rotate_left 1
        refine wpAny_all (rs := [13]) (by kernel_rfl) (by simp) (ord_cons ?_ ord_nil)
        rotate_left 1
        refine wpAny_all (rs := [13]) (by kernel_rfl) (by simp) (ord_cons ?_ ord_nil)
        rotate_left 1
        all_goals
          refine wpOp_of_listL rfl ?_
          ((refine wpList_step (fun K hK => ?_)); go_simp; ((go_at_call 28; (with_reducible refine (cB _ (hO.isC fb zb (by intro q hq; repeat (first | exact hq | apply List.mem_append_right | apply List.mem_cons_of_mem)))).mono ?_); rintro e wv ⟨rfl, hb9⟩; replace hO := hO.call hb9; clear hb9); (try simp only []); (refine hK _ _ ?_); clear hK K))
          refine wpList_done (qk_intro ?_)
        refine wpAny_all (rs := [14]) (by kernel_rfl) (by simp) (ord_cons ?_ ord_nil)
        rotate_left 1
        refine wpAny_all (rs := [14]) (by kernel_rfl) (by simp) (ord_cons ?_ ord_nil)
        rotate_left 1
        refine wpAny_all (rs := [14]) (by kernel_rfl) (by simp) (ord_cons ?_ ord_nil)
        rotate_left 1
        all_goals
          refine wpOp_of_listL rfl ?_
          ((refine wpList_step (fun K hK => ?_)); go_simp; ((refine hK _ _ ?_); clear hK K))
          refine wpList_done (qk_intro ?_)
        refine wpAny_all (rs := [15]) (by kernel_rfl) (by simp) (ord_cons ?_ ord_nil)
        rotate_left 1
        refine wpAny_all (rs := [15]) (by kernel_rfl) (by simp) (ord_cons ?_ ord_nil)
        rotate_left 1
        refine wpAny_all (rs := [15]) (by kernel_rfl) (by simp) (ord_cons ?_ ord_nil)
        rotate_left 1
        all_goals
          refine wpOp_of_listL rfl ?_
          ((refine wpList_step (fun K hK => ?_)); go_simp; ((refine hK _ _ ?_); clear hK K))
          refine wpList_done (qk_intro ?_)
        refine wpAny_done (by kernel_rfl) ?_ _
        rotate_left
        refine wpAny_done (by kernel_rfl) ?_ _
        rotate_left
        refine wpAny_done (by kernel_rfl) ?_ _
        rotate_left
        all_goals
          cases hx : (xa && xb)
          · have HE := Lib.hid (hKn hx)
            cases xa
            · cases xb
              · clear hx hKy hKn
                go_wp2_with fail
                go_roundw
                case rel => exact ⟨i + 1, m, by omega, by go_num, by omega, hmb, HE, hO⟩
                case measure => simp [intOf]; omega
              · clear hx hKy hKn
                go_wp2_with fail
                go_roundw
                case rel => exact ⟨i + 1, m, by omega, by go_num, by omega, hmb, HE, hO⟩
                case measure => simp [intOf]; omega
            · cases xb
              · clear hx hKy hKn
                go_wp2_with fail
                go_roundw
                case rel => exact ⟨i + 1, m, by omega, by go_num, by omega, hmb, HE, hO⟩
                case measure => simp [intOf]; omega
              · cases hx
          · have HT := hKy hx
            cases xa
            · cases hx
            · cases xb
              · cases hx
              · clear hx hKy hKn
                obtain ⟨a4, c4, rfl, ha4⟩ := own_view hO List.mem_cons_self
                rcases snoc_cases m with rfl | ⟨A, q, rfl⟩
                · rw [addK_nil] at HT
                  have HE := Lib.hid HT
                  clear HT
                  have g5 : decide ((0 : Int) < (([] : List Rg).length : Nat)) = false := rfl
                  go_wp2_with fail
                  (refine own_quiet hO (by kernel_rfl) (by kernel_rfl) ?_; clear hO; (repeat (first | go_big_quiet_skip | (go_big_quiet_want; (go_big_quiet_op; (first | go_big_quiet_on | ((refine ⟨_, fun _ _ => rfl, ?_⟩); go_big_quiet_on)))))); (refine wpQuiet_nil ?_); intro wv hO)
                  go_wp2_with (first | ((with_reducible refine is_load ?_); refine own_ld (h := ?_)) | ((with_reducible refine is_build ?_); (refine' own_build1 (o := ⟨some 120, _, _, _, _, _⟩) hO (by rfl) rfl rfl ?hu ?hf ?_; (case hu => (exact und_Ranges)); (case hf => kernel_rfl); clear hO; intro n120 wv hO)) | ((with_reducible refine is_append ?_); (refine own_ap (o := ⟨some 121, _, _, _, _, _⟩) (hO := hO) (h := ?_); clear hO; intro g121 c121 wv hO)))
                  go_roundw
                  case rel =>
                    refine ⟨i + 1, [⟨x, 4294967295⟩], by omega, by go_num, by simp, ?_, HE, ?_⟩
                    · intro r hr; rw [List.mem_singleton.1 hr]; exact ⟨hE0, hE1⟩
                    · exact hO.sub (.cons _ (.refl _)) (.refl _) (fun _ h => h)
                  case measure => simp [intOf]; omega
                · have hk : (A ++ [q]).length = A.length + 1 := by simp
                  rw [hk] at ha4
                  obtain ⟨gq, rfl⟩ := ha4 (by omega)
                  obtain ⟨q1, q2⟩ := hmb q (by simp)
                  obtain ⟨-, u3⟩ := rcs_at (l := A ++ [q]) (i := A.length) (by simp)
                  rw [List.getElem_concat_length rfl] at u3
                  rw [hk] at hO hmi ⊢
                  have g5 : decide ((0 : Int) < ((A.length + 1 : Nat) : Int)) = true := by simp
                  have s6 : IntKind.i64.wrap (((A.length + 1 : Nat) : Int) - 1) = (A.length : Int) := by rw [IntWalk.i64_in _ (by omega)]; omega
                  have s7 : IntKind.u64.wrap q.hi = q.hi := by rw [IntKind.wrap_u64]; omega
                  have s8 : IntKind.u64.wrap (q.hi + 1) = q.hi + 1 := by rw [IntKind.wrap_u64]; omega
                  by_cases hj : q.hi + 1 = x
                  · have g6 : (q.hi + 1 == x) = true := by simp [hj]
                    rw [addK_join hj] at HT
                    have HE := Lib.hid HT
                    clear HT hj
                    go_wp2_with fail
                    (refine own_quiet hO (by kernel_rfl) (by kernel_rfl) ?_; clear hO; (repeat (go_big_quiet_want; (first | ((with_reducible refine is_loadQ ?_); (refine q_ld (h := ?_)); (try simp only [Act.put]); (try simp only [List.setIfInBounds_toArray, List.set_cons_zero, List.set_cons_succ]); go_big_quiet_on) | (go_big_quiet_op; (first | go_big_quiet_on | ((refine ⟨_, fun _ _ => rfl, ?_⟩); go_big_quiet_on)))))); (refine wpQuiet_nil ?_); intro wv hO)
                    go_wp2_with ((with_reducible refine is_store ?_); (refine own_stW (hO := hO) (hn := rfl) (hl := by rw [rcs_length]; simp; omega) (h := ?_); clear hO; intro wv hO))
                    rw [rcs_set] at hO
                    go_roundw
                    case rel =>
                      refine ⟨i + 1, A ++ [⟨q.lo, 4294967295⟩], by omega, by go_num, by simp; omega, ?_, HE, ?_⟩
                      · intro r hr
                        rcases List.mem_append.1 hr with hr | hr
                        · exact hmb r (List.mem_append_left _ hr)
                        · rw [List.mem_singleton.1 hr]; exact ⟨hE0, hE1⟩
                      · rw [List.length_append]
                        exact hO
                    case measure => simp [intOf]; omega
                  · have g6 : (q.hi + 1 == x) = false := by simp [hj]
                    rw [addK_apart hj] at HT
                    have HE := Lib.hid HT
                    clear HT hj
                    go_wp2_with fail
                    (refine own_quiet hO (by kernel_rfl) (by kernel_rfl) ?_; clear hO; (repeat (go_big_quiet_want; (first | ((with_reducible refine is_loadQ ?_); (refine q_ld (h := ?_)); (try simp only [Act.put]); (try simp only [List.setIfInBounds_toArray, List.set_cons_zero, List.set_cons_succ]); go_big_quiet_on) | (go_big_quiet_op; (first | go_big_quiet_on | ((refine ⟨_, fun _ _ => rfl, ?_⟩); go_big_quiet_on)))))); (refine wpQuiet_nil ?_); intro wv hO)
                    go_wp2_with (first | ((with_reducible refine is_load ?_); refine own_ld (h := ?_)) | ((with_reducible refine is_build ?_); (refine' own_build1 (o := ⟨some 120, _, _, _, _, _⟩) hO (by rfl) rfl rfl ?hu ?hf ?_; (case hu => (exact und_Ranges)); (case hf => kernel_rfl); clear hO; intro n120 wv hO)) | ((with_reducible refine is_append ?_); (refine own_ap (o := ⟨some 121, _, _, _, _, _⟩) (hO := hO) (h := ?_); clear hO; intro g121 c121 wv hO)))
                    go_roundw
                    case rel =>
                      refine ⟨i + 1, A ++ [q] ++ [⟨x, 4294967295⟩], by omega, by go_num, by simp; omega, ?_, HE, ?_⟩
                      · intro r hr
                        rcases List.mem_append.1 hr with hr | hr
                        · exact hmb r hr
                        · rw [List.mem_singleton.1 hr]; exact ⟨hE0, hE1⟩
                      · rw [rcs_append, rcs_one, List.length_append, hk]
                        exact hO.sub (.cons _ (.refl _)) (.refl _) (fun _ h => h)
                    case measure => simp [intOf]; omega
    · obtain rfl : i = S.length := by omega
      go_wp2_with fail
      go_ret
      have hE := HM.out
      rw [hE]
      exact ⟨_, rfl, ⟨own_rgs hO List.mem_cons_self, own_new hO List.mem_cons_self⟩, hO.keep.below⟩
end Go.Proofs.YtfhkmkbfgmbbaaaGreatDoor

/- interval.Intersect. -/
namespace Go.Proofs.YtfhkmkbfgmbbaaaGreatDoor
open Go.RowKit
set_option maxRecDepth 100000
theorem IsInt.of {la lb ca cb c : List Rg} (hA : IsCanOf la ca) (hB : IsCanOf lb cb) (h : IsInt ca cb c) : IsInt la lb c := ⟨h.1, fun v => by rw [h.2 v, hA.2 v, hB.2 v]⟩
theorem addI_len (out : List Rg) (A B : Rg) : (addI out A B).length ≤ out.length + 1 := by unfold addI; split <;> simp
theorem keepL {p : Int → Bool} {top : Int} {s : List Int} : ∀ k, (keepK p top s k).length ≤ k
  | 0 => by simp [keepK]
  | k + 1 => by
    have h := keepL (p := p) (top := top) (s := s) k
    have h2 : ∀ lo hi, (addK (keepK p top s k) lo hi).length ≤ k + 1 := fun lo hi => by
      rcases snoc_cases (keepK p top s k) with e | ⟨A, q, e⟩
      · rw [e, addK_nil]; simp
      · rw [e] at h
        rw [e]
        by_cases hc : q.hi + 1 = lo
        · rw [addK_join hc]; simp at h ⊢; omega
        · rw [addK_apart hc]; simp at h ⊢; omega
    rw [keepK]
    split
    · split
      · exact h2 _ _
      · omega
    · omega
theorem canU_len (l : List Rg) : (canU l).length ≤ 1 + 2 * l.length := by
  have h := ptsR_len 4294967295 l l.length (Nat.le_refl _)
  rw [List.take_length] at h
  exact Nat.le_trans (keepL _) h
theorem canonU_any {v : Value} {l : List Rg} (w : World) (hv : IsCells w v l.length (rcs l)) (hn : l.length ≤ 100000000000) (hb : BndR l) :
    Calls Tryz.prog 40 #[v] w (RetRgs w (canU l)) :=
  (canonical_any w hv hn hb).mono fun e w' ⟨c, hc, h⟩ => by
    rwa [hc.uniq (canU_is hb)] at h
theorem addI_bnd {out : List Rg} {A B : Rg} (h : BndR out) (hA : 0 ≤ A.lo ∧ A.lo ≤ 4294967295 ∧ 0 ≤ A.hi ∧ A.hi ≤ 4294967295) (hB : 0 ≤ B.lo ∧ B.lo ≤ 4294967295 ∧ 0 ≤ B.hi ∧ B.hi ≤ 4294967295) : BndR (addI out A B) := fun r hr => by
  rcases addI_in hr with hr | rfl
  · exact h r hr
  · dsimp only; omega
set_option maxHeartbeats 8000000 in
theorem inter_any {va vb : Value} {la lb : List Rg} (w : World) (hva : IsCells w va la.length (rcs la)) (hvb : IsCells w vb lb.length (rcs lb)) (na : la.length ≤ 1000000000) (nb : lb.length ≤ 1000000000) (ba : BndR la) (bb : BndR lb) :
    Calls Tryz.prog 21 #[va, vb] w (RetRgs w (canI la lb)) := by
  have hO := own_start [] w
  have h1 := fun (wq : World) (h : Keep [] w wq) => canonU_any wq (hva.below h.below) (by omega) ba
  have h2 := fun (wq : World) (h : Keep [] w wq) => canonU_any wq (hvb.below h.below) (by omega) bb
  have hcA := (canU_is ba).1
  have hcB := (canU_is bb).1
  have hbA := canU_bnd ba
  have hbB := canU_bnd bb
  have nA := canU_len la
  have nB := canU_len lb
  have HF : Hid (∀ c, IsInt (canU la) (canU lb) c → c = canI la lb) := Lib.hid fun c hc => (IsInt.of (canU_is ba) (canU_is bb) hc).uniq (canI_is fun r hr => (List.mem_append.1 hr).elim (ba r) (bb r))
  generalize canU la = A at *
  generalize canU lb = B at *
  generalize canI la lb = C at *
  go_enter Tryz.func21, Tryz.ntmps21
  go_wp2_with (first | (go_at_call 40; (with_reducible refine (h1 _ hO.keep).mono ?_); rintro e wv ⟨v1, rfl, ⟨hv9, hn9⟩, hb9⟩; have f1 := isCells_form hv9; replace hO := hO.gainC hb9 hv9 hn9; clear hb9 hv9 hn9 h1) | (go_at_call 40; (with_reducible refine (h2 _ hO.keep).mono ?_); rintro e wv ⟨v2, rfl, ⟨hv9, hn9⟩, hb9⟩; have f2 := isCells_form hv9; replace hO := hO.gainC hb9 hv9 hn9; clear hb9 hv9 hn9 h2))
  obtain ⟨a1, c1, rfl, ha1⟩ := f1.view
  obtain ⟨a2, c2, rfl, ha2⟩ := f2.view
  simp only [List.append_nil] at hO
  clear f1 f2 hva hvb ba bb
  replace hO := hO.nilRow 46 2
  go_loopw [5, 6, 7] (fun r iv jv wr => ∃ (i j : Nat) (m : List Rg), iv = .int .i64 i ∧ jv = .int .i64 j ∧ i ≤ A.length ∧ j ≤ B.length ∧ m.length ≤ i + j ∧ BndR m ∧ Hid (InvI A B i j m) ∧ Own [] w [] [⟨r, m.length, rcs m, 46, 2⟩] (roS (.slice a2 B.length c2) (rcs B) ++ roS (.slice a1 A.length c1) (rcs A)) wr) (fun _ iv jv _ => A.length + B.length - ((intOf iv).toNat + (intOf jv).toNat))
  case atStart => exact ⟨0, 0, [], rfl, rfl, by omega, by omega, by simp, fun _ h => absurd h List.not_mem_nil, Lib.hid (InvI.start A B), hO⟩
  case round =>
    clear hO
    obtain ⟨i, j, m, rfl, rfl, hi, hj, hmn, hmb, HI, hO⟩ := hrel
    have s4 : IntKind.i64.wrap ((i : Int) + 1) = (i : Int) + 1 := IntWalk.i64_in _ (by omega)
    have s5 : IntKind.i64.wrap ((j : Int) + 1) = (j : Int) + 1 := IntWalk.i64_in _ (by omega)
    by_cases hi2 : i < A.length
    · have g1 : decide ((i : Int) < (A.length : Int)) = true := decide_eq_true (by omega)
      by_cases hj2 : j < B.length
      · have g2 : decide ((j : Int) < (B.length : Int)) = true := decide_eq_true (by omega)
        obtain ⟨G1, O1, rfl⟩ := ha1 (by omega)
        obtain ⟨G2, O2, rfl⟩ := ha2 (by omega)
        simp only [roS, List.cons_append, List.nil_append] at hO
        obtain ⟨u1, u2⟩ := rcs_at hi2
        obtain ⟨u3, u4⟩ := rcs_at hj2
        have HL : Hid (A[i].hi < B[j].hi → InvI A B (i + 1) j (addI m A[i] B[j])) := Lib.hid fun h => HI.out.left hcA hcB hi2 hj2 h
        have HR : Hid (¬ A[i].hi < B[j].hi → InvI A B i (j + 1) (addI m A[i] B[j])) := Lib.hid fun h => HI.out.right hcA hcB hi2 hj2 h
        have k1 := hbA A[i] (List.getElem_mem hi2)
        have k2 := hbB B[j] (List.getElem_mem hj2)
        have hAL := addI_len m A[i] B[j]
        have hAB := addI_bnd hmb k1 k2
        clear HI
        generalize A[i] = p at *
        generalize B[j] = q at *
        have HD : Hid (addI m p q = if max p.lo q.lo ≤ min p.hi q.hi then m ++ [⟨max p.lo q.lo, min p.hi q.hi⟩] else m) := Lib.hid rfl
        generalize addI m p q = m2 at *
        go_wp2_with fail
        (refine own_quiet hO (by kernel_rfl) (by kernel_rfl) ?_; clear hO; (repeat (go_big_quiet_want; (first | ((with_reducible refine is_loadQ ?_); (refine q_ld (h := ?_)); (try simp only [Act.put]); (try simp only [List.setIfInBounds_toArray, List.set_cons_zero, List.set_cons_succ]); go_big_quiet_on) | (go_big_quiet_op; (first | go_big_quiet_on | ((refine ⟨_, fun _ _ => rfl, ?_⟩); go_big_quiet_on)))))); (refine wpQuiet_nil ?_); intro wv hO)
        generalize max p.lo q.lo = mx at *
        generalize min p.hi q.hi = mn at *
        by_cases hmm : mx ≤ mn
        · have g3 : decide (mx ≤ mn) = true := decide_eq_true hmm
          obtain rfl : m2 = m ++ [⟨mx, mn⟩] := by rw [HD.out, if_pos hmm]
          have HE := Lib.hid (rcs_append m [⟨mx, mn⟩])
          clear HD hmm
          go_upto_region 8 with (first | ((with_reducible refine is_build ?_); (refine' own_build1 (o := ⟨some 53, _, _, _, _, _⟩) hO (by rfl) rfl rfl ?hu ?hf ?_; (case hu => (exact und_Ranges)); (case hf => kernel_rfl); clear hO; intro n53 wv hO)) | ((with_reducible refine is_append ?_); (refine own_ap (o := ⟨some 54, _, _, _, _, _⟩) (hO := hO) (h := ?_); clear hO; intro g54 c54 wv hO)))
          have HO : Hid (rcs m ++ [.int .u32 mx, .int .u32 mn] = rcs (m ++ [⟨mx, mn⟩])) := Lib.hid (by rw [HE.out]; rfl)
          rw [HO.out] at hO
          clear HE HO
          by_cases hpq : p.hi < q.hi
          · have g4 : decide (p.hi < q.hi) = true := decide_eq_true hpq
            have HT := Lib.hid (HL.out (by omega))
            clear HL HR hpq
            (refine own_quiet hO (by kernel_rfl) (by kernel_rfl) ?_; clear hO; (repeat (go_big_quiet_want; (first | ((with_reducible refine is_loadQ ?_); (refine q_ld (h := ?_)); (try simp only [Act.put]); (try simp only [List.setIfInBounds_toArray, List.set_cons_zero, List.set_cons_succ]); go_big_quiet_on) | (go_big_quiet_op; (first | go_big_quiet_on | ((refine ⟨_, fun _ _ => rfl, ?_⟩); go_big_quiet_on)))))); (refine wpQuiet_nil ?_); intro wv hO)
            go_wp2_with fail
            go_roundw
            case rel => exact ⟨i + 1, j, m ++ [⟨mx, mn⟩], by go_num, rfl, by omega, by omega, by omega, hAB, HT, by rw [List.length_append]; exact hO.sub (X' := []) (List.nil_sublist _) (.refl _) (fun _ h => h)⟩
            case measure => simp [intOf]; omega
          · have g4 : decide (p.hi < q.hi) = false := decide_eq_false hpq
            have HT := Lib.hid (HR.out (by omega))
            clear HL HR hpq
            (refine own_quiet hO (by kernel_rfl) (by kernel_rfl) ?_; clear hO; (repeat (go_big_quiet_want; (first | ((with_reducible refine is_loadQ ?_); (refine q_ld (h := ?_)); (try simp only [Act.put]); (try simp only [List.setIfInBounds_toArray, List.set_cons_zero, List.set_cons_succ]); go_big_quiet_on) | (go_big_quiet_op; (first | go_big_quiet_on | ((refine ⟨_, fun _ _ => rfl, ?_⟩); go_big_quiet_on)))))); (refine wpQuiet_nil ?_); intro wv hO)
            go_wp2_with fail
            go_roundw
            case rel => exact ⟨i, j + 1, m ++ [⟨mx, mn⟩], rfl, by go_num, by omega, by omega, by omega, hAB, HT, by rw [List.length_append]; exact hO.sub (X' := []) (List.nil_sublist _) (.refl _) (fun _ h => h)⟩
            case measure => simp [intOf]; omega
        · have g3 : decide (mx ≤ mn) = false := decide_eq_false hmm
          obtain rfl : m2 = m := by rw [HD.out, if_neg hmm]
          clear HD hmm
          go_upto_region 8 with (fail)
          by_cases hpq : p.hi < q.hi
          · have g4 : decide (p.hi < q.hi) = true := decide_eq_true hpq
            have HT := Lib.hid (HL.out (by omega))
            clear HL HR hpq
            (refine own_quiet hO (by kernel_rfl) (by kernel_rfl) ?_; clear hO; (repeat (go_big_quiet_want; (first | ((with_reducible refine is_loadQ ?_); (refine q_ld (h := ?_)); (try simp only [Act.put]); (try simp only [List.setIfInBounds_toArray, List.set_cons_zero, List.set_cons_succ]); go_big_quiet_on) | (go_big_quiet_op; (first | go_big_quiet_on | ((refine ⟨_, fun _ _ => rfl, ?_⟩); go_big_quiet_on)))))); (refine wpQuiet_nil ?_); intro wv hO)
            go_wp2_with fail
            go_roundw
            case rel => exact ⟨i + 1, j, m2, by go_num, rfl, by omega, by omega, by omega, hAB, HT, hO⟩
            case measure => simp [intOf]; omega
          · have g4 : decide (p.hi < q.hi) = false := decide_eq_false hpq
            have HT := Lib.hid (HR.out (by omega))
            clear HL HR hpq
            (refine own_quiet hO (by kernel_rfl) (by kernel_rfl) ?_; clear hO; (repeat (go_big_quiet_want; (first | ((with_reducible refine is_loadQ ?_); (refine q_ld (h := ?_)); (try simp only [Act.put]); (try simp only [List.setIfInBounds_toArray, List.set_cons_zero, List.set_cons_succ]); go_big_quiet_on) | (go_big_quiet_op; (first | go_big_quiet_on | ((refine ⟨_, fun _ _ => rfl, ?_⟩); go_big_quiet_on)))))); (refine wpQuiet_nil ?_); intro wv hO)
            go_wp2_with fail
            go_roundw
            case rel => exact ⟨i, j + 1, m2, rfl, by go_num, by omega, by omega, by omega, hAB, HT, hO⟩
            case measure => simp [intOf]; omega
      · have g2 : decide ((j : Int) < (B.length : Int)) = false := decide_eq_false (by omega)
        obtain rfl : m = C := HF.out m (HI.out.done (.inr (by omega)))
        clear HI HF
        go_wp2_with fail
        go_ret
        exact ⟨_, rfl, ⟨own_rgs hO List.mem_cons_self, own_new hO List.mem_cons_self⟩, hO.keep.below⟩
    · have g1 : decide ((i : Int) < (A.length : Int)) = false := decide_eq_false (by omega)
      obtain rfl : m = C := HF.out m (HI.out.done (.inl (by omega)))
      clear HI HF
      go_wp2_with fail
      go_ret
      exact ⟨_, rfl, ⟨own_rgs hO List.mem_cons_self, own_new hO List.mem_cons_self⟩, hO.keep.below⟩
end Go.Proofs.YtfhkmkbfgmbbaaaGreatDoor
