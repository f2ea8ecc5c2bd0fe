/- Plain laws of differences of boxes: apart from what was taken, within what was there, apart from one another. No program in sight. -/
import Derived.Test.YtnhjcbmlplfpmaaDoorBoxLaw
namespace Go.Proofs.YtnhjcbmlplfpmaaDoor
open Go.RowKit

/-- two boxes have no header in common -/
def Apart (a b : Bx) : Prop := (interB a b).2 = false
theorem interB_2 (a b : Bx) : (interB a b).2 = (vld a && vld b && vld (interTo a b)) := by
  unfold interB; split
  · rename_i h; exact h.symm
  · rename_i h; simpa using h
theorem apart_at {a b : Bx} {k : Nat} (hk : k < 5) (h : (a.at k).hi < (b.at k).lo ∨ (b.at k).hi < (a.at k).lo) : Apart a b := by
  unfold Apart
  rw [interB_2, vld_no (b := interTo a b) hk]
  · simp
  · rw [interTo_at a b hk]
    intro h1
    have := h1.1
    dsimp only at this
    omega
theorem subB_iff {a b : Bx} (ha : vldTo a 5) : subB a b = true ↔ vldTo b 5 ∧ subTo a b 5 := by
  unfold subB; rw [vld_iff.2 ha]; simp [vld_iff]
theorem Part.side {a x p : Bx} {k : Nat} (h : Part a x k p) : (p.at k).hi < (x.at k).lo ∨ (x.at k).hi < (p.at k).lo := by
  rcases h.2 with ⟨h1, _⟩ | ⟨h1, _⟩ <;> rw [h1] <;> dsimp only <;> omega
section
variable {a b : Bx}
theorem subtr_cases (a b : Bx) : (vld a = false ∧ subtrB a b = []) ∨ (vldTo a 5 ∧ Apart a b ∧ subtrB a b = [a]) ∨ (vldTo a 5 ∧ vldTo b 5 ∧ vldTo (interTo a b) 5 ∧ subtrB a b = subL a (interTo a b) 5) := by
  unfold subtrB
  by_cases hv : vld a = false
  · exact .inl ⟨hv, by rw [if_pos hv]⟩
  · rw [if_neg hv]
    have hv' : vldTo a 5 := vld_iff.1 (by simpa using hv)
    by_cases hi : (interB a b).2 = false
    · exact .inr (.inl ⟨hv', hi, by rw [if_pos hi]⟩)
    · obtain ⟨_, h2, h3, h4⟩ := interB_yes (by simpa using hi)
      exact .inr (.inr ⟨hv', h2, h3, by rw [if_neg hi, h4]⟩)
theorem subtr_apart {p : Bx} (hp : p ∈ subtrB a b) : Apart p b := by
  rcases subtr_cases a b with ⟨_, h⟩ | ⟨_, h1, h⟩ | ⟨ha, hb, hi, h⟩ <;> rw [h] at hp
  · cases hp
  · obtain rfl := List.mem_singleton.1 hp; exact h1
  · obtain ⟨k, hk, hp⟩ := mem_subL.1 hp
    have hP := part_of (a := a) (x := interTo a b) hk hp
    refine apart_at hk ?_
    have hz := interTo_at a b hk
    rcases hP.2 with ⟨h1, h2⟩ | ⟨h1, h2⟩ <;> rw [hz] at h1 h2 <;> rw [h1] <;> dsimp only at h2 ⊢ <;> omega
theorem subtr_sub {p : Bx} (hp : p ∈ subtrB a b) : subB p a = true := by
  have hv := subtrB_vld a b p hp
  rw [subB_iff (vld_iff.1 hv)]
  rcases subtr_cases a b with ⟨_, h⟩ | ⟨ha, _, h⟩ | ⟨ha, hb, hi, h⟩ <;> rw [h] at hp
  · cases hp
  · obtain rfl := List.mem_singleton.1 hp
    exact ⟨ha, fun i _ => ⟨Int.le_refl _, Int.le_refl _⟩⟩
  · obtain ⟨k, hk, hp⟩ := mem_subL.1 hp
    have hP := part_of (a := a) (x := interTo a b) hk hp
    refine ⟨ha, fun i hi5 => ?_⟩
    rcases hP.in_a (interTo_mid hi) hk i hi5 with h1 | ⟨_, _, h1⟩
    · omega
    · rw [h1]; omega
theorem bx_set_at {b : Bx} {k : Nat} (hk : k < 5) (r : Rg) : (b.set k r).at k = r := by rw [Bx.at_set _ _ _ hk, if_pos rfl]
theorem parts_pair {a x : Bx} {k : Nat} (hk : k < 5) (hx : (x.at k).lo ≤ (x.at k).hi) : (subParts (subK a x k) x k).Pairwise fun p q => Apart q p := by
  unfold subParts
  have hat := subK_at a x hk
  rw [hat]
  by_cases h1 : (a.at k).lo < (x.at k).lo <;> by_cases h2 : (x.at k).hi < (a.at k).hi <;> simp only [h1, h2, if_true, if_false, List.nil_append, List.append_nil, List.cons_append, List.pairwise_cons, List.Pairwise.nil, List.mem_singleton, List.not_mem_nil, false_imp_iff, implies_true, and_true, forall_eq]
  refine apart_at hk (.inr ?_)
  rw [bx_set_at hk, bx_set_at hk]
  dsimp only; omega
theorem subL_pair {a x : Bx} (_ : vldTo a 5) (hx : ∀ i, i < 5 → (a.at i).lo ≤ (x.at i).lo ∧ (x.at i).lo ≤ (x.at i).hi ∧ (x.at i).hi ≤ (a.at i).hi) : ∀ {m : Nat}, m ≤ 5 → (subL a x m).Pairwise fun p q => Apart q p := by
  intro m
  induction m with
  | zero => intro _; exact List.Pairwise.nil
  | succ m ih =>
    intro hm
    rw [subL, List.pairwise_append]
    refine ⟨ih (by omega), parts_pair (by omega) (hx m (by omega)).2.1, fun p hp q hq => ?_⟩
    obtain ⟨k, hk, hp⟩ := mem_subL.1 hp
    have hP := part_of (a := a) (x := x) (show k < 5 by omega) hp
    have hQ := part_of (a := a) (x := x) (show m < 5 by omega) hq
    have e := hQ.1 k (by omega) (by omega)
    rw [if_pos hk] at e
    refine apart_at (show k < 5 by omega) ?_
    have := hP.side
    rw [e]; omega
theorem subtr_pair : (subtrB a b).Pairwise fun p q => Apart q p := by
  rcases subtr_cases a b with ⟨_, h⟩ | ⟨ha, _, h⟩ | ⟨ha, hb, hi, h⟩ <;> rw [h]
  · exact List.Pairwise.nil
  · exact List.pairwise_singleton _ _
  · exact subL_pair ha (interTo_mid hi) (Nat.le_refl 5)
theorem subtr_pair_at {i j : Nat} (hj : j < i) (hi : i < (subtrB a b).length) : (interB (subtrB a b)[i] (subtrB a b)[j]).2 = false :=
  List.pairwise_iff_getElem.1 subtr_pair j i (by omega) hi hj
theorem subL_nil {a x : Bx} {m : Nat} (hm : m ≤ 5) : subL a x m = [] ↔ ∀ k, k < m → (x.at k).lo ≤ (a.at k).lo ∧ (a.at k).hi ≤ (x.at k).hi := by
  induction m with
  | zero => simp [subL]
  | succ m ih =>
    rw [subL, List.append_eq_nil_iff, ih (by omega)]
    have hat := subK_at a x (show m < 5 by omega)
    have e : subParts (subK a x m) x m = [] ↔ (x.at m).lo ≤ (a.at m).lo ∧ (a.at m).hi ≤ (x.at m).hi := by
      unfold subParts
      rw [hat]
      by_cases h1 : (a.at m).lo < (x.at m).lo <;> by_cases h2 : (x.at m).hi < (a.at m).hi <;> simp [h1, h2] <;> omega
    rw [e]
    constructor
    · rintro ⟨h1, h2⟩ k hk
      by_cases e : k = m
      · subst e; exact h2
      · exact h1 k (by omega)
    · intro h
      exact ⟨fun k hk => h k (by omega), h m (by omega)⟩
theorem subtr_nil : subtrB a b = [] ↔ subB a b = true := by
  rcases subtr_cases a b with ⟨hv, h⟩ | ⟨ha, h1, h⟩ | ⟨ha, hb, hi, h⟩ <;> rw [h]
  · simp [subB, hv]
  · rw [subB_iff ha]
    simp only [List.cons_ne_nil, false_iff]
    rintro ⟨hb, hs⟩
    have : vldTo (interTo a b) 5 := fun i hi => by
      have h1 := ha i hi; have h2 := hb i hi; have h3 := hs i hi
      rw [interTo_at a b hi]
      dsimp only; omega
    unfold Apart at h1
    rw [interB_2, vld_iff.2 ha, vld_iff.2 hb, vld_iff.2 this] at h1
    cases h1
  · rw [subB_iff ha, subL_nil (Nat.le_refl 5)]
    have e : (∀ k, k < 5 → ((interTo a b).at k).lo ≤ (a.at k).lo ∧ (a.at k).hi ≤ ((interTo a b).at k).hi) ↔ subTo a b 5 := by
      constructor
      · intro h k hk
        have := h k hk
        rw [interTo_at a b hk] at this
        dsimp only at this; omega
      · intro h k hk
        have := h k hk
        rw [interTo_at a b hk]
        dsimp only; omega
    rw [e]
    exact ⟨fun h => ⟨hb, h⟩, fun h => h.2⟩
theorem subtr_self : subtrB a a = [] := by
  rw [subtr_nil]
  unfold subB
  cases h : vld a
  · rfl
  · simp only [Bool.not_true, Bool.false_or, Bool.true_and, decide_eq_true_eq]
    exact fun i _ => ⟨Int.le_refl _, Int.le_refl _⟩
theorem subtr_alone (hv : vld a = true) (h : (interB a b).2 = false) : subtrB a b = [a] := by
  unfold subtrB; rw [if_neg (by simp [hv]), if_pos h]
end
/-- what is known of a difference -/
structure SubFacts (a b : Bx) (l : List Bx) : Prop where
  apart : ∀ (i : Nat) (hi : i < l.length), (interB l[i] b).2 = false
  sub : ∀ (i : Nat) (hi : i < l.length), subB l[i] a = true
  pair : ∀ (i j : Nat), j < i → ∀ (hi : i < l.length) (hj : j < l.length), (interB l[i] l[j]).2 = false
  nil : l = [] ↔ subB a b = true
  alone : vld a = true → (interB a b).2 = false → l = [a]
  le : l.length ≤ 10
  vld : ∀ p ∈ l, vld p = true
theorem subFacts (a b : Bx) : SubFacts a b (subtrB a b) :=
  ⟨fun _ hi => subtr_apart (List.getElem_mem hi), fun _ hi => subtr_sub (List.getElem_mem hi), fun _ _ h hi _ => subtr_pair_at h hi, subtr_nil, subtr_alone, subtrB_le a b, subtrB_vld a b⟩
end Go.Proofs.YtnhjcbmlplfpmaaDoor
