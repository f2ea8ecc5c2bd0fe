/- Canonical lists of ranges. No program in sight. -/
import Derived.Shelf.SlSortCmp.WholeK
import Derived.Test.YtbdfblgdmappeaaGreatDoorMA
import Derived.Test.YtbdfblgdmappeaaGreatDoorMD
import Derived.Test.YtbdfblgdmappeaaGreatDoorNA
namespace Go.Proofs.YtbdfblgdmappeaaGreatDoor
open Go.RowKit
def memR (l : List Rg) (v : Int) : Prop := ∃ r ∈ l, r.lo ≤ v ∧ v ≤ r.hi
def canR (l : List Rg) : Prop := (∀ r ∈ l, r.lo ≤ r.hi) ∧ l.Pairwise fun r s => r.hi + 2 ≤ s.lo
theorem memR_nil (v : Int) : ¬ memR [] v := fun ⟨_, h, _⟩ => absurd h List.not_mem_nil
theorem memR_cons {r : Rg} {l : List Rg} {v : Int} : memR (r :: l) v ↔ (r.lo ≤ v ∧ v ≤ r.hi) ∨ memR l v := by
 unfold memR
 simp [List.mem_cons, or_and_right, exists_or]
theorem memR_append {l m : List Rg} {v : Int} : memR (l ++ m) v ↔ memR l v ∨ memR m v := by
 unfold memR
 simp [List.mem_append, or_and_right, exists_or]
theorem memR_one {r : Rg} {v : Int} : memR [r] v ↔ r.lo ≤ v ∧ v ≤ r.hi := by
 rw [memR_cons]; simp [memR_nil]
theorem canR_tail {r : Rg} {l : List Rg} (h : canR (r :: l)) : r.lo ≤ r.hi ∧ (∀ s ∈ l, r.hi + 2 ≤ s.lo) ∧ canR l := by
 obtain ⟨h1, h2⟩ := h
 rw [List.pairwise_cons] at h2
 exact ⟨h1 r List.mem_cons_self, h2.1, fun s hs => h1 s (List.mem_cons_of_mem _ hs), h2.2⟩
theorem canR_least {r : Rg} {l : List Rg} (h : canR (r :: l)) {v : Int} (hv : memR (r :: l) v) : r.lo ≤ v := by
 obtain ⟨h0, h1, -⟩ := canR_tail h
 rcases memR_cons.1 hv with h2 | ⟨s, hs, h2, -⟩
 ·exact h2.1
 ·have := h1 s hs; omega
theorem canR_unique : ∀ {l m : List Rg}, canR l → canR m → (∀ v, memR l v ↔ memR m v) → l = m
 | [], [], _, _, _ => rfl
 | [], s :: m, _, hm, h => absurd ((h s.lo).2 (memR_cons.2 (.inl ⟨Int.le_refl _, (canR_tail hm).1⟩))) (memR_nil _)
 | r :: l, [], hl, _, h => absurd ((h r.lo).1 (memR_cons.2 (.inl ⟨Int.le_refl _, (canR_tail hl).1⟩))) (memR_nil _)
 | r :: l, s :: m, hl, hm, h => by
  obtain ⟨r0, r1, r2⟩ := canR_tail hl
  obtain ⟨s0, s1, s2⟩ := canR_tail hm
  have e1 : s.lo ≤ r.lo := canR_least hm ((h r.lo).1 (memR_cons.2 (.inl ⟨Int.le_refl _, r0⟩)))
  have e2 : r.lo ≤ s.lo := canR_least hl ((h s.lo).2 (memR_cons.2 (.inl ⟨Int.le_refl _, s0⟩)))
  have k1 : ∀ v, r.hi < v → memR (r :: l) v → v ≥ r.hi + 2 := fun v hv hm => by
   rcases memR_cons.1 hm with h2 | ⟨t, ht, h2, -⟩
   ·omega
   ·have := r1 t ht; omega
  have k2 : ∀ v, s.hi < v → memR (s :: m) v → v ≥ s.hi + 2 := fun v hv hm => by
   rcases memR_cons.1 hm with h2 | ⟨t, ht, h2, -⟩
   ·omega
   ·have := s1 t ht; omega
  have e3 : s.hi ≤ r.hi := by
   by_cases hlt : r.hi < s.hi
   ·have := k1 (r.hi + 1) (by omega) ((h _).2 (memR_cons.2 (.inl ⟨by omega, by omega⟩)))
    omega
   ·omega
  have e4 : r.hi ≤ s.hi := by
   by_cases hlt : s.hi < r.hi
   ·have := k2 (s.hi + 1) (by omega) ((h _).1 (memR_cons.2 (.inl ⟨by omega, by omega⟩)))
    omega
   ·omega
  have e : r = s := by
   cases r; cases s
   simp only [Rg.mk.injEq]
   dsimp only at e1 e2 e3 e4
   omega
  subst e
  refine congrArg _ (canR_unique r2 s2 fun v => ⟨fun hv => ?_, fun hv => ?_⟩)
  ·obtain ⟨t, ht, h2, -⟩ := id hv
   have h3 := r1 t ht
   rcases memR_cons.1 ((h v).1 (memR_cons.2 (.inr hv))) with h4 | h4
   ·omega
   ·exact h4
  ·obtain ⟨t, ht, h2, -⟩ := id hv
   have h3 := s1 t ht
   rcases memR_cons.1 ((h v).2 (memR_cons.2 (.inr hv))) with h4 | h4
   ·omega
   ·exact h4
def stepC (out : List Rg) (r : Rg) : List Rg := match out.getLast? with
 | some q => if r.lo ≤ q.hi + 1 then out.dropLast ++ [⟨q.lo, max q.hi r.hi⟩] else out ++ [r]
 | none => [r]
theorem stepC_nil (r : Rg) : stepC [] r = [r] := rfl
theorem stepC_join {A : List Rg} {q r : Rg} (h : r.lo ≤ q.hi + 1) : stepC (A ++ [q]) r = A ++ [⟨q.lo, max q.hi r.hi⟩] := by
 unfold stepC
 rw [List.getLast?_concat]
 dsimp only
 rw [if_pos h, List.dropLast_concat]
theorem stepC_apart {A : List Rg} {q r : Rg} (h : ¬ r.lo ≤ q.hi + 1) : stepC (A ++ [q]) r = A ++ [q] ++ [r] := by
 unfold stepC
 rw [List.getLast?_concat]
 dsimp only
 rw [if_neg h]
theorem canR_snoc {A : List Rg} {q : Rg} : canR (A ++ [q]) ↔ canR A ∧ q.lo ≤ q.hi ∧ ∀ a ∈ A, a.hi + 2 ≤ q.lo := by
 unfold canR
 rw [List.pairwise_append]
 simp only [List.mem_append, List.mem_singleton, List.pairwise_cons, List.not_mem_nil, false_implies, implies_true, List.Pairwise.nil, and_true, true_and]
 constructor
 ·rintro ⟨h1, h2, h3⟩
  exact ⟨⟨fun r hr => h1 r (.inl hr), h2⟩, h1 q (.inr rfl), fun a ha => h3 a ha q rfl⟩
 ·rintro ⟨⟨h1, h2⟩, h3, h4⟩
  refine ⟨fun r hr => ?_, h2, fun a ha b hb => by subst hb; exact h4 a ha⟩
  rcases hr with hr | rfl
  ·exact h1 r hr
  ·exact h3
theorem snoc_cases (l : List Rg) : l = [] ∨ ∃ A q, l = A ++ [q] := by
 rcases List.eq_nil_or_concat l with h | ⟨A, q, h⟩
 ·exact .inl h
 ·exact .inr ⟨A, q, by rw [h, List.concat_eq_append]⟩
theorem stepC_spec {out : List Rg} {r : Rg} (hc : canR out) (hr : r.lo ≤ r.hi) (ho : ∀ q ∈ out, q.lo ≤ r.lo) :
  canR (stepC out r) ∧ (∀ v, memR (stepC out r) v ↔ memR out v ∨ (r.lo ≤ v ∧ v ≤ r.hi)) ∧ ∀ q ∈ stepC out r, q.lo ≤ r.lo := by
 rcases snoc_cases out with rfl | ⟨A, q, rfl⟩
 ·rw [stepC_nil]
  refine ⟨⟨fun s hs => by rw [List.mem_singleton.1 hs]; exact hr, List.pairwise_singleton ..⟩, fun v => ?_, fun s hs => by rw [List.mem_singleton.1 hs]; exact Int.le_refl _⟩
  rw [memR_one]
  simp [memR_nil]
 ·obtain ⟨hA, hq, hAq⟩ := canR_snoc.1 hc
  have hqr := ho q (by simp)
  by_cases h : r.lo ≤ q.hi + 1
  ·rw [stepC_join h]
   refine ⟨canR_snoc.2 ⟨hA, by dsimp only; omega, fun a ha => hAq a ha⟩, fun v => ?_, fun s hs => ?_⟩
   ·rw [memR_append, memR_append, memR_one, memR_one]
    dsimp only
    constructor
    ·rintro (h1 | h1)
     ·exact .inl (.inl h1)
     ·by_cases h2 : v ≤ q.hi
      ·exact .inl (.inr ⟨h1.1, h2⟩)
      ·exact .inr (by omega)
    ·rintro ((h1 | h1) | h1)
     ·exact .inl h1
     ·exact .inr (by omega)
     ·exact .inr (by omega)
   ·rcases List.mem_append.1 hs with hs | hs
    ·exact ho s (List.mem_append_left _ hs)
    ·rw [List.mem_singleton.1 hs]; exact hqr
  ·rw [stepC_apart h]
   refine ⟨canR_snoc.2 ⟨hc, hr, fun a ha => ?_⟩, fun v => ?_, fun s hs => ?_⟩
   ·rcases List.mem_append.1 ha with ha | ha
    ·have := hAq a ha
     omega
    ·rw [List.mem_singleton.1 ha]; omega
   ·rw [memR_append, memR_one]
   ·rcases List.mem_append.1 hs with hs | hs
    ·exact ho s hs
    ·rw [List.mem_singleton.1 hs]; exact Int.le_refl _
theorem fold_spec : ∀ {s out : List Rg}, canR out → s.Pairwise (fun a b => a.lo ≤ b.lo) → (∀ r ∈ s, r.lo ≤ r.hi) → (∀ r ∈ s, ∀ q ∈ out, q.lo ≤ r.lo) →
  canR (s.foldl stepC out) ∧ ∀ v, memR (s.foldl stepC out) v ↔ memR out v ∨ memR s v
 | [], out, hc, _, _, _ => ⟨hc, fun v => by simp [memR_nil]⟩
 | r :: s, out, hc, hs, hv, ho => by
  rw [List.pairwise_cons] at hs
  obtain ⟨h1, h2, h3⟩ := stepC_spec hc (hv r List.mem_cons_self) (ho r List.mem_cons_self)
  obtain ⟨h4, h5⟩ := fold_spec h1 hs.2 (fun t ht => hv t (List.mem_cons_of_mem _ ht)) (fun t ht q hq => Int.le_trans (h3 q hq) (hs.1 t ht))
  refine ⟨h4, fun v => ?_⟩
  rw [List.foldl_cons, h5, h2, memR_cons, or_assoc]
def IsCanOf (l c : List Rg) : Prop := canR c ∧ ∀ v, memR c v ↔ memR l v
theorem memR_perm {l m : List Rg} (h : l.Perm m) {v : Int} : memR l v ↔ memR m v := by
 unfold memR
 constructor
 ·rintro ⟨r, hr, h1⟩; exact ⟨r, h.mem_iff.1 hr, h1⟩
 ·rintro ⟨r, hr, h1⟩; exact ⟨r, h.mem_iff.2 hr, h1⟩
theorem memR_full (l : List Rg) {v : Int} : memR (l.filter fun r => decide (r.lo ≤ r.hi)) v ↔ memR l v := by
 unfold memR
 constructor
 ·rintro ⟨r, hr, h1⟩; exact ⟨r, (List.mem_filter.1 hr).1, h1⟩
 ·rintro ⟨r, hr, h1⟩; exact ⟨r, List.mem_filter.2 ⟨hr, decide_eq_true (by omega)⟩, h1⟩
theorem fold_can {l s : List Rg} (hp : s.Perm (l.filter fun r => decide (r.lo ≤ r.hi))) (hs : s.Pairwise (fun a b => a.lo ≤ b.lo)) : IsCanOf l (s.foldl stepC []) := by
 obtain ⟨h1, h2⟩ := fold_spec (out := []) ⟨fun _ h => absurd h List.not_mem_nil, List.Pairwise.nil⟩ hs (fun r hr => of_decide_eq_true (List.mem_filter.1 (hp.mem_iff.1 hr)).2) (fun _ _ _ h => absurd h List.not_mem_nil)
 refine ⟨h1, fun v => ?_⟩
 rw [h2, memR_perm hp, memR_full]
 simp [memR_nil]
theorem IsCanOf.uniq {l c d : List Rg} (h : IsCanOf l c) (k : IsCanOf l d) : c = d := canR_unique h.1 k.1 fun v => (h.2 v).trans (k.2 v).symm
def addK (out : List Rg) (lo hi : Int) : List Rg := match out.getLast? with
 | some q => if q.hi + 1 = lo then out.dropLast ++ [⟨q.lo, hi⟩] else out ++ [⟨lo, hi⟩]
 | none => [⟨lo, hi⟩]
theorem addK_nil (lo hi : Int) : addK [] lo hi = [⟨lo, hi⟩] := rfl
theorem addK_join {A : List Rg} {q : Rg} {lo hi : Int} (h : q.hi + 1 = lo) : addK (A ++ [q]) lo hi = A ++ [⟨q.lo, hi⟩] := by
 unfold addK
 rw [List.getLast?_concat]
 dsimp only
 rw [if_pos h, List.dropLast_concat]
theorem addK_apart {A : List Rg} {q : Rg} {lo hi : Int} (h : ¬ q.hi + 1 = lo) : addK (A ++ [q]) lo hi = A ++ [q] ++ [⟨lo, hi⟩] := by
 unfold addK
 rw [List.getLast?_concat]
 dsimp only
 rw [if_neg h]
def bndK (top : Int) (s : List Int) (k : Nat) : Int := (s[k]?).getD (top + 1)
def keepK (p : Int → Bool) (top : Int) (s : List Int) : Nat → List Rg
 | 0 => []
 | k + 1 => match s[k]? with
  | some a => if p a = true then addK (keepK p top s k) a (bndK top s (k + 1) - 1) else keepK p top s k
  | none => keepK p top s k
theorem keepK_yes {p : Int → Bool} {top : Int} {s : List Int} {k : Nat} (h : k < s.length) (hp : p s[k] = true) : keepK p top s (k + 1) = addK (keepK p top s k) s[k] (bndK top s (k + 1) - 1) := by
 rw [keepK, List.getElem?_eq_getElem h]
 exact if_pos hp
theorem keepK_no {p : Int → Bool} {top : Int} {s : List Int} {k : Nat} (h : k < s.length) (hp : p s[k] = false) : keepK p top s (k + 1) = keepK p top s k := by
 rw [keepK, List.getElem?_eq_getElem h]
 exact if_neg (by rw [hp]; simp)
theorem addK_spec {out : List Rg} {lo hi : Int} (hc : canR out) (hr : lo ≤ hi) (ho : ∀ q ∈ out, q.hi < lo) :
  canR (addK out lo hi) ∧ (∀ v, memR (addK out lo hi) v ↔ memR out v ∨ (lo ≤ v ∧ v ≤ hi)) ∧ ∀ q ∈ addK out lo hi, q.hi < hi + 1 := by
 rcases snoc_cases out with rfl | ⟨A, q, rfl⟩
 ·rw [addK_nil]
  refine ⟨⟨fun s hs => by rw [List.mem_singleton.1 hs]; exact hr, List.pairwise_singleton ..⟩, fun v => ?_, fun s hs => by rw [List.mem_singleton.1 hs]; dsimp only; omega⟩
  rw [memR_one]
  simp [memR_nil]
 ·obtain ⟨hA, hq, hAq⟩ := canR_snoc.1 hc
  have hqr := ho q (by simp)
  by_cases h : q.hi + 1 = lo
  ·rw [addK_join h]
   refine ⟨canR_snoc.2 ⟨hA, by dsimp only; omega, fun a ha => hAq a ha⟩, fun v => ?_, fun s hs => ?_⟩
   ·rw [memR_append, memR_append, memR_one, memR_one]
    dsimp only
    constructor
    ·rintro (h1 | h1)
     ·exact .inl (.inl h1)
     ·by_cases h2 : v ≤ q.hi
      ·exact .inl (.inr ⟨h1.1, h2⟩)
      ·exact .inr (by omega)
    ·rintro ((h1 | h1) | h1)
     ·exact .inl h1
     ·exact .inr (by omega)
     ·exact .inr (by omega)
   ·rcases List.mem_append.1 hs with hs | hs
    ·have := ho s (List.mem_append_left _ hs)
     omega
    ·rw [List.mem_singleton.1 hs]; dsimp only; omega
  ·rw [addK_apart h]
   refine ⟨canR_snoc.2 ⟨hc, hr, fun a ha => ?_⟩, fun v => ?_, fun s hs => ?_⟩
   ·dsimp only
    rcases List.mem_append.1 ha with ha | ha
    ·have := hAq a ha
     omega
    ·rw [List.mem_singleton.1 ha]; omega
   ·rw [memR_append, memR_one]
   ·rcases List.mem_append.1 hs with hs | hs
    ·have := ho s hs
     omega
    ·rw [List.mem_singleton.1 hs]; dsimp only; omega
theorem asc_next {top : Int} {s : List Int} (hs : s.Pairwise (· < ·)) {k : Nat} (hk : k < s.length) {x : Int} (hx : x ∈ s) (h : s[k] < x) : bndK top s (k + 1) ≤ x := by
 obtain ⟨j, hj, rfl⟩ := List.getElem_of_mem hx
 have hkj : k < j := by
  rcases Nat.lt_trichotomy k j with h1 | h1 | h1
  ·exact h1
  ·subst h1; omega
  ·have := List.pairwise_iff_getElem.1 hs j k hj hk h1
   omega
 have hk1 : k + 1 < s.length := by omega
 unfold bndK
 rw [List.getElem?_eq_getElem hk1, Option.getD_some]
 rcases Nat.lt_or_ge (k + 1) j with h1 | h1
 ·have := List.pairwise_iff_getElem.1 hs (k + 1) j hk1 hj h1
  omega
 ·have e : j = k + 1 := by omega
  subst e
  exact Int.le_refl _
theorem asc_bnd {top : Int} {s : List Int} (hs : s.Pairwise (· < ·)) (ht : ∀ x ∈ s, x ≤ top) {k : Nat} (hk : k < s.length) : s[k] < bndK top s (k + 1) := by
 unfold bndK
 by_cases h : k + 1 < s.length
 ·rw [List.getElem?_eq_getElem h, Option.getD_some]
  exact List.pairwise_iff_getElem.1 hs k (k + 1) hk h (by omega)
 ·rw [List.getElem?_eq_none (by omega), Option.getD_none]
  have := ht _ (List.getElem_mem hk)
  omega
theorem keepK_spec {p : Int → Bool} {top : Int} {s : List Int} {P : Int → Prop} (hs : s.Pairwise (· < ·)) (ht : ∀ x ∈ s, x ≤ top) (h0 : s[0]? = some 0)
  (hp : ∀ k (hk : k < s.length), p s[k] = true ↔ P s[k]) (hc : ∀ k (hk : k < s.length) v, s[k] ≤ v → v < bndK top s (k + 1) → (P v ↔ P s[k])) :
  ∀ k, k ≤ s.length → canR (keepK p top s k) ∧ (∀ v, memR (keepK p top s k) v ↔ 0 ≤ v ∧ v < bndK top s k ∧ P v) ∧ ∀ q ∈ keepK p top s k, q.hi < bndK top s k
 | 0, _ => by
  refine ⟨⟨fun _ h => absurd h List.not_mem_nil, List.Pairwise.nil⟩, fun v => ⟨fun h => absurd h (memR_nil v), fun ⟨h1, h2, _⟩ => ?_⟩, fun _ h => absurd h List.not_mem_nil⟩
  unfold bndK at h2
  rw [h0, Option.getD_some] at h2
  omega
 | k + 1, hk => by
  have hk' : k < s.length := by omega
  obtain ⟨h1, h2, h3⟩ := keepK_spec hs ht h0 hp hc k (by omega)
  have hb : bndK top s k = s[k] := by unfold bndK; rw [List.getElem?_eq_getElem hk', Option.getD_some]
  rw [hb] at h2 h3
  have hn := asc_bnd (top := top) hs ht hk'
  have hge : 0 ≤ s[k] := by
   by_cases e : k = 0
   ·subst e
    have := (List.getElem?_eq_some_iff.1 h0).2
    omega
   ·have h00 := List.getElem?_eq_some_iff.1 h0
    have := List.pairwise_iff_getElem.1 hs 0 k h00.1 hk' (by omega)
    have := h00.2
    omega
  cases hq : p s[k] with
  | true =>
   rw [keepK_yes hk' hq]
   obtain ⟨a1, a2, a3⟩ := addK_spec (lo := s[k]) (hi := bndK top s (k + 1) - 1) h1 (by omega) h3
   refine ⟨a1, fun v => ?_, fun q hq => by have := a3 q hq; omega⟩
   have hP := (hp k hk').1 hq
   rw [a2, h2]
   constructor
   ·rintro (⟨b1, b2, b3⟩ | ⟨b1, b2⟩)
    ·exact ⟨b1, by omega, b3⟩
    ·exact ⟨by omega, by omega, (hc k hk' v b1 (by omega)).2 hP⟩
   ·rintro ⟨b1, b2, b3⟩
    by_cases hv : v < s[k]
    ·exact .inl ⟨b1, hv, b3⟩
    ·exact .inr ⟨by omega, by omega⟩
  | false =>
   rw [keepK_no hk' hq]
   have hP : ¬ P s[k] := fun h => by rw [(hp k hk').2 h] at hq; cases hq
   refine ⟨h1, fun v => ?_, fun q hq => by have := h3 q hq; omega⟩
   rw [h2]
   constructor
   ·rintro ⟨b1, b2, b3⟩; exact ⟨b1, by omega, b3⟩
   ·rintro ⟨b1, b2, b3⟩
    by_cases hv : v < s[k]
    ·exact ⟨b1, hv, b3⟩
    ·exact absurd ((hc k hk' v (by omega) b2).1 b3) hP
theorem keepK_can {p : Int → Bool} {top : Int} {l : List Rg} (h0 : 0 ≤ top) (hb : ∀ r ∈ l, 0 ≤ r.lo ∧ r.hi ≤ top) (hp : ∀ k (hk : k < (ptsR top l).length), p (ptsR top l)[k] = true ↔ memR l (ptsR top l)[k]) :
  IsCanOf l (keepK p top (ptsR top l) (ptsR top l).length) := by
 have hs := ptsR_asc top l
 have hin : ∀ {x : Int}, x ∈ ptsR top l ↔ x = 0 ∨ x ≤ top ∧ ∃ r ∈ l, r.lo ≤ r.hi ∧ (x = r.lo ∨ x = r.hi + 1) := mem_ptsR
 have ht : ∀ x ∈ ptsR top l, x ≤ top := fun x hx => by
  rcases hin.1 hx with rfl | h
  ·exact h0
  ·exact h.1
 have hge : ∀ x ∈ ptsR top l, 0 ≤ x := fun x hx => by
  rcases hin.1 hx with rfl | ⟨_, r, hr, h1, h2⟩
  ·exact Int.le_refl _
  ·have := hb r hr; omega
 have hz : (0 : Int) ∈ ptsR top l := hin.2 (.inl rfl)
 generalize ptsR top l = s at *
 have hfirst : s[0]? = some 0 := by
  obtain ⟨j, hj, e⟩ := List.getElem_of_mem hz
  rw [List.getElem?_eq_getElem (by omega)]
  by_cases hj0 : j = 0
  ·subst hj0; rw [e]
  ·have h1 := List.pairwise_iff_getElem.1 hs 0 j (by omega) hj (by omega)
   have h2 := hge _ (List.getElem_mem (show 0 < s.length by omega))
   omega
 have hc : ∀ k (hk : k < s.length) v, s[k] ≤ v → v < bndK top s (k + 1) → (memR l v ↔ memR l s[k]) := fun k hk v h1 h2 => by
  have hvt : v ≤ top := by
   have : bndK top s (k + 1) ≤ top + 1 := by
    unfold bndK
    by_cases h : k + 1 < s.length
    ·rw [List.getElem?_eq_getElem h, Option.getD_some]
     have := ht _ (List.getElem_mem h)
     omega
    ·rw [List.getElem?_eq_none (by omega), Option.getD_none]
     exact Int.le_refl _
   omega
  constructor
  ·rintro ⟨r, hr, a1, a2⟩
   refine ⟨r, hr, ?_, by omega⟩
   by_cases h : s[k] < r.lo
   ·have := asc_next (top := top) hs hk (hin.2 (.inr ⟨by omega, r, hr, by omega, .inl rfl⟩)) h
    omega
   ·omega
  ·rintro ⟨r, hr, a1, a2⟩
   refine ⟨r, hr, by omega, ?_⟩
   by_cases h : r.hi < v
   ·have := asc_next (top := top) hs hk (hin.2 (.inr ⟨by omega, r, hr, by omega, .inr rfl⟩)) (by omega)
    omega
   ·omega
 obtain ⟨h1, h2, -⟩ := keepK_spec hs ht hfirst hp hc s.length (Nat.le_refl _)
 refine ⟨h1, fun v => ?_⟩
 rw [h2]
 have hbt : bndK top s s.length = top + 1 := by unfold bndK; rw [List.getElem?_eq_none (Nat.le_refl _), Option.getD_none]
 rw [hbt]
 constructor
 ·rintro ⟨_, _, h⟩; exact h
 ·rintro ⟨r, hr, a1, a2⟩
  have := hb r hr
  exact ⟨by omega, by omega, r, hr, a1, a2⟩
end Go.Proofs.YtbdfblgdmappeaaGreatDoor
namespace Go.Proofs.YtbdfblgdmappeaaGreatDoor
open Go.RowKit Go.Lib
open Go.Shelf
open Go.Sort hiding Below
set_option maxRecDepth 100000
instance : Inhabited Rg := ⟨⟨0, 0⟩⟩
def encR (r : Rg) : List Value := [.int .u32 r.lo, .int .u32 r.hi]
theorem flat_rcs (d : Array Rg) : flatK encR 2 d = (rcs d.toList).toArray := by
 apply Array.ext_getElem?
 intro t
 rcases Nat.lt_or_ge t (d.size * 2) with h | h
 ·have hi : t / 2 < d.toList.length := by simp; omega
  obtain ⟨u1, u2⟩ := rcs_at hi
  have hz : t < (flatK encR 2 d).size := by simpa using h
  have hg : (flatK encR 2 d)[t]? = some ((flatK encR 2 d)[t]!) := by
   rw [getElem!_pos _ t hz]; exact Array.getElem?_eq_getElem hz
  have hd : d[t / 2]! = d.toList[t / 2] := by rw [getElem!_pos d (t / 2) (by simpa using hi)]; simp
  rw [hg, get_flatK _ _ _ t h, List.getElem?_toArray, hd]
  generalize d.toList[t / 2] = r at u1 u2
  rcases Nat.mod_two_eq_zero_or_one t with m | m
  ·have e : t / 2 * 2 = t := by omega
   rw [e] at u1
   rw [u1, m]; rfl
  ·have e : t / 2 * 2 + 1 = t := by omega
   rw [e] at u2
   rw [u2, m]; rfl
 ·rw [Array.getElem?_eq_none (by simpa using h), List.getElem?_toArray, List.getElem?_eq_none (by rw [rcs_length]; simpa using h)]
theorem row_holds {w : World} {g m cap : Nat} {l : List Rg} (h : w.ownsRow 0 96 2 (.slice (some ⟨g, 0, none⟩) m cap) m (rcs l)) : HoldsK encR 2 w g 0 l.toArray ∧ g < w.heap.size ∧ l.length = m := by
 obtain ⟨hl, ⟨hn, -⟩ | ⟨g', cap', cur, hv, -, hg, hc, hm, hs, ht⟩⟩ := h
 ·cases hn
 ·cases hv
  have hlm : l.length = m := by rw [rcs_length] at hl; omega
  have hlt : g < w.heap.size := by
   rcases Nat.lt_or_ge g w.heap.size with h' | h'
   ·exact h'
   ·rw [Array.getElem?_eq_none h'] at hg; cases hg
  refine ⟨?_, hlt, hlm⟩
  unfold HoldsK
  rw [flat_rcs]
  intro j hj
  have hj' : j < (rcs l).length := by simpa using hj
  refine ⟨?_, frozen_of_row w g _ _ _ hg⟩
  rw [Nat.zero_add, cell_of_row w g j cur 96 (0, 0) hg, getElem!_pos _ j (by simpa using hj)]
  have h1 : (cur.toList.take (m * 2))[j]? = (rcs l)[j]? := by rw [ht]
  rw [List.getElem?_take_of_lt (by omega)] at h1
  rw [← Array.getElem?_toList, h1, List.getElem?_eq_getElem hj']
  simp
theorem row_sorted {w : World} {g m cap n : Nat} {xs : List Value} {d : Array Rg} {os : Array Obj} (h : w.ownsRow 0 96 2 (.slice (some ⟨g, 0, none⟩) m cap) m xs) (hd : d.size = m) :
  Keep [g] w (sortWorldK encR 2 w g 0 n d os) ∧ (sortWorldK encR 2 w g 0 n d os).ownsRow 0 96 2 (.slice (some ⟨g, 0, none⟩) m cap) m (rcs d.toList) := by
 obtain ⟨hl, ⟨hn, -⟩ | ⟨g', cap', cur, hv, -, hg, hc, hm, hs, ht⟩⟩ := h
 ·cases hn
 ·cases hv
  have hlt : g < w.heap.size := by
   rcases Nat.lt_or_ge g w.heap.size with h' | h'
   ·exact h'
   ·rw [Array.getElem?_eq_none h'] at hg; cases hg
  have hr : (rcs d.toList).length = m * 2 := by rw [rcs_length]; simp [hd]
  have hH : (sortWorldK encR 2 w g 0 n d os).heap = w.heap.modify g (onCells (putCells id 0 (rcs d.toList).toArray)) ++ os := by
   unfold sortWorldK putRowK putRow; rw [flat_rcs]; rfl
  have hk : ∀ k, k < w.heap.size → k ≠ g → (sortWorldK encR 2 w g 0 n d os).heap[k]? = w.heap[k]? := by
   intro k hk hne
   rw [hH, Array.getElem?_append_left (by simpa using hk), Array.getElem?_modify, if_neg (fun e => hne e.symm)]
  have hG : (sortWorldK encR 2 w g 0 n d os).heap[g]? = some (.cells (putCells id 0 (rcs d.toList).toArray cur) 96 (0, 0)) := by
   rw [hH, Array.getElem?_append_left (by simpa using hlt), Array.getElem?_modify, if_pos rfl, hg]; rfl
  refine ⟨⟨rfl, rfl, rfl, by rw [hH]; simp, fun k hk' hm' => hk k hk' (by simpa using hm')⟩, hr, .inr ⟨g, cap, _, rfl, Nat.zero_le _, hG, hc, hm, by simp [putCells, hs], ?_⟩⟩
  apply List.ext_getElem?
  intro j
  rcases Nat.lt_or_ge j (m * 2) with hj | hj
  ·rw [List.getElem?_take_of_lt hj, Array.getElem?_toList]
   have hjc : j < cur.size := by rw [hs]; exact Nat.lt_of_lt_of_le hj (Nat.mul_le_mul_right 2 hc)
   have hjr : j < (rcs d.toList).length := by omega
   unfold putCells
   rw [Array.getElem?_mapIdx, Array.getElem?_eq_getElem hjc, Option.map_some, if_pos ⟨Nat.zero_le _, by simpa using hjr⟩, Nat.sub_zero, List.getElem?_eq_getElem hjr, getElem!_pos _ j (by simpa using hjr)]
   simp
  ·rw [List.getElem?_eq_none (by simp; omega), List.getElem?_eq_none (by omega)]
end Go.Proofs.YtbdfblgdmappeaaGreatDoor
