/- Tables without a rule, findings, clean tables: what the laws say. No program in sight. -/
import Derived.Test.YtbdfblgdmappeaaGreatDoorPA
import Derived.Test.YtbdfblgdmappeaaGreatDoorOB
import Derived.Test.YtbdfblgdmappeaaGreatDoorMA
import Derived.Test.YtbdfblgdmappeaaGreatDoorMB
import Derived.Test.YtbdfblgdmappeaaGreatDoorOC
namespace Go.Proofs.YtbdfblgdmappeaaGreatDoor
open Go.RowKit
theorem woF_succ {α : Type} (r : α) (t : List α) (i : Nat) : woF (r :: t) (i + 1) = r :: woF t i := rfl
theorem woF_zero {α : Type} (r : α) (t : List α) : woF (r :: t) 0 = t := rfl
theorem decP_wo : ∀ {t : List Rul} {h : Hd} {i : Nat}, decN t h ≠ some i → decP (woF t i) h = decP t h
 | [], h, i, _ => by simp [woF, decP]
 | r :: t, h, 0, hn => by
  rw [woF_zero, decP]
  rw [decN] at hn
  by_cases hb : hasB r.1 h = true
  ·rw [if_pos hb] at hn; exact absurd rfl hn
  ·rw [if_neg hb]
 | r :: t, h, i + 1, hn => by
  rw [woF_succ, decP, decP]
  rw [decN] at hn
  by_cases hb : hasB r.1 h = true
  ·rw [if_pos hb, if_pos hb]
  ·rw [if_neg hb, if_neg hb]
   rw [if_neg hb] at hn
   exact decP_wo fun e => hn (by rw [e]; rfl)
theorem dead_wo {t : List Rul} {i : Nat} {e : List Bx} (kt : okT t) (hi : i < t.length) (he : effF t i = some e) (h0 : e.isEmpty = true) : ∀ h : Hd, h.ok → decN t h ≠ some i := fun h ho hn => by
 obtain ⟨_, h2⟩ := effF_spec kt hi he
 have := h2 h ho
 rw [List.isEmpty_iff.1 h0, decide_eq_true hn] at this
 cases this
theorem st_true {t : List Rul} {i : Nat} {e : List Bx} (kt : okT t) (hi : i < t.length) (h : stF t i = some (e, true)) : ∀ h : Hd, h.ok → decP (woF t i) h = decP t h := by
 rcases stF_cases h with ⟨e', he, h0, _⟩ | ⟨e', p, q, he, h0, hp, hq, hx⟩
 ·exact fun h ho => decP_wo (dead_wo kt hi he h0 h ho)
 ·have hpq : p = q := of_decide_eq_true (congrArg Prod.snd hx).symm
  subst hpq
  obtain ⟨_, h2⟩ := permF_spec kt hp
  obtain ⟨_, h4⟩ := permF_spec (okT_wo kt i) hq
  exact fun h ho => by rw [← h2 h ho, ← h4 h ho]
theorem meet_of {a b : Bx} {h : Hd} (ha : hasB a h = true) (hb : hasB b h = true) : meetB a b = true := by
 have := interB_has a b h
 rw [ha, hb] at this
 exact (Bool.and_eq_true _ _ ▸ this : _ ∧ _).1
def joinR (x y : Rg) : Bool := decide (x.lo ≤ y.hi + 1) && decide (y.lo ≤ x.hi + 1)
def difK (a b : Bx) : List Nat := (List.range 5).filter fun k => !decide (a.at k = b.at k)
def joinB (a b : Bx) : Bool := decide ((difK a b).length ≤ 1) && (difK a b).all fun k => joinR (a.at k) (b.at k)
theorem joinB_field {a b : Bx} (h : joinB a b = true) : ∃ k, k < 5 ∧ (∀ i, i < 5 → i ≠ k → a.at i = b.at i) ∧ (a.at k = b.at k ∨ joinR (a.at k) (b.at k) = true) := by
 unfold joinB at h
 rw [Bool.and_eq_true, decide_eq_true_iff, List.all_eq_true] at h
 obtain ⟨h1, h2⟩ := h
 have hm : ∀ i, i < 5 → i ∉ difK a b → a.at i = b.at i := fun i hi hn => by
  unfold difK at hn
  rw [List.mem_filter, List.mem_range] at hn
  cases hd : decide (a.at i = b.at i)
  ·exact absurd ⟨hi, by rw [hd]; rfl⟩ hn
  ·exact of_decide_eq_true hd
 cases hl : difK a b with
 | nil => exact ⟨0, by omega, fun i hi _ => hm i hi (by rw [hl]; simp), .inl (hm 0 (by omega) (by rw [hl]; simp))⟩
 | cons k l =>
  rw [hl] at h1
  have hl2 : l = [] := List.eq_nil_of_length_eq_zero (by simp only [List.length_cons] at h1; omega)
  subst hl2
  have hk : k ∈ difK a b := by rw [hl]; simp
  have hk5 : k < 5 := by
   unfold difK at hk
   exact List.mem_range.1 (List.mem_filter.1 hk).1
  exact ⟨k, hk5, fun i hi hn => hm i hi (by rw [hl]; simpa using hn), .inr (h2 k hk)⟩
theorem hasB_all5 {b : Bx} (hv : vld b = true) {h : Hd} : hasB b h = true ↔ ∀ k, k < 5 → (b.at k).lo ≤ h.at k ∧ h.at k ≤ (b.at k).hi := by
 unfold hasB
 rw [hv, Bool.true_and, decide_eq_true_iff]
 exact Iff.rfl
theorem vld_all5 {b : Bx} : vld b = true ↔ ∀ k, k < 5 → (b.at k).lo ≤ (b.at k).hi ∧ (b.at k).hi ≤ topOf k := by
 unfold vld
 rw [decide_eq_true_iff]
 exact Iff.rfl
theorem hull_at (a b : Bx) {k : Nat} (hk : k < 5) : (hullTo a b).at k = ⟨min (a.at k).lo (b.at k).lo, max (a.at k).hi (b.at k).hi⟩ := by
 unfold hullTo
 rw [Bx.at_of _ hk]
theorem hull_vld {a b : Bx} (ha : vld a = true) (hb : vld b = true) : vld (hullTo a b) = true := by
 rw [vld_all5] at *
 intro k hk
 rw [hull_at a b hk]
 have h1 := ha k hk
 have h2 := hb k hk
 dsimp only
 omega
theorem hull_has {a b : Bx} (ha : vld a = true) (hb : vld b = true) (hj : joinB a b = true) (h : Hd) : hasB (hullTo a b) h = (hasB a h || hasB b h) := by
 obtain ⟨k, hk, hs, hkj⟩ := joinB_field hj
 rw [Bool.eq_iff_iff, Bool.or_eq_true, hasB_all5 (hull_vld ha hb), hasB_all5 ha, hasB_all5 hb]
 rw [vld_all5] at ha hb
 have h1 := ha k hk
 have h2 := hb k hk
 have hR : (a.at k).lo ≤ (b.at k).hi + 1 ∧ (b.at k).lo ≤ (a.at k).hi + 1 := by
  rcases hkj with e | e
  ·rw [e]; omega
  ·unfold joinR at e
   simpa using e
 constructor
 ·intro H
  have H0 := H k hk
  rw [hull_at a b hk] at H0
  dsimp only at H0
  by_cases hin : (a.at k).lo ≤ h.at k ∧ h.at k ≤ (a.at k).hi
  ·refine .inl fun i hi => ?_
   by_cases hik : i = k
   ·subst hik; exact hin
   ·have := H i hi
    rw [hull_at a b hi, ← hs i hi hik] at this
    dsimp only at this
    omega
  ·refine .inr fun i hi => ?_
   by_cases hik : i = k
   ·subst hik; omega
   ·have := H i hi
    rw [hull_at a b hi, hs i hi hik] at this
    dsimp only at this
    omega
 ·rintro (H | H)
  ·intro i hi
   have := H i hi
   rw [hull_at a b hi]
   dsimp only
   omega
  ·intro i hi
   have := H i hi
   rw [hull_at a b hi]
   dsimp only
   omega
theorem decP_front {q : Rul} {h : Hd} (hq : hasB q.1 h = true) : ∀ {M C : List Rul}, (∀ r ∈ M, hasB r.1 h = true → r.2 = q.2) → decP (M ++ q :: C) h = q.2
 | [], C, _ => by rw [List.nil_append, decP, if_pos hq]
 | r :: M, C, hM => by
  rw [List.cons_append, decP]
  by_cases hr : hasB r.1 h = true
  ·rw [if_pos hr]; exact hM r (by simp) hr
  ·rw [if_neg hr]; exact decP_front hq fun s hs => hM s (by simp [hs])
theorem decP_miss {q : Rul} {h : Hd} (hq : hasB q.1 h = false) : ∀ {M C : List Rul}, decP (M ++ q :: C) h = decP (M ++ C) h
 | [], C => by rw [List.nil_append, List.nil_append, decP, if_neg (by rw [hq]; simp)]
 | r :: M, C => by
  rw [List.cons_append, List.cons_append, decP, decP, decP_miss hq]
theorem decP_append {h : Hd} : ∀ (A B C : List Rul), decP B h = decP C h → decP (A ++ B) h = decP (A ++ C) h
 | [], _, _, e => e
 | r :: A, B, C, e => by
  rw [List.cons_append, List.cons_append, decP, decP, decP_append A B C e]
theorem dec_merge {A M C : List Rul} {p q : Rul} {h : Hd} (hp : vld p.1 = true) (hq : vld q.1 = true) (e : p.2 = q.2) (hj : joinB p.1 q.1 = true) (hM : ∀ r ∈ M, r.2 = q.2 ∨ meetB r.1 q.1 = false) :
  decP (A ++ (hullTo p.1 q.1, p.2) :: (M ++ C)) h = decP (A ++ p :: (M ++ q :: C)) h := by
 refine decP_append A _ _ ?_
 rw [decP, decP]
 dsimp only
 rw [hull_has hp hq hj]
 cases ha : hasB p.1 h
 ·rw [Bool.false_or]
  cases hb : hasB q.1 h
  ·rw [if_neg (by simp), if_neg (by simp), decP_miss hb]
  ·rw [if_pos rfl, if_neg (by simp), decP_front hb fun r hr hh => ?_, e]
   rcases hM r hr with h1 | h1
   ·exact h1
   ·rw [meet_of hh hb] at h1; cases h1
 ·rw [Bool.true_or, if_pos rfl, if_pos rfl]
theorem part_two {α : Type} {t : List α} {i j : Nat} (hij : i < j) (hj : j < t.length) : ∃ A M C : List α, t = A ++ t[i] :: (M ++ t[j] :: C) ∧ A.length = i ∧ (A ++ t[i] :: M).length = j ∧ M = (t.take j).drop (i + 1) := by
  refine ⟨t.take i, (t.take j).drop (i + 1), t.drop (j + 1), ?_, by simp; omega, by simp; omega, rfl⟩
  have h1 : t = t.take j ++ t[j] :: t.drop (j + 1) := by rw [← List.drop_eq_getElem_cons hj, List.take_append_drop]
  have h2 : t.take j = t.take i ++ t[i] :: (t.take j).drop (i + 1) := by
    have hi : i < (t.take j).length := by simp; omega
    have h3 := List.take_append_drop i (t.take j)
    rw [List.drop_eq_getElem_cons hi, List.take_take, Nat.min_eq_left (by omega), List.getElem_take] at h3
    exact h3.symm
  calc t = t.take j ++ t[j] :: t.drop (j + 1) := h1
    _ = (t.take i ++ t[i] :: (t.take j).drop (i + 1)) ++ t[j] :: t.drop (j + 1) := by rw [← h2]
    _ = _ := by simp
theorem woF_at {α : Type} (A : List α) (q : α) (C : List α) : woF (A ++ q :: C) A.length = A ++ C := by
 unfold woF
 rw [List.take_left, List.drop_append]
 simp
def mergT (t : List Rul) (i j : Nat) : List Rul := match t[i]?, t[j]? with
 | some p, some q => woF (t.set i (hullTo p.1 q.1, p.2)) j
 | _, _ => t
def swapT (t : List Rul) (i : Nat) : List Rul := match t[i]?, t[i + 1]? with
 | some p, some q => (t.set i q).set (i + 1) p
 | _, _ => t
def mergB (t : List Rul) (i j : Nat) : Bool := match t[i]?, t[j]? with
 | some p, some q => p.2 == q.2 && joinB p.1 q.1 && ((t.take j).drop (i + 1)).all fun r => r.2 == q.2 || !meetB r.1 q.1
 | _, _ => false
theorem mergT_dec {t : List Rul} {i j : Nat} (kv : ∀ r ∈ t, vld r.1 = true) (hij : i < j) (hj : j < t.length) (hm : mergB t i j = true) (h : Hd) : decP (mergT t i j) h = decP t h := by
 have hi : i < t.length := by omega
 unfold mergB at hm
 unfold mergT
 rw [List.getElem?_eq_getElem hi, List.getElem?_eq_getElem hj] at hm ⊢
 dsimp only at hm ⊢
 rw [Bool.and_eq_true, Bool.and_eq_true, List.all_eq_true] at hm
 obtain ⟨⟨h1, h2⟩, h3⟩ := hm
 obtain ⟨A, M, C, ht, hA, hAM, hM⟩ := part_two hij hj
 have hp := kv _ (List.getElem_mem hi)
 have hq := kv _ (List.getElem_mem hj)
 rw [← hM] at h3
 generalize t[i] = p at *
 generalize t[j] = q at *
 have hset : t.set i (hullTo p.1 q.1, p.2) = (A ++ (hullTo p.1 q.1, p.2) :: M) ++ q :: C := by
  rw [ht, ← hA]
  simp
 have hlen : j = (A ++ (hullTo p.1 q.1, p.2) :: M).length := by rw [← hAM]; simp
 rw [hset, hlen, woF_at, List.append_assoc, List.cons_append, dec_merge hp hq (by simpa using h1) h2 fun r hr => ?_, ← ht]
 have := h3 r hr
 simpa using this
theorem swapT_dec {t : List Rul} {i : Nat} (hi : i + 1 < t.length) {h : Hd} (hs : ∀ p q, t[i]? = some p → t[i + 1]? = some q → p.2 = q.2 ∨ meetB p.1 q.1 = false) : decP (swapT t i) h = decP t h := by
 have h0 : i < t.length := by omega
 unfold swapT
 have hs2 := hs _ _ (List.getElem?_eq_getElem h0) (List.getElem?_eq_getElem hi)
 rw [List.getElem?_eq_getElem h0, List.getElem?_eq_getElem hi]
 dsimp only
 obtain ⟨A, M, C, ht, hA, hAM, hM⟩ := part_two (show i < i + 1 by omega) hi
 have hM0 : M = [] := List.eq_nil_of_length_eq_zero (by simp at hAM; omega)
 subst hM0
 generalize t[i] = p at *
 generalize t[i + 1] = q at *
 have hset : (t.set i q).set (i + 1) p = A ++ q :: p :: C := by
  rw [ht, ← hA]
  simp [List.set_append_right]
 rw [hset]
 conv => rhs; rw [ht]
 rw [List.nil_append]
 refine (decP_swap (p := p) (q := q) ?_ A C).symm
 rcases hs2 with h1 | h1
 ·exact .inl h1
 ·refine .inr fun hh => ?_
  rw [meet_of hh.1 hh.2] at h1
  cases h1
def blkOk (lo n k : Nat) : Bool := decide (lo % 2 ^ k = 0) && decide (2 ^ k ≤ n)
theorem blkOk_down {lo n k : Nat} (h : blkOk lo n (k + 1) = true) : blkOk lo n k = true := by
 unfold blkOk at *
 rw [Bool.and_eq_true, decide_eq_true_iff, decide_eq_true_iff] at *
 obtain ⟨h1, h2⟩ := h
 refine ⟨?_, ?_⟩
 ·have h3 : 2 ^ k ∣ lo := Nat.dvd_trans ⟨2, by rw [Nat.pow_succ]⟩ (Nat.dvd_of_mod_eq_zero h1)
  exact Nat.mod_eq_zero_of_dvd h3
 ·rw [Nat.pow_succ] at h2; omega
theorem blkOk_le {lo n k : Nat} (h : blkOk lo n k = true) : ∀ {j : Nat}, j ≤ k → blkOk lo n j = true := by
 induction k with
 | zero =>
  intro j hj
  obtain rfl : j = 0 := by omega
  exact h
 | succ k ih =>
  intro j hj
  by_cases e : j = k + 1
  ·rw [e]; exact h
  ·exact ih (blkOk_down h) (by omega)
theorem blkOk_zero {lo n : Nat} (h : 0 < n) : blkOk lo n 0 = true := by
 unfold blkOk
 simp [Nat.mod_one]
 omega
def dnF (lo n : Nat) : Nat → Nat
 | 0 => 0
 | k + 1 => if blkOk lo n (k + 1) = true then k + 1 else dnF lo n k
theorem dnF_stop {lo n k : Nat} (h : blkOk lo n k = true) : dnF lo n k = k := by
 cases k with
 | zero => rfl
 | succ k => rw [dnF, if_pos h]
theorem dnF_go {lo n k : Nat} (h : blkOk lo n (k + 1) = false) : dnF lo n (k + 1) = dnF lo n k := by rw [dnF, if_neg (by rw [h]; simp)]
theorem dnF_up {lo n k : Nat} (h1 : blkOk lo n k = true) (h2 : blkOk lo n (k + 1) = false) : ∀ {w : Nat}, k ≤ w → dnF lo n w = k
 | 0, hw => by
  obtain rfl : k = 0 := by omega
  rfl
 | w + 1, hw => by
  by_cases e : k = w + 1
  ·rw [← e]; exact dnF_stop h1
  ·rw [dnF_go, dnF_up h1 h2 (by omega)]
   cases h3 : blkOk lo n (w + 1)
   ·rfl
   ·rw [blkOk_le h3 (by omega)] at h2; cases h2
theorem dnF_ok {lo n : Nat} (hn : 0 < n) : ∀ w, blkOk lo n (dnF lo n w) = true
 | 0 => blkOk_zero hn
 | w + 1 => by
  rw [dnF]
  split
  ·assumption
  ·exact dnF_ok hn w
theorem dnF_le (lo n : Nat) : ∀ w, dnF lo n w ≤ w
 | 0 => Nat.le_refl _
 | w + 1 => by
  rw [dnF]
  split
  ·exact Nat.le_refl _
  ·exact Nat.le_succ_of_le (dnF_le lo n w)
def blkF (w lo n : Nat) : List (Nat × Nat) := if 0 < n then (lo, dnF lo n w) :: blkF w (lo + 2 ^ dnF lo n w) (n - 2 ^ dnF lo n w) else []
termination_by n
decreasing_by
 have : 0 < 2 ^ dnF lo n w := Nat.pow_pos (by omega)
 omega
theorem blkF_nil (w lo : Nat) : blkF w lo 0 = [] := by rw [blkF, if_neg (by omega)]
theorem blkF_cons {w lo n : Nat} (h : 0 < n) : blkF w lo n = (lo, dnF lo n w) :: blkF w (lo + 2 ^ dnF lo n w) (n - 2 ^ dnF lo n w) := by rw [blkF, if_pos h]
abbrev Stp := Int × Int × Int
def perfF (t : List Rul) (s : Stp) : List Rul := if s.1 = 1 then woF t s.2.1.toNat else if s.1 = 2 then mergT t s.2.1.toNat s.2.2.toNat else swapT t s.2.1.toNat
def soundE (t : List Rul) (s : Stp) : Int := if s.1 = 1 then match stF t s.2.1.toNat with
  | none => 3
  | some x => if x.2 = true then 0 else 18
 else if s.1 = 2 then if mergB t s.2.1.toNat s.2.2.toNat = true then 0 else 18
 else match t[s.2.1.toNat]?, t[s.2.1.toNat + 1]? with
  | some p, some q => if (p.2 == q.2 || !meetB p.1 q.1) = true then 0 else 18
  | _, _ => 18
def stepForm (s : Stp) : Bool := decide (1 ≤ s.1) && decide (s.1 ≤ 3) && (s.1 == 2 || s.2.2 == 0)
def stepIn (n : Nat) (s : Stp) : Bool := decide (0 ≤ s.2.1) && decide (s.2.1 < n) && (!(s.1 == 2) || (decide (s.2.1 < s.2.2) && decide (s.2.2 < n))) && (!(s.1 == 3) || decide (s.2.1 + 1 < n))
def apF (t : List Rul) (s : Stp) : List Rul × Int := if (validT t && stepForm s) = true then if stepIn t.length s = true then if soundE t s = 0 then (perfF t s, 0) else ([], soundE t s) else ([], 2) else ([], 1)
theorem validT_all {t : List Rul} (h : validT t = true) : (∀ r ∈ t, vld r.1 = true) ∧ t.length ≤ 4096 := by
 unfold validT at h
 rw [Bool.and_eq_true, List.all_eq_true, decide_eq_true_iff] at h
 exact h
theorem validT_of {t : List Rul} (h : ∀ r ∈ t, vld r.1 = true) (hl : t.length ≤ 4096) : validT t = true := by
 unfold validT
 rw [Bool.and_eq_true, List.all_eq_true, decide_eq_true_iff]
 exact ⟨h, hl⟩
theorem mem_set_or {α : Type} {t : List α} {i : Nat} {x y : α} (h : y ∈ t.set i x) : y ∈ t ∨ y = x := List.mem_or_eq_of_mem_set h
theorem hull_ok {a b : Bx} (ha : a.ok) (hb : b.ok) : (hullTo a b).ok := fun k hk => by
 have h1 := ha k hk
 have h2 := hb k hk
 rw [hull_at a b hk]
 dsimp only
 omega
theorem mergT_facts {t : List Rul} {i j : Nat} (hij : i < j) (hj : j < t.length) : (mergT t i j).length = t.length - 1 ∧ (okT t → okT (mergT t i j)) ∧ ((∀ r ∈ t, vld r.1 = true) → ∀ r ∈ mergT t i j, vld r.1 = true) := by
 have hi : i < t.length := by omega
 unfold mergT
 rw [List.getElem?_eq_getElem hi, List.getElem?_eq_getElem hj]
 dsimp only
 refine ⟨by rw [woF_length (by simpa using hj)]; simp, fun kt r hr => ?_, fun kv r hr => ?_⟩
 ·rcases mem_set_or (woF_mem hr) with h | rfl
  ·exact kt r h
  ·exact hull_ok (kt _ (List.getElem_mem hi)) (kt _ (List.getElem_mem hj))
 ·rcases mem_set_or (woF_mem hr) with h | rfl
  ·exact kv r h
  ·exact hull_vld (kv _ (List.getElem_mem hi)) (kv _ (List.getElem_mem hj))
theorem swapT_facts {t : List Rul} {i : Nat} (hi : i + 1 < t.length) : (swapT t i).length = t.length ∧ ∀ r ∈ swapT t i, r ∈ t := by
 have h0 : i < t.length := by omega
 unfold swapT
 rw [List.getElem?_eq_getElem h0, List.getElem?_eq_getElem hi]
 dsimp only
 refine ⟨by simp, fun r hr => ?_⟩
 rcases mem_set_or hr with h | rfl
 ·rcases mem_set_or h with h | rfl
  ·exact h
  ·exact List.getElem_mem _
 ·exact List.getElem_mem _
theorem apF_dec {t u : List Rul} {s : Stp} (kt : okT t) (h : apF t s = (u, 0)) : okT u ∧ validT u = true ∧ u.length ≤ t.length ∧ ∀ h : Hd, h.ok → decP u h = decP t h := by
 unfold apF at h
 split at h
 ·rename_i hf
  rw [Bool.and_eq_true] at hf
  obtain ⟨hv, hf⟩ := hf
  obtain ⟨kv, kl⟩ := validT_all hv
  split at h
  ·rename_i hin
   split at h
   ·rename_i hs
    obtain rfl : perfF t s = u := congrArg Prod.fst h
    obtain ⟨kd, i, j⟩ := s
    unfold stepForm at hf
    unfold stepIn at hin
    unfold soundE at hs
    unfold perfF
    simp only [Bool.and_eq_true, Bool.or_eq_true, decide_eq_true_iff, Bool.not_eq_true', beq_iff_eq, beq_eq_false_iff_ne] at hf hin
    dsimp only at hf hin hs ⊢
    obtain ⟨⟨⟨i0, i1⟩, i2⟩, i3⟩ := hin
    by_cases h1 : kd = 1
    ·rw [if_pos h1] at hs ⊢
     have hi : i.toNat < t.length := by omega
     cases hst : stF t i.toNat with
     | none => rw [hst] at hs; cases hs
     | some x =>
      obtain ⟨e, b⟩ := x
      rw [hst] at hs
      dsimp only at hs
      split at hs
      ·rename_i hb
       cases b
       ·cases hb
       ·exact ⟨okT_wo kt _, validT_of (fun r hr => kv r (woF_mem hr)) (by rw [woF_length hi]; omega), by rw [woF_length hi]; omega, st_true kt hi hst⟩
      ·cases hs
    ·rw [if_neg h1] at hs ⊢
     by_cases h2 : kd = 2
     ·rw [if_pos h2] at hs ⊢
      have hij : i.toNat < j.toNat := by omega
      have hj : j.toNat < t.length := by omega
      split at hs
      ·rename_i hm
       obtain ⟨f1, f2, f3⟩ := mergT_facts hij hj
       exact ⟨f2 kt, validT_of (f3 kv) (by omega), by omega, fun h _ => mergT_dec kv hij hj hm h⟩
      ·cases hs
     ·rw [if_neg h2] at hs ⊢
      have hi : i.toNat + 1 < t.length := by omega
      obtain ⟨f1, f2⟩ := swapT_facts hi
      refine ⟨fun r hr => kt r (f2 r hr), validT_of (fun r hr => kv r (f2 r hr)) (by omega), by omega, fun h _ => swapT_dec hi fun p q hp hq => ?_⟩
      rw [hp, hq] at hs
      dsimp only at hs
      split at hs
      ·rename_i hc
       rw [Bool.or_eq_true, beq_iff_eq, Bool.not_eq_true'] at hc
       exact hc
      ·cases hs
   ·rename_i hs
    exact absurd (congrArg Prod.snd h) hs
  ·exact absurd (congrArg Prod.snd h) (by decide : ¬ (2 : Int) = 0)
 ·exact absurd (congrArg Prod.snd h) (by decide : ¬ (1 : Int) = 0)
def rpF (t : List Rul) : List Stp → List Rul × Int
 | [] => (t, 0)
 | s :: l => if (apF t s).2 = 0 then rpF (apF t s).1 l else ([], (apF t s).2)
def drF (t : List Rul) (i : Nat) : Option (Option Nat) :=
 if _h : i < t.length then match stF t i with
  | none => none
  | some x => if x.2 = true then some (some i) else drF t (i + 1)
 else some none
termination_by t.length - i
def costB (cf : Bx → Int) (t : List Rul) (i j : Nat) : Bool := match t[i]?, t[j]? with
 | some p, some q => decide (cf (hullTo p.1 q.1) ≤ cf p.1 + cf q.1)
 | _, _ => false
def mjF (cf : Bx → Int) (t : List Rul) (i j : Nat) : Option Nat :=
 if _h : j < t.length then
  if (mergB t i j && costB cf t i j) = true then some j else mjF cf t i (j + 1)
 else none
termination_by t.length - j
def miF (cf : Bx → Int) (t : List Rul) (i : Nat) : Option (Nat × Nat) :=
 if _h : i < t.length then match mjF cf t i (i + 1) with
  | some j => some (i, j)
  | none => miF cf t (i + 1)
 else none
termination_by t.length - i
def opF (cf : Bx → Int) (t : List Rul) (l : List Stp) : Option (List Rul × List Stp) := match drF t 0 with
 | none => none
 | some (some i) => if _h : (woF t i).length < t.length then opF cf (woF t i) (l ++ [(1, (i : Int), 0)]) else none
 | some none => match miF cf t 0 with
  | none => some (t, l)
  | some ij => if _h : (mergT t ij.1 ij.2).length < t.length then opF cf (mergT t ij.1 ij.2) (l ++ [(2, (ij.1 : Int), (ij.2 : Int))]) else none
termination_by t.length
theorem drF_some {t : List Rul} {i k : Nat} (h : drF t i = some (some k)) : i ≤ k ∧ k < t.length ∧ ∃ e, stF t k = some (e, true) := by
 rw [drF] at h
 split at h
 ·rename_i hi
  split at h
  ·cases h
  ·rename_i x hx
   split at h
   ·rename_i hb
    cases h
    obtain ⟨e, b⟩ := x
    cases b
    ·cases hb
    ·exact ⟨Nat.le_refl _, hi, e, hx⟩
   ·obtain ⟨h1, h2⟩ := drF_some h
    exact ⟨by omega, h2⟩
 ·cases h
termination_by t.length - i
theorem drF_none {t : List Rul} {i : Nat} (h : drF t i = some none) : ∀ k, i ≤ k → k < t.length → ∃ e, stF t k = some (e, false) := by
 rw [drF] at h
 split at h
 ·split at h
  ·cases h
  ·rename_i x hx
   split at h
   ·cases h
   ·rename_i hb
    intro k hk hkt
    by_cases e : k = i
    ·subst e
     obtain ⟨e, b⟩ := x
     cases b
     ·exact ⟨e, hx⟩
     ·exact absurd rfl hb
    ·exact drF_none h k (by omega) hkt
 ·intro k hk hkt; omega
termination_by t.length - i
theorem mjF_some {cf : Bx → Int} {t : List Rul} {i j k : Nat} (h : mjF cf t i j = some k) : j ≤ k ∧ k < t.length ∧ mergB t i k = true ∧ ∀ p q, t[i]? = some p → t[k]? = some q → cf (hullTo p.1 q.1) ≤ cf p.1 + cf q.1 := by
 rw [mjF] at h
 split at h
 ·rename_i hj
  split at h
  ·rename_i hc
   cases h
   rw [Bool.and_eq_true] at hc
   refine ⟨Nat.le_refl _, hj, hc.1, fun p q hp hq => ?_⟩
   have h2 := hc.2
   unfold costB at h2
   rw [hp, hq] at h2
   exact of_decide_eq_true h2
  ·obtain ⟨h1, h2⟩ := mjF_some h
   exact ⟨by omega, h2⟩
 ·cases h
termination_by t.length - j
theorem miF_some {cf : Bx → Int} {t : List Rul} {i : Nat} {ij : Nat × Nat} (h : miF cf t i = some ij) : i ≤ ij.1 ∧ ij.1 < ij.2 ∧ ij.2 < t.length ∧ mergB t ij.1 ij.2 = true ∧ ∀ p q, t[ij.1]? = some p → t[ij.2]? = some q → cf (hullTo p.1 q.1) ≤ cf p.1 + cf q.1 := by
 rw [miF] at h
 split at h
 ·split at h
  ·rename_i j hj
   cases h
   obtain ⟨h1, h2, h3, h4⟩ := mjF_some hj
   exact ⟨Nat.le_refl _, by omega, h2, h3, h4⟩
  ·obtain ⟨h1, h2⟩ := miF_some h
   exact ⟨by omega, h2⟩
 ·cases h
termination_by t.length - i
def totF (cf : Bx → Int) : List Rul → Int
 | [] => 0
 | r :: t => cf r.1 + totF cf t
theorem totF_append (cf : Bx → Int) : ∀ (a b : List Rul), totF cf (a ++ b) = totF cf a + totF cf b
 | [], b => by simp [totF]
 | r :: a, b => by simp only [List.cons_append, totF, totF_append cf a b]; omega
theorem totF_wo {cf : Bx → Int} (hc : ∀ b, 0 ≤ cf b) {t : List Rul} {i : Nat} (hi : i < t.length) : totF cf (woF t i) ≤ totF cf t := by
 have h : t = t.take i ++ t[i] :: t.drop (i + 1) := by rw [← List.drop_eq_getElem_cons hi, List.take_append_drop]
 have h1 : totF cf t = totF cf (t.take i) + (cf t[i].1 + totF cf (t.drop (i + 1))) := by
  conv => lhs; rw [h]
  rw [totF_append]; rfl
 have h2 := hc t[i].1
 unfold woF
 rw [totF_append, h1]
 omega
theorem mergT_form {t : List Rul} {i j : Nat} (hij : i < j) (hj : j < t.length) : ∃ A M C p q, t = A ++ p :: (M ++ q :: C) ∧ t[i]? = some p ∧ t[j]? = some q ∧ mergT t i j = A ++ (hullTo p.1 q.1, p.2) :: (M ++ C) := by
 have hi : i < t.length := by omega
 obtain ⟨A, M, C, ht, hA, hAM, _⟩ := part_two hij hj
 refine ⟨A, M, C, t[i], t[j], ht, List.getElem?_eq_getElem hi, List.getElem?_eq_getElem hj, ?_⟩
 unfold mergT
 rw [List.getElem?_eq_getElem hi, List.getElem?_eq_getElem hj]
 dsimp only
 generalize t[i] = p at *
 generalize t[j] = q at *
 have hset : t.set i (hullTo p.1 q.1, p.2) = (A ++ (hullTo p.1 q.1, p.2) :: M) ++ q :: C := by
  rw [ht, ← hA]
  simp
 have hlen : j = (A ++ (hullTo p.1 q.1, p.2) :: M).length := by rw [← hAM]; simp
 rw [hset, hlen, woF_at]
 simp
theorem totF_merge {cf : Bx → Int} {t : List Rul} {i j : Nat} (hij : i < j) (hj : j < t.length) (hc : ∀ p q, t[i]? = some p → t[j]? = some q → cf (hullTo p.1 q.1) ≤ cf p.1 + cf q.1) : totF cf (mergT t i j) ≤ totF cf t := by
 obtain ⟨A, M, C, p, q, ht, hp, hq, hm⟩ := mergT_form hij hj
 have h1 := hc p q hp hq
 rw [hm]
 conv => rhs; rw [ht]
 simp only [totF_append, totF]
 omega
theorem apF_drop {t : List Rul} {i : Nat} {e : List Bx} (hv : validT t = true) (hi : i < t.length) (hs : stF t i = some (e, true)) : apF t (1, (i : Int), 0) = (woF t i, 0) := by
 have h1 : stepForm (1, (i : Int), 0) = true := rfl
 have h2 : stepIn t.length (1, (i : Int), 0) = true := by
  unfold stepIn
  simp
  omega
 have h3 : soundE t (1, (i : Int), 0) = 0 := by
  unfold soundE
  dsimp only
  rw [if_pos rfl, Int.toNat_natCast, hs]
  rfl
 unfold apF
 rw [hv, h1, Bool.true_and, if_pos rfl, h2, if_pos rfl, if_pos h3]
 unfold perfF
 dsimp only
 rw [if_pos rfl, Int.toNat_natCast]
theorem apF_merge {t : List Rul} {i j : Nat} (hv : validT t = true) (hij : i < j) (hj : j < t.length) (hm : mergB t i j = true) : apF t (2, (i : Int), (j : Int)) = (mergT t i j, 0) := by
 have h1 : stepForm (2, (i : Int), (j : Int)) = true := rfl
 have h2 : stepIn t.length (2, (i : Int), (j : Int)) = true := by
  unfold stepIn
  simp
  omega
 have h3 : soundE t (2, (i : Int), (j : Int)) = 0 := by
  unfold soundE
  dsimp only
  rw [if_neg (by decide), if_pos rfl, Int.toNat_natCast, Int.toNat_natCast, hm]
  rfl
 unfold apF
 rw [hv, h1, Bool.true_and, if_pos rfl, h2, if_pos rfl, if_pos h3]
 unfold perfF
 dsimp only
 rw [if_neg (by decide), if_pos rfl, Int.toNat_natCast, Int.toNat_natCast]
theorem opF_spec {cf : Bx → Int} (hc : ∀ b, 0 ≤ cf b) {t a : List Rul} {l s : List Stp} (kt : okT t) (hv : validT t = true) (h : opF cf t l = some (a, s)) :
  ∃ s', s = l ++ s' ∧ okT a ∧ validT a = true ∧ (∀ h : Hd, h.ok → decP a h = decP t h) ∧ a.length + s'.length = t.length ∧ drF a 0 = some none ∧ miF cf a 0 = none ∧ rpF t s' = (a, 0) ∧ totF cf a ≤ totF cf t := by
 rw [opF] at h
 split at h
 ·cases h
 ·rename_i i hd
  split at h
  ·rename_i hlt
   obtain ⟨_, hi, e, hs⟩ := drF_some hd
   have hap := apF_drop hv hi hs
   obtain ⟨k2, v2, _, d2⟩ := apF_dec kt hap
   obtain ⟨s', h1, h2, h3, h4, h5, h6, h7, h8, h9⟩ := opF_spec hc k2 v2 h
   have hw := woF_length hi
   refine ⟨(1, (i : Int), 0) :: s', by rw [h1]; simp, h2, h3, fun h ho => by rw [h4 h ho, d2 h ho], by simp only [List.length_cons]; omega, h6, h7, ?_, Int.le_trans h9 (totF_wo hc hi)⟩
   rw [rpF, hap, if_pos rfl, h8]
  ·cases h
 ·rename_i hd
  split at h
  ·rename_i hm
   cases h
   exact ⟨[], by simp, kt, hv, fun _ _ => rfl, by simp, hd, hm, rfl, Int.le_refl _⟩
  ·rename_i ij hm
   split at h
   ·rename_i hlt
    obtain ⟨_, hij, hj, hmb, hcost⟩ := miF_some hm
    have hap := apF_merge hv hij hj hmb
    obtain ⟨k2, v2, _, d2⟩ := apF_dec kt hap
    obtain ⟨s', h1, h2, h3, h4, h5, h6, h7, h8, h9⟩ := opF_spec hc k2 v2 h
    have hw := (mergT_facts hij hj).1
    refine ⟨(2, (ij.1 : Int), (ij.2 : Int)) :: s', by rw [h1]; simp, h2, h3, fun h ho => by rw [h4 h ho, d2 h ho], by simp only [List.length_cons]; omega, h6, h7, ?_, Int.le_trans h9 (totF_merge hij hj hcost)⟩
    rw [rpF, hap, if_pos rfl, h8]
   ·cases h
termination_by t.length
theorem opF_again {cf : Bx → Int} {a : List Rul} (h1 : drF a 0 = some none) (h2 : miF cf a 0 = none) : opF cf a [] = some (a, []) := by
 rw [opF, h1]
 dsimp only
 rw [h2]
def difKk (a b : Bx) (k : Nat) : List Nat := (List.range k).filter fun i => !decide (a.at i = b.at i)
theorem difKk_succ (a b : Bx) (k : Nat) : difKk a b (k + 1) = difKk a b k ++ if a.at k = b.at k then [] else [k] := by
 unfold difKk
 rw [List.range_succ, List.filter_append, List.filter_cons, List.filter_nil]
 by_cases h : a.at k = b.at k
 ·rw [if_pos h, decide_eq_true h]; rfl
 ·rw [if_neg h, decide_eq_false h]; rfl
def jnP (a b : Bx) : Nat → Option Nat
 | 0 => some 0
 | k + 1 => match jnP a b k with
  | none => none
  | some n => if a.at k = b.at k then some n else if (decide (min (a.at k).hi (b.at k).hi < max (a.at k).lo (b.at k).lo) && decide (1 < max (a.at k).lo (b.at k).lo - min (a.at k).hi (b.at k).hi)) = true then none else some (n + 1)
theorem apart_join {x y : Rg} (hx : x.lo ≤ x.hi) (hy : y.lo ≤ y.hi) : (decide (min x.hi y.hi < max x.lo y.lo) && decide (1 < max x.lo y.lo - min x.hi y.hi)) = !joinR x y := by
 unfold joinR
 rw [Bool.eq_iff_iff, Bool.not_eq_true', Bool.and_eq_true, decide_eq_true_iff, decide_eq_true_iff, Bool.and_eq_false_iff, decide_eq_false_iff_not, decide_eq_false_iff_not]
 omega
theorem jnP_spec {a b : Bx} (ha : vld a = true) (hb : vld b = true) : ∀ k, k ≤ 5 → jnP a b k = if (difKk a b k).all (fun i => joinR (a.at i) (b.at i)) = true then some (difKk a b k).length else none
 | 0, _ => rfl
 | k + 1, hk => by
  have h1 := vld_all5.1 ha k (by omega)
  have h2 := vld_all5.1 hb k (by omega)
  rw [jnP, jnP_spec ha hb k (by omega), difKk_succ]
  cases hA : (difKk a b k).all (fun i => joinR (a.at i) (b.at i))
  ·rw [if_neg Bool.false_ne_true]
   dsimp only
   rw [List.all_append, hA, Bool.false_and, if_neg Bool.false_ne_true]
  ·rw [if_pos rfl]
   dsimp only
   by_cases he : a.at k = b.at k
   ·rw [if_pos he, if_pos he, List.append_nil, hA, if_pos rfl]
   ·rw [if_neg he, if_neg he, apart_join h1.1 h2.1, List.all_append, hA, Bool.true_and, List.all_cons, List.all_nil, Bool.and_true]
    cases joinR (a.at k) (b.at k)
    ·rfl
    ·simp
theorem jnP_join {a b : Bx} (ha : vld a = true) (hb : vld b = true) : (match jnP a b 5 with | none => false | some n => decide (n ≤ 1)) = joinB a b := by
 rw [jnP_spec ha hb 5 (Nat.le_refl _)]
 unfold joinB
 change (match if (difK a b).all (fun i => joinR (a.at i) (b.at i)) = true then some (difK a b).length else none with | none => false | some n => decide (n ≤ 1)) = _
 cases (difK a b).all (fun i => joinR (a.at i) (b.at i))
 ·rw [Bool.and_false]; rfl
 ·rw [Bool.and_true]; rfl
theorem blkOk_iff {lo n k : Nat} : blkOk lo n k = true ↔ lo % 2 ^ k = 0 ∧ 2 ^ k ≤ n := by
 unfold blkOk
 rw [Bool.and_eq_true, decide_eq_true_iff, decide_eq_true_iff]
theorem blkF_low {w j : Nat} : ∀ {lo n : Nat}, lo % 2 ^ j = 0 → n < 2 ^ j → j ≤ w + 1 → (blkF w lo n).length ≤ j := by
 induction j with
 | zero =>
  intro lo n _ h2 _
  obtain rfl : n = 0 := by simpa using h2
  rw [blkF_nil]; exact Nat.le_refl _
 | succ j ih =>
  intro lo n h1 h2 h3
  have h4 : lo % 2 ^ j = 0 := Nat.mod_eq_zero_of_dvd (Nat.dvd_trans ⟨2, by rw [Nat.pow_succ]⟩ (Nat.dvd_of_mod_eq_zero h1))
  by_cases h : n < 2 ^ j
  ·exact Nat.le_succ_of_le (ih h4 h (by omega))
  ·have hp : 0 < 2 ^ j := Nat.pow_pos (by omega)
   have hd : dnF lo n w = j := dnF_up (blkOk_iff.2 ⟨h4, by omega⟩) (by
    cases hb : blkOk lo n (j + 1)
    ·rfl
    ·exact absurd (blkOk_iff.1 hb).2 (by omega)) (by omega)
   rw [blkF_cons (by omega), hd, List.length_cons]
   have := ih (lo := lo + 2 ^ j) (n := n - 2 ^ j) (by rw [Nat.add_mod_right]; exact h4) (by rw [Nat.pow_succ] at h2; omega) (by omega)
   omega
theorem dnF_max {lo n j : Nat} (h : blkOk lo n j = true) : ∀ w, j ≤ w → j ≤ dnF lo n w
 | 0, hw => hw
 | w + 1, hw => by
  rw [dnF]
  split
  ·exact hw
  ·rename_i hb
   by_cases e : j = w + 1
   ·subst e; exact absurd h hb
   ·exact dnF_max h w (by omega)
theorem odd_up {lo k : Nat} (h1 : lo % 2 ^ k = 0) (h2 : ¬ lo % 2 ^ (k + 1) = 0) : (lo + 2 ^ k) % 2 ^ (k + 1) = 0 := by
 obtain ⟨q, rfl⟩ := Nat.dvd_of_mod_eq_zero h1
 have hq : q % 2 = 1 := by
  rcases Nat.mod_two_eq_zero_or_one q with h | h
  ·refine absurd ?_ h2
   obtain ⟨r, rfl⟩ := Nat.dvd_of_mod_eq_zero h
   exact Nat.mod_eq_zero_of_dvd ⟨r, by rw [Nat.pow_succ, Nat.mul_assoc]⟩
  ·exact h
 refine Nat.mod_eq_zero_of_dvd ⟨(q + 1) / 2, ?_⟩
 have : q + 1 = 2 * ((q + 1) / 2) := by omega
 rw [Nat.pow_succ, Nat.mul_assoc, ← this, Nat.mul_add, Nat.mul_one]
theorem blkF_up {w : Nat} : ∀ (m : Nat) {j lo n : Nat}, w = j + m → lo % 2 ^ j = 0 → lo + n ≤ 2 ^ w → (blkF w lo n).length ≤ m + w + 1 := by
 intro m
 induction m using Nat.strongRecOn with
 | _ m ih =>
  intro j lo n hw h1 h2
  by_cases h : n < 2 ^ j
  ·have := blkF_low (w := w) h1 h (by omega)
   omega
  ·have hp : 0 < 2 ^ j := Nat.pow_pos (by omega)
   have hk := blkOk_iff.1 (dnF_ok (lo := lo) (n := n) (by omega) w)
   have hle := dnF_le lo n w
   have hjk := dnF_max (blkOk_iff.2 ⟨h1, Nat.le_of_not_lt h⟩) w (show j ≤ w by omega)
   have hmx : dnF lo n w < w → blkOk lo n (dnF lo n w + 1) = false := fun hl => by
    cases hb : blkOk lo n (dnF lo n w + 1)
    ·rfl
    ·exact absurd (dnF_max hb w (by omega)) (by omega)
   rw [blkF_cons (by omega), List.length_cons]
   generalize dnF lo n w = k at *
   obtain ⟨hk1, hk2⟩ := hk
   by_cases hkw : k = w
   ·subst hkw
    rw [show n - 2 ^ k = 0 by omega, blkF_nil, List.length_nil]
    omega
   ·by_cases hn : n < 2 ^ (k + 1)
    ·have := blkF_low (w := w) (lo := lo + 2 ^ k) (n := n - 2 ^ k) (j := k) (by rw [Nat.add_mod_right]; exact hk1) (by rw [Nat.pow_succ] at hn; omega) (by omega)
     omega
    ·have ha : ¬ lo % 2 ^ (k + 1) = 0 := fun he => by
      have := hmx (by omega)
      rw [blkOk_iff.2 ⟨he, by omega⟩] at this
      cases this
     have := ih (w - (k + 1)) (by omega) (j := k + 1) (lo := lo + 2 ^ k) (n := n - 2 ^ k) (by omega) (odd_up hk1 ha) (by omega)
     omega
def blkN (w : Nat) (r : Rg) : Nat := (blkF w r.lo.toNat (r.hi + 1 - r.lo).toNat).length
theorem blkN_le {w : Nat} {r : Rg} (h0 : 0 ≤ r.lo) (h1 : r.lo ≤ r.hi) (h2 : r.hi < 2 ^ w) : blkN w r ≤ 2 * w + 1 := by
 have hz : r.hi.toNat < 2 ^ w := by
  have h3 : ((r.hi.toNat : Nat) : Int) < ((2 ^ w : Nat) : Int) := by rw [Int.toNat_of_nonneg (by omega)]; exact_mod_cast h2
  exact_mod_cast h3
 have := blkF_up (w := w) w (j := 0) (lo := r.lo.toNat) (n := (r.hi + 1 - r.lo).toNat) (by omega) (by simp [Nat.mod_one]) (by omega)
 unfold blkN
 omega
def cosB (b : Bx) : Int := (blkN 32 b.r0 : Int) * (blkN 32 b.r1 : Int) * (blkN 8 b.r2 : Int) * (blkN 16 b.r3 : Int) * (blkN 16 b.r4 : Int)
def cosF (rg : Bool) (b : Bx) : Int := if vld b = true then if rg = true then 1 else cosB b else 0
end Go.Proofs.YtbdfblgdmappeaaGreatDoor
