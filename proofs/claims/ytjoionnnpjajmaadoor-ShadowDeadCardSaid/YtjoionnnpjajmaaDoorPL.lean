/- Tables without a rule, findings, clean tables: what the laws say. No program in sight. -/
import Derived.Deep.CutRange
import Derived.Deep.DeepCutAuto
import Derived.Test.YtjoionnnpjajmaaDoorPA
import Derived.Test.YtjoionnnpjajmaaDoorOB
import Derived.Test.YtjoionnnpjajmaaDoorPJ
import Derived.Test.YtjoionnnpjajmaaDoorPD
import Derived.Test.YtjoionnnpjajmaaDoorOD
import Derived.Test.YtjoionnnpjajmaaDoorMB
namespace Go.Proofs.YtjoionnnpjajmaaDoor
open Go.RowKit
theorem woF_succ {α : Type} (r : α) (t : List α) (i : Nat) : woF (r :: t) (i + 1) = r :: woF t i := rfl
theorem woF_zero {α : Type} (r : α) (t : List α) : woF (r :: t) 0 = t := rfl
theorem decP_wo : ∀ {t : List Rul} {h : Hd} {i : Nat}, decN t h ≠ some i → decP (woF t i) h = decP t h
 | [], h, i, _ => by simp [woF, decP]
 | r :: t, h, 0, hn => by
  rw [woF_zero, decP]
  rw [decN] at hn
  by_cases hb : hasB r.1 h = true
  ·rw [if_pos hb] at hn; exact absurd rfl hn
  ·rw [if_neg hb]
 | r :: t, h, i + 1, hn => by
  rw [woF_succ, decP, decP]
  rw [decN] at hn
  by_cases hb : hasB r.1 h = true
  ·rw [if_pos hb, if_pos hb]
  ·rw [if_neg hb, if_neg hb]
   rw [if_neg hb] at hn
   exact decP_wo fun e => hn (by rw [e]; rfl)
theorem dead_wo {t : List Rul} {i : Nat} {e : List Bx} (kt : okT t) (hi : i < t.length) (he : effF t i = some e) (h0 : e.isEmpty = true) : ∀ h : Hd, h.ok → decN t h ≠ some i := fun h ho hn => by
 obtain ⟨_, h2⟩ := effF_spec kt hi he
 have := h2 h ho
 rw [List.isEmpty_iff.1 h0, decide_eq_true hn] at this
 cases this
theorem st_true {t : List Rul} {i : Nat} {e : List Bx} (kt : okT t) (hi : i < t.length) (h : stF t i = some (e, true)) : ∀ h : Hd, h.ok → decP (woF t i) h = decP t h := by
 rcases stF_cases h with ⟨e', he, h0, _⟩ | ⟨e', p, q, he, h0, hp, hq, hx⟩
 ·exact fun h ho => decP_wo (dead_wo kt hi he h0 h ho)
 ·have hpq : p = q := of_decide_eq_true (congrArg Prod.snd hx).symm
  subst hpq
  obtain ⟨_, h2⟩ := permF_spec kt hp
  obtain ⟨_, h4⟩ := permF_spec (okT_wo kt i) hq
  exact fun h ho => by rw [← h2 h ho, ← h4 h ho]
theorem removes_nothing {t : List Rul} {i : Nat} {x : List Bx × Bool} {a b : List Bx} (kt : okT t) (hi : i < t.length) (h : stF t i = some x) (ha : permF t = some a) (hb : permF (woF t i) = some b) : x.2 = (canonF xorB 0 5 (valF a) (valF b)).isEmpty := by
 rcases stF_cases h with ⟨e', he, h0, rfl⟩ | ⟨e', p, q, he, h0, hp, hq, rfl⟩
 ·exact (differ_same kt (okT_wo kt i) ha hb fun h ho => (decP_wo (dead_wo kt hi he h0 h ho)).symm).symm
 ·rw [ha] at hp; cases hp
  rw [hb] at hq; cases hq
  dsimp only
  rw [Bool.eq_iff_iff, decide_eq_true_iff]
  constructor
  ·rintro rfl
   obtain ⟨h1, h2⟩ := permF_spec kt ha
   obtain ⟨_, h4⟩ := permF_spec (okT_wo kt i) hb
   exact differ_same kt (okT_wo kt i) ha hb fun h ho => by rw [← h2 h ho, ← h4 h ho]
  ·intro h0
   exact perm_ext kt (okT_wo kt i) ha hb (differ_none kt (okT_wo kt i) ha hb h0)
theorem clF_dec {t : List Rul} {ix rm : List Int} {i : Nat} {c : List Rul} {r : List Int} (kt : okT t) (e : clF t ix rm i = some (c, r)) : (∀ q ∈ c, q ∈ t) ∧ ∀ h : Hd, h.ok → decP c h = decP t h := by
 by_cases hi : i < t.length
 ·cases hs : stF t i with
  | none => rw [clF_none hi hs] at e; cases e
  | some x =>
   obtain ⟨s, b⟩ := x
   cases b
   ·rw [clF_go hi hs] at e
    exact clF_dec kt e
   ·rw [clF_rm hi hs] at e
    obtain ⟨h1, h2⟩ := clF_dec (okT_wo kt i) e
    exact ⟨fun q hq => woF_mem (h1 q hq), fun h ho => by rw [h2 h ho, st_true kt hi hs h ho]⟩
 ·rw [clF_end hi] at e
  cases e
  exact ⟨fun q hq => hq, fun _ _ => rfl⟩
termination_by (t.length, t.length - i)
decreasing_by
 ·exact Prod.Lex.right _ (by omega)
 ·rw [woF_length hi]; exact Prod.Lex.left _ _ (by omega)
theorem clF_stays {t : List Rul} {ix rm : List Int} {i : Nat} {c : List Rul} {r : List Int} (e : clF t ix rm i = some (c, r)) (hk : ∀ k, k < i → k < t.length → ∃ s, stF t k = some (s, false)) : ∀ k, k < c.length → ∃ s, stF c k = some (s, false) := by
 by_cases hi : i < t.length
 ·cases hs : stF t i with
  | none => rw [clF_none hi hs] at e; cases e
  | some x =>
   obtain ⟨s, b⟩ := x
   cases b
   ·rw [clF_go hi hs] at e
    refine clF_stays e fun k h1 h2 => ?_
    by_cases hki : k = i
    ·subst hki; exact ⟨s, hs⟩
    ·exact hk k (by omega) h2
   ·rw [clF_rm hi hs] at e
    exact clF_stays e fun k h1 _ => absurd h1 (by omega)
 ·rw [clF_end hi] at e
  cases e
  exact fun k h => hk k (by omega) h
termination_by (t.length, t.length - i)
decreasing_by
 ·exact Prod.Lex.right _ (by omega)
 ·rw [woF_length hi]; exact Prod.Lex.left _ _ (by omega)
theorem woF_filter {l : List Nat} (hn : l.Nodup) : ∀ {i : Nat} (hi : i < l.length), woF l i = l.filter fun y => !(y == l[i]) := by
 induction l with
 | nil => intro i hi; simp at hi
 | cons x l ih =>
  intro i hi
  obtain ⟨hx, hn⟩ := List.nodup_cons.1 hn
  cases i with
  | zero =>
   rw [woF_zero, List.getElem_cons_zero, List.filter_cons_of_neg (by simp)]
   exact (List.filter_eq_self.2 fun y hy => by
    have : y ≠ x := fun e => hx (e ▸ hy)
    simpa using this).symm
  | succ i =>
   have hi' : i < l.length := by simpa using hi
   rw [woF_succ, List.getElem_cons_succ, List.filter_cons_of_pos (by
    have : x ≠ l[i] := fun e => hx (e ▸ List.getElem_mem hi')
    simpa using this), ih hn hi']
def natI (l : List Nat) : List Int := l.map fun k : Nat => (k : Int)
def leftN (n : Nat) (g : List Nat) : List Nat := (List.range n).filter fun k => !g.contains k
theorem clF_sub {x t : List Rul} {g : List Nat} {i : Nat} {c : List Rul} {r : List Int} (ht : t.map some = (leftN x.length g).map (x[·]?)) (hg : g.Nodup) (hb : ∀ k ∈ g, k < x.length) (e : clF t (natI (leftN x.length g)) (natI g) i = some (c, r)) :
  ∃ g' : List Nat, r = natI g' ∧ g'.Nodup ∧ (∀ k ∈ g', k < x.length) ∧ c.map some = (leftN x.length g').map (x[·]?) := by
 by_cases hi : i < t.length
 ·cases hs : stF t i with
  | none => rw [clF_none hi hs] at e; cases e
  | some y =>
   obtain ⟨s, b⟩ := y
   cases b
   ·rw [clF_go hi hs] at e
    exact clF_sub ht hg hb e
   ·rw [clF_rm hi hs] at e
    have hl : (leftN x.length g).length = t.length := by simpa using (congrArg List.length ht).symm
    have hi' : i < (leftN x.length g).length := by omega
    have hm : (leftN x.length g)[i] ∈ leftN x.length g := List.getElem_mem hi'
    have hnd : (leftN x.length g).Nodup := List.Pairwise.filter _ List.nodup_range
    have hm2 := List.mem_filter.1 hm
    have h1 : (natI (leftN x.length g)).getD i 0 = (((leftN x.length g)[i] : Nat) : Int) := by
     simp [natI, List.getD, List.getElem?_eq_getElem hi']
    have h2 : woF (leftN x.length g) i = leftN x.length (g ++ [(leftN x.length g)[i]]) := by
     rw [woF_filter hnd hi']
     generalize (leftN x.length g)[i] = j
     unfold leftN
     rw [List.filter_filter]
     refine List.filter_congr fun k _ => ?_
     rw [List.contains_eq_mem, List.contains_eq_mem]
     by_cases h3 : k = j
     ·subst h3; simp
     ·simp [h3]
    have h3 : natI g ++ [(((leftN x.length g)[i] : Nat) : Int)] = natI (g ++ [(leftN x.length g)[i]]) := by simp [natI]
    have h4 : woF (natI (leftN x.length g)) i = natI (woF (leftN x.length g) i) := by unfold natI; rw [woF_map]
    rw [h1, h3, h4, h2] at e
    refine clF_sub (by rw [woF_map, ht, ← woF_map, h2]) ?_ ?_ e
    ·rw [List.nodup_append]
     refine ⟨hg, by simp, ?_⟩
     intro a ha b hb2 hab
     rw [List.mem_singleton.1 hb2] at hab
     rw [hab] at ha
     have := hm2.2
     rw [List.contains_eq_mem, decide_eq_true ha] at this
     cases this
    ·intro k hk
     rcases List.mem_append.1 hk with hk | hk
     ·exact hb k hk
     ·rw [List.mem_singleton.1 hk]; exact List.mem_range.1 hm2.1
 ·rw [clF_end hi] at e
  cases e
  exact ⟨g, rfl, hg, hb, ht⟩
termination_by (t.length, t.length - i)
decreasing_by
 ·exact Prod.Lex.right _ (by omega)
 ·rw [woF_length hi]; exact Prod.Lex.left _ _ (by omega)
def dqF (t : List Rul) : Nat → Nat
 | 0 => 0
 | n + 1 => dqF t n + match effF t n with
  | some e => if e.isEmpty then 1 else 0
  | none => 0
def deadL (l : List Fnd) : Nat := (l.filter fun f => f.2.1 == 1).length
theorem deadL_append (l m : List Fnd) : deadL (l ++ m) = deadL l + deadL m := by simp [deadL]
theorem deadL_exc (i : Nat) (o : Option Nat) : deadL (excL i o) = 0 := by cases o <;> rfl
theorem anS_cases {t : List Rul} {i : Nat} {m : List Fnd} (h : anS t i = some m) : ∃ hi : i < t.length, ∃ e, effF t i = some e ∧ ((e.isEmpty = true ∧ m = [((i : Int), 1, befT t[i].1 t i)]) ∨ (e.isEmpty = false ∧ ((∃ hs o, m = ((i : Int), 2, hs) :: excL i o) ∨ ∃ o, m = excL i o))) := by
 unfold anS at h
 split at h
 ·cases h
 ·rename_i r hr
  obtain ⟨hi, rfl⟩ := List.getElem?_eq_some_iff.1 hr
  split at h
  ·cases h
  ·rename_i e rm hs
   refine ⟨hi, ?_⟩
   rcases stF_cases hs with ⟨e', he, h0, hx⟩ | ⟨e', p, q, he, h0, hp, hq, hx⟩
   ·cases hx
    rw [if_pos rfl] at h
    cases h
    exact ⟨e', he, .inl ⟨h0, rfl⟩⟩
   ·obtain rfl : e = e' := congrArg Prod.fst hx
    rw [if_neg (by rw [h0]; simp)] at h
    refine ⟨e, he, .inr ⟨h0, ?_⟩⟩
    split at h
    ·split at h
     ·cases h
     ·rename_i hs9 _
      cases h
      exact .inl ⟨hs9, _, rfl⟩
    ·cases h
     exact .inr ⟨_, rfl⟩
theorem anF_dead {t : List Rul} : ∀ {n : Nat} {l : List Fnd}, anF t n = some l → deadL l = dqF t n
 | 0, l, h => by cases h; rfl
 | n + 1, l, h => by
  rw [anF] at h
  split at h
  ·cases h
  ·rename_i l' hl
   split at h
   ·cases h
   ·rename_i m hm
    cases h
    rw [deadL_append, anF_dead hl, dqF]
    obtain ⟨hi, e, he, ⟨h0, rfl⟩ | ⟨h0, ⟨hs, o, rfl⟩ | ⟨o, rfl⟩⟩⟩ := anS_cases hm
    ·rw [he]; dsimp only; rw [if_pos h0]; rfl
    ·rw [he]; dsimp only; rw [if_neg (by rw [h0]; simp)]
     rw [show ((n : Int), 2, hs) :: excL n o = [((n : Int), 2, hs)] ++ excL n o from rfl, deadL_append, deadL_exc]; rfl
    ·rw [he]; dsimp only; rw [if_neg (by rw [h0]; simp), deadL_exc]
theorem anF_mem {t : List Rul} : ∀ {n : Nat} {l : List Fnd}, anF t n = some l → ∀ f ∈ l, ∃ i : Nat, ∃ hi : i < t.length, f.1 = i ∧ (f.2.1 = 1 → f.2.2 = befT t[i].1 t i ∧ ∃ e, effF t i = some e ∧ e.isEmpty = true)
 | 0, l, h, f, hf => by cases h; cases hf
 | n + 1, l, h, f, hf => by
  rw [anF] at h
  split at h
  ·cases h
  ·rename_i l' hl
   split at h
   ·cases h
   ·rename_i m hm
    cases h
    rcases List.mem_append.1 hf with hf | hf
    ·exact anF_mem hl f hf
    ·obtain ⟨hi, e, he, hc⟩ := anS_cases hm
     have hexc : ∀ o, f ∈ excL n o → f.1 = n ∧ f.2.1 ≠ 1 := fun o hx => by
      cases o with
      | none => cases hx
      | some k => rw [List.mem_singleton.1 hx]; exact ⟨rfl, (by decide : (3 : Int) ≠ 1)⟩
     rcases hc with ⟨h0, rfl⟩ | ⟨h0, ⟨hs, o, rfl⟩ | ⟨o, rfl⟩⟩
     ·rw [List.mem_singleton.1 hf]
      exact ⟨n, hi, rfl, fun _ => ⟨rfl, e, he, h0⟩⟩
     ·rcases List.mem_cons.1 hf with rfl | hf
      ·exact ⟨n, hi, rfl, fun h => absurd h (by decide : ¬ (2 : Int) = 1)⟩
      ·exact ⟨n, hi, (hexc o hf).1, fun h => absurd h (hexc o hf).2⟩
     ·exact ⟨n, hi, (hexc o hf).1, fun h => absurd h (hexc o hf).2⟩
theorem prune_dead {t : List Rul} : ∀ {m k : Nat} {y : List Rul}, k + m = t.length → pruneG (t.take k) (t.drop k) = some y → y.length + dqF t t.length = m + dqF t k
 | 0, k, y, hk, h => by
  obtain rfl : k = t.length := by omega
  rw [List.drop_length] at h
  cases h
  simp
 | m + 1, k, y, hk, h => by
  rw [prune_step (by omega)] at h
  split at h
  ·cases h
  ·rename_i s hs
   split at h
   ·cases h
   ·rename_i y' hy
    cases h
    have ih := prune_dead (m := m) (k := k + 1) (by omega) hy
    rw [dqF, hs] at ih
    dsimp only at ih
    cases h0 : s.isEmpty
    ·rw [h0] at ih
     rw [if_neg (by simp)]
     rw [if_neg (by simp)] at ih
     simp only [List.length_cons]
     omega
    ·rw [h0] at ih
     rw [if_pos rfl]
     rw [if_pos rfl] at ih
     omega
theorem befT_mem {t : List Rul} {b : Bx} : ∀ {n : Nat}, n ≤ t.length → ∀ {z : Int}, z ∈ befT b t n ↔ ∃ k : Nat, ∃ hk : k < t.length, z = k ∧ k < n ∧ meetB t[k].1 b = true
 | 0, _, z => by simp [befT]
 | n + 1, hn, z => by
  have ih := befT_mem (t := t) (b := b) (n := n) (by omega) (z := z)
  have hn' : n < t.length := by omega
  rw [befT, List.getElem?_eq_getElem hn']
  dsimp only
  split
  ·rename_i hm
   rw [List.mem_append, ih, List.mem_singleton]
   constructor
   ·rintro (⟨k, hk, h1, h2, h3⟩ | rfl)
    ·exact ⟨k, hk, h1, by omega, h3⟩
    ·exact ⟨n, hn', rfl, by omega, hm⟩
   ·rintro ⟨k, hk, h1, h2, h3⟩
    by_cases hkn : k = n
    ·subst hkn; exact .inr h1
    ·exact .inl ⟨k, hk, h1, by omega, h3⟩
  ·rename_i hm
   rw [ih]
   constructor
   ·rintro ⟨k, hk, h1, h2, h3⟩; exact ⟨k, hk, h1, by omega, h3⟩
   ·rintro ⟨k, hk, h1, h2, h3⟩
    by_cases hkn : k = n
    ·subst hkn; exact absurd h3 hm
    ·exact ⟨k, hk, h1, by omega, h3⟩
theorem meet_of {a b : Bx} {h : Hd} (ha : hasB a h = true) (hb : hasB b h = true) : meetB a b = true := by
 have := interB_has a b h
 rw [ha, hb] at this
 exact (Bool.and_eq_true _ _ ▸ this : _ ∧ _).1
theorem dead_cover {t : List Rul} {i : Nat} {e : List Bx} {bs : List Bx} (kt : okT t) (hi : i < t.length) (he : effF t i = some e) (h0 : e.isEmpty = true) (kv : vL [t[i].1]) (kb : vL bs) (hbs : ∀ k, ∀ hk : k < t.length, (k : Int) ∈ befT t[i].1 t i → t[k].1 ∈ bs) :
  (canonF exB 0 5 (valF [t[i].1]) (valF bs)).isEmpty = true := by
 rw [valF_id kv, valF_id kb, sub_iff kv kb]
 intro p hp h1
 rw [← any_q kv, any_one] at h1
 rw [← any_q kb]
 have ho := of_okP hp
 have hn := dead_wo kt hi he h0 (Hd.of p) ho
 have hd := decN_take (t := t) (h := Hd.of p) hi
 rw [h1, decide_eq_false hn, Bool.true_and, decN_hit] at hd
 have hh : hitT (t.take i) (Hd.of p) = true := by simpa using hd
 unfold hitT at hh
 obtain ⟨r, hr, h2⟩ := List.any_eq_true.1 hh
 obtain ⟨k, hk, rfl⟩ := List.mem_iff_getElem.1 hr
 rw [List.getElem_take] at h2
 have hki : k < i := by simp at hk; omega
 have hkt : k < t.length := by omega
 refine List.any_eq_true.2 ⟨t[k].1, hbs k hkt ((befT_mem (by omega)).2 ⟨k, hkt, rfl, hki, meet_of h2 h1⟩), h2⟩
set_option maxRecDepth 100000
theorem good_validT {t : List Rul} (h : ∀ r ∈ t, Good r.1) (hl : t.length ≤ 4096) : validT t = true := by
 unfold validT
 rw [Bool.and_eq_true, List.all_eq_true, decide_eq_true_iff]
 exact ⟨fun r hr => by unfold vld; rw [decide_eq_true_iff]; exact (h r hr).vld, hl⟩
theorem rn_facts {x : List Rul} {j : Nat} (kx : okT x) (hj : j < x.length) {e : List Bx} {b : Bool} (hs : stF x j = some (e, b)) :
  (difF x (woF x j)).2.2 = 3 ∨ ((difF x (woF x j)).2.2 = 0 ∧ (difF x (woF x j)).1.ok ∧ ((b = true ∧ (difF x (woF x j)).2.1 = false) ∨
  (b = false ∧ (difF x (woF x j)).2.1 = true ∧ decP x (difF x (woF x j)).1 = !decP (woF x j) (difF x (woF x j)).1))) := by
 have ky := okT_wo kx j
 unfold difF
 split
 ·exact .inl rfl
 ·rename_i p hp
  split
  ·exact .inl rfl
  ·rename_i q hq
   have hr := removes_nothing kx hj hs hp hq
   dsimp only at hr ⊢
   refine .inr ⟨rfl, ?_⟩
   cases h0 : (canonF xorB 0 5 (valF p) (valF q)).isEmpty
   ·obtain ⟨h1, h2, _⟩ := differ_some kx ky hp hq h0
    rw [h0] at hr
    exact ⟨h1, .inr ⟨hr, rfl, h2⟩⟩
   ·rw [h0] at hr
    refine ⟨?_, .inl ⟨hr, rfl⟩⟩
    rw [List.isEmpty_iff.1 h0]
    unfold firstH Hd.ok
    decide
theorem mdn_any (v : Int) {n : Nat} (h0 : 0 < n) (h1 : n ≤ 4096) : ∃ K : Nat, K < n ∧ ∀ w, Calls Tryd.prog 16 #[.int .i64 v, .int .i64 (n : Int)] w fun e w' => e = .returned (.int .i64 (K : Int)) ∧ w = w' := by
 obtain ⟨r0, r1⟩ := modI_bd v (show (0 : Int) < n by omega)
 exact ⟨(modI v n).toNat, by omega, fun w => by rw [Int.toNat_of_nonneg r0]; exact mod_is v n w (by omega) (by omega)⟩
set_option maxHeartbeats 16000000 in
theorem shnothing_law (sl : Value) (zs : List Int) (f : Int) (w : World) (ht : Tops w) (hZ : ZsOk sl zs) (hr : ∀ s ∈ roS sl (ints zs), w.rangeAt s.g s.o s.xs) (_kf : -9223372036854775808 ≤ f ∧ f ≤ 9223372036854775807) :
  Calls Tryd.prog 5 #[sl, .int .i64 f] w fun e w' => e = .returned (.bool true) ∧ Below w.heap.size w w' := by
 have hO := own_law hr
 clear hr
 obtain ⟨sa, sc, rfl, -⟩ := hZ.view
 go_enter Tryd.func5, Tryd.ntmps5
 go_upto_region 3 with (first | refine ldNT ?_ | ((first | refine stNT hO ?_ | refine st1NT hO ?_); clear hO; intro wv hO) | (refine al9T 10 hO ?_; clear hO; intro n10 wv hO) | (go_at_call 6; (with_reducible refine (new_any _ _ _).mono ?_); rintro e wv ⟨n, rfl, hB, hn, hb⟩; replace hO := hO.gain hb hB hn; have hT := hO.tapeIn List.mem_cons_self (by (intro s hs; repeat (first | exact hs | exact List.mem_append_left _ hs | apply List.mem_append_right | apply List.mem_cons_of_mem))) (Nat.zero_le _); clear hb hB hn) | (go_at_call 7; (with_reducible refine (ltable_any 5 false hZ (hO.tapeIn (by (repeat (first | exact List.mem_cons_self | refine List.mem_cons_of_mem _ ?_))) (by (intro s hs; repeat (first | exact hs | exact List.mem_append_left _ hs | apply List.mem_append_right | apply List.mem_cons_of_mem))) hT.le) (by omega) (by omega)).mono ?_); rintro e wv ⟨vy, i1, rfl, ⟨y, hv9, hn9, ky, ny, kg9⟩, hk9, hT1⟩; have gy := kg9 rfl; have hoff9 := off_of_new hO hn9; replace hO := hO.after (by (repeat (first | exact Upd.here | apply Upd.there))) hk9 hT1.blk; replace hT := hT1; clear hT1 hk9 kg9; have hfy := hv9.form; obtain ⟨ay, cy, rfl, hay, hO⟩ := own_offRS hO ⟨hv9, hoff9⟩; clear hv9 hn9 hoff9))
 by_cases h0 : y.length = 0
 ·have g0 : ((y.length : Int) == 0) = true := beq_iff_eq.2 (by omega)
  clear h0
  go_wp2_with (first | refine ldNT ?_ | ((first | refine stNT hO ?_ | refine st1NT hO ?_); clear hO; intro wv hO) | (refine al9T 10 hO ?_; clear hO; intro n10 wv hO) | (go_at_call 9; (with_reducible refine (sane32_any _ (hO.tops ht (by simp))).mono ?_); rintro e wv ⟨rfl, hb9⟩; replace hO := hO.call hb9; clear hb9))
  go_ret
  exact ⟨rfl, hO.keep.below⟩
 ·have g0 : ((y.length : Int) == 0) = false := beq_eq_false_iff_ne.2 (by omega)
  obtain ⟨j, hj, hmod⟩ := mdn_any f (n := y.length) (by omega) (by omega)
  have h2 : ∀ w, Tops w → IsTable w (.slice ay y.length cy) y → Calls Tryd.prog 12 #[.slice ay y.length cy, .int .i64 j] w fun e w' => e = .returned (.tuple #[.bool (stB (stF y j)), .int .i64 (stE (stF y j))]) ∧ Below w.heap.size w w' := fun w ht hv => by
   have h := sRemovable_any (i := (j : Int)) w ht hv ky (by omega)
   rw [rmP_at (good_validT gy (by omega)) hj] at h
   exact h
  have h3 : ∀ w, IsTable w (.slice ay y.length cy) y → Calls Tryd.prog 18 #[.slice ay y.length cy, .int .i64 j] w (RetTable w (woF y j)) := fun w hv => rWithout_any w hv hj (by omega)
  have hwl : (woF y j).length ≤ 5 := by rw [woF_length hj]; omega
  have h4 := fun vu w ht hv hu => fDiffer_any (vt := .slice ay y.length cy) (vu := vu) (t := y) (u := woF y j) w ht hv hu ky (okT_wo ky j) (by omega) (by omega)
  have hD1 := fun (h : Hd) (ho : h.ok) w ht hvt => fDecide_any (vt := .slice ay y.length cy) (t := y) h w ht ho hvt (by omega)
  have hD2 := fun (h : Hd) (ho : h.ok) v w ht hvt => fDecide_any (vt := v) (t := woF y j) h w ht ho hvt (by omega)
  have FF := fun e b (hs : stF y j = some (e, b)) => rn_facts ky hj hs
  generalize difF y (woF y j) = D at *
  obtain ⟨fH, db, dc⟩ := D
  dsimp only at FF h4
  cases hs : stF y j with
  | none =>
   rw [hs] at h2
   replace h2 : ∀ w, Tops w → IsTable w (.slice ay y.length cy) y → Calls Tryd.prog 12 #[.slice ay y.length cy, .int .i64 j] w fun e w' => e = .returned (.tuple #[.bool false, .int .i64 3]) ∧ Below w.heap.size w w' := h2
   clear FF hs hD1 hD2 h0
   generalize woF y j = u at *
   go_wp2_with (first | refine ldNT ?_ | ((first | refine stNT hO ?_ | refine st1NT hO ?_); clear hO; intro wv hO) | (refine al9T 10 hO ?_; clear hO; intro n10 wv hO) | (go_at_call 16; refine (hmod _).mono ?_; rintro e _ ⟨rfl, rfl⟩) | (go_at_call 12; (with_reducible refine (h2 _ (hO.tops ht (by simp)) (hO.isRm hfy)).mono ?_); rintro e wv ⟨rfl, hb9⟩; replace hO := hO.call hb9; clear hb9; clear h2) | (go_at_call 18; (with_reducible refine (h3 _ (hO.isRm hfy)).mono ?_); rintro e wv ⟨v5, rfl, ⟨hv9, hn9⟩, hb9⟩; have hf5 := hv9.form; replace hO := hO.gainR hb9 hv9 hn9; clear hb9 hv9 hn9) | (go_at_call 17; (with_reducible refine (h4 _ _ (hO.tops ht (by simp)) (hO.isRm hfy) (hO.isRm hf5)).mono ?_); rintro e wv ⟨rfl, hb9⟩; replace hO := hO.call hb9; clear hb9; clear h4) | (go_at_call 9; (with_reducible refine (sane32_any _ (hO.tops ht (by simp))).mono ?_); rintro e wv ⟨rfl, hb9⟩; replace hO := hO.call hb9; clear hb9))
   go_ret
   exact ⟨rfl, hO.keep.below⟩
  | some x =>
   obtain ⟨e, b⟩ := x
   rw [hs] at h2
   replace h2 : ∀ w, Tops w → IsTable w (.slice ay y.length cy) y → Calls Tryd.prog 12 #[.slice ay y.length cy, .int .i64 j] w fun e w' => e = .returned (.tuple #[.bool b, .int .i64 0]) ∧ Below w.heap.size w w' := h2
   have F2 := FF e b hs
   clear FF hs h0
   rcases F2 with rfl | ⟨rfl, kf, F3⟩
   ·clear hD1 hD2
    generalize woF y j = u at *
    go_wp2_with (first | refine ldNT ?_ | ((first | refine stNT hO ?_ | refine st1NT hO ?_); clear hO; intro wv hO) | (refine al9T 10 hO ?_; clear hO; intro n10 wv hO) | (go_at_call 16; refine (hmod _).mono ?_; rintro e _ ⟨rfl, rfl⟩) | (go_at_call 12; (with_reducible refine (h2 _ (hO.tops ht (by simp)) (hO.isRm hfy)).mono ?_); rintro e wv ⟨rfl, hb9⟩; replace hO := hO.call hb9; clear hb9; clear h2) | (go_at_call 18; (with_reducible refine (h3 _ (hO.isRm hfy)).mono ?_); rintro e wv ⟨v5, rfl, ⟨hv9, hn9⟩, hb9⟩; have hf5 := hv9.form; replace hO := hO.gainR hb9 hv9 hn9; clear hb9 hv9 hn9) | (go_at_call 17; (with_reducible refine (h4 _ _ (hO.tops ht (by simp)) (hO.isRm hfy) (hO.isRm hf5)).mono ?_); rintro e wv ⟨rfl, hb9⟩; replace hO := hO.call hb9; clear hb9; clear h4) | (go_at_call 9; (with_reducible refine (sane32_any _ (hO.tops ht (by simp))).mono ?_); rintro e wv ⟨rfl, hb9⟩; replace hO := hO.call hb9; clear hb9))
    go_ret
    exact ⟨rfl, hO.keep.below⟩
   ·have h6 := hD1 fH kf
    have h7 := hD2 fH kf
    clear hD1 hD2 kf
    generalize decI y fH = q1 at *
    generalize decI (woF y j) fH = q2 at *
    generalize decP y fH = P1 at *
    generalize decP (woF y j) fH = P2 at *
    generalize woF y j = u at *
    rcases F3 with ⟨rfl, rfl⟩ | ⟨rfl, rfl, rfl⟩
    ·go_wp2_with (first | refine ldNT ?_ | ((first | refine stNT hO ?_ | refine st1NT hO ?_); clear hO; intro wv hO) | (refine al9T 10 hO ?_; clear hO; intro n10 wv hO) | (go_at_call 16; refine (hmod _).mono ?_; rintro e _ ⟨rfl, rfl⟩) | (go_at_call 12; (with_reducible refine (h2 _ (hO.tops ht (by simp)) (hO.isRm hfy)).mono ?_); rintro e wv ⟨rfl, hb9⟩; replace hO := hO.call hb9; clear hb9; clear h2) | (go_at_call 18; (with_reducible refine (h3 _ (hO.isRm hfy)).mono ?_); rintro e wv ⟨v5, rfl, ⟨hv9, hn9⟩, hb9⟩; have hf5 := hv9.form; replace hO := hO.gainR hb9 hv9 hn9; clear hb9 hv9 hn9) | (go_at_call 17; (with_reducible refine (h4 _ _ (hO.tops ht (by simp)) (hO.isRm hfy) (hO.isRm hf5)).mono ?_); rintro e wv ⟨rfl, hb9⟩; replace hO := hO.call hb9; clear hb9; clear h4) | (go_at_call 19; (with_reducible refine (h6 _ (hO.tops ht (by simp)) (hO.isRm hfy)).mono ?_); rintro e wv ⟨rfl, hb9⟩; replace hO := hO.call hb9; clear hb9; clear h6))
     (try simp only [Act.put]); (try simp only [sI9, sZ9, sS9])
     refine wp_region_any (by kernel_rfl) ?_
     replace hO := hO.drew
     have ix9 := Ix.mk [0, 1]
     iterate 2 (refine wpAny_tk ix9 ?_; replace ix9 := ix9.tail; (first | go_big_quiet_skip | (go_big_quiet_want; (go_big_quiet_op; (first | go_big_quiet_on | ((refine ⟨_, fun _ _ => rfl, ?_⟩); go_big_quiet_on))))); (refine wpQuiet_nil ?_); (try simp only [Act.put]); (try simp only [sI9, sZ9, sS9]))
     clear ix9
     refine wpAny_all (rs := [2, 3]) (by kernel_rfl) (by simp) (ord_cons ?_ (ord_cons ?_ ord_nil))
     rotate_left 2
     all_goals
      refine wpOp_of_listL rfl ?_
      (first | refine ldNT ?_ | ((first | refine stNT hO ?_ | refine st1NT hO ?_); clear hO; intro wv hO) | ((refine wpList_step (fun K hK => ?_)); go_simp; (first | ((refine hK _ _ ?_); clear hK K) | ((first | (go_at_call 18; (with_reducible refine (h3 _ (hO.isRm hfy)).mono ?_); rintro e wv ⟨v6, rfl, ⟨hv9, hn9⟩, hb9⟩; have hf6 := hv9.form; replace hO := hO.gainR hb9 hv9 hn9; clear hb9 hv9 hn9) | (go_at_call 19; (with_reducible refine (h7 _ _ (hO.tops ht (by simp)) (hO.isRm hf6)).mono ?_); rintro e wv ⟨rfl, hb9⟩; replace hO := hO.call hb9; clear hb9; clear h7)); (try simp only []); (refine hK _ _ ?_); clear hK K)))); (try simp only [Act.put]); (try simp only [sI9, sZ9, sS9])
      refine wpList_done (qk_intro ?_)
     refine wpAny_1 3 ?_
     rotate_left 1
     refine wpAny_1 2 ?_
     rotate_left 1
     all_goals
      refine wpOp_of_listL rfl ?_
      (first | refine ldNT ?_ | ((first | refine stNT hO ?_ | refine st1NT hO ?_); clear hO; intro wv hO) | ((refine wpList_step (fun K hK => ?_)); go_simp; (first | ((refine hK _ _ ?_); clear hK K) | ((first | (go_at_call 18; (with_reducible refine (h3 _ (hO.isRm hfy)).mono ?_); rintro e wv ⟨v6, rfl, ⟨hv9, hn9⟩, hb9⟩; have hf6 := hv9.form; replace hO := hO.gainR hb9 hv9 hn9; clear hb9 hv9 hn9) | (go_at_call 19; (with_reducible refine (h7 _ _ (hO.tops ht (by simp)) (hO.isRm hf6)).mono ?_); rintro e wv ⟨rfl, hb9⟩; replace hO := hO.call hb9; clear hb9; clear h7)); (try simp only []); (refine hK _ _ ?_); clear hK K)))); (try simp only [Act.put]); (try simp only [sI9, sZ9, sS9])
      refine wpList_done (qk_intro ?_)
     refine wpAny_1 4 ?_
     rotate_left 1
     refine wpAny_1 4 ?_
     rotate_left 1
     all_goals
      refine wpOp_of_listL rfl ?_
      (first | refine ldNT ?_ | ((first | refine stNT hO ?_ | refine st1NT hO ?_); clear hO; intro wv hO) | ((refine wpList_step (fun K hK => ?_)); go_simp; (first | ((refine hK _ _ ?_); clear hK K) | ((first | (go_at_call 18; (with_reducible refine (h3 _ (hO.isRm hfy)).mono ?_); rintro e wv ⟨v6, rfl, ⟨hv9, hn9⟩, hb9⟩; have hf6 := hv9.form; replace hO := hO.gainR hb9 hv9 hn9; clear hb9 hv9 hn9) | (go_at_call 19; (with_reducible refine (h7 _ _ (hO.tops ht (by simp)) (hO.isRm hf6)).mono ?_); rintro e wv ⟨rfl, hb9⟩; replace hO := hO.call hb9; clear hb9; clear h7)); (try simp only []); (refine hK _ _ ?_); clear hK K)))); (try simp only [Act.put]); (try simp only [sI9, sZ9, sS9])
      refine wpList_done (qk_intro ?_)
     have ix9 := Ix.mk [5, 6, 7]
     iterate 3 (refine wpAny_tk ix9 ?_; replace ix9 := ix9.tail; (first | go_big_quiet_skip | (go_big_quiet_want; (go_big_quiet_op; (first | go_big_quiet_on | ((refine ⟨_, fun _ _ => rfl, ?_⟩); go_big_quiet_on))))); (refine wpQuiet_nil ?_); (try simp only [Act.put]); (try simp only [sI9, sZ9, sS9]))
     clear ix9
     refine wpAny_1 8 ?_
     rotate_left 1
     have ix9 := Ix.mk [5, 6, 7]
     iterate 3 (refine wpAny_tk ix9 ?_; replace ix9 := ix9.tail; (first | go_big_quiet_skip | (go_big_quiet_want; (go_big_quiet_op; (first | go_big_quiet_on | ((refine ⟨_, fun _ _ => rfl, ?_⟩); go_big_quiet_on))))); (refine wpQuiet_nil ?_); (try simp only [Act.put]); (try simp only [sI9, sZ9, sS9]))
     clear ix9
     refine wpAny_1 8 ?_
     rotate_left 1
     all_goals
      refine wpOp_of_listL rfl ?_
      (first | refine ldNT ?_ | ((first | refine stNT hO ?_ | refine st1NT hO ?_); clear hO; intro wv hO) | ((refine wpList_step (fun K hK => ?_)); go_simp; (first | ((refine hK _ _ ?_); clear hK K) | ((first | (go_at_call 18; (with_reducible refine (h3 _ (hO.isRm hfy)).mono ?_); rintro e wv ⟨v6, rfl, ⟨hv9, hn9⟩, hb9⟩; have hf6 := hv9.form; replace hO := hO.gainR hb9 hv9 hn9; clear hb9 hv9 hn9) | (go_at_call 19; (with_reducible refine (h7 _ _ (hO.tops ht (by simp)) (hO.isRm hf6)).mono ?_); rintro e wv ⟨rfl, hb9⟩; replace hO := hO.call hb9; clear hb9; clear h7)); (try simp only []); (refine hK _ _ ?_); clear hK K)))); (try simp only [Act.put]); (try simp only [sI9, sZ9, sS9])
      refine wpList_done (qk_intro ?_)
     refine wpAny_1 9 ?_
     rotate_left 1
     refine wpAny_1 9 ?_
     rotate_left 1
     all_goals
      refine wpOp_of_listL rfl ?_
      (first | refine ldNT ?_ | ((first | refine stNT hO ?_ | refine st1NT hO ?_); clear hO; intro wv hO) | ((refine wpList_step (fun K hK => ?_)); go_simp; (first | ((refine hK _ _ ?_); clear hK K) | ((first | (go_at_call 18; (with_reducible refine (h3 _ (hO.isRm hfy)).mono ?_); rintro e wv ⟨v6, rfl, ⟨hv9, hn9⟩, hb9⟩; have hf6 := hv9.form; replace hO := hO.gainR hb9 hv9 hn9; clear hb9 hv9 hn9) | (go_at_call 19; (with_reducible refine (h7 _ _ (hO.tops ht (by simp)) (hO.isRm hf6)).mono ?_); rintro e wv ⟨rfl, hb9⟩; replace hO := hO.call hb9; clear hb9; clear h7)); (try simp only []); (refine hK _ _ ?_); clear hK K)))); (try simp only [Act.put]); (try simp only [sI9, sZ9, sS9])
      refine wpList_done (qk_intro ?_)
     refine wpAny_done (by kernel_rfl) ?_ _
     rotate_left
     refine wpAny_done (by kernel_rfl) ?_ _
     rotate_left
     all_goals
      go_wp2_with (first | refine ldNT ?_ | ((first | refine stNT hO ?_ | refine st1NT hO ?_); clear hO; intro wv hO) | (refine al9T 10 hO ?_; clear hO; intro n10 wv hO) | (go_at_call 9; (with_reducible refine (sane32_any _ (hO.tops ht (by simp))).mono ?_); rintro e wv ⟨rfl, hb9⟩; replace hO := hO.call hb9; clear hb9))
      go_ret
      exact ⟨rfl, hO.keep.below⟩
    ·cases P2
     all_goals
      go_wp2_with (first | refine ldNT ?_ | ((first | refine stNT hO ?_ | refine st1NT hO ?_); clear hO; intro wv hO) | (refine al9T 10 hO ?_; clear hO; intro n10 wv hO) | (go_at_call 16; refine (hmod _).mono ?_; rintro e _ ⟨rfl, rfl⟩) | (go_at_call 12; (with_reducible refine (h2 _ (hO.tops ht (by simp)) (hO.isRm hfy)).mono ?_); rintro e wv ⟨rfl, hb9⟩; replace hO := hO.call hb9; clear hb9; clear h2) | (go_at_call 18; (with_reducible refine (h3 _ (hO.isRm hfy)).mono ?_); rintro e wv ⟨v5, rfl, ⟨hv9, hn9⟩, hb9⟩; have hf5 := hv9.form; replace hO := hO.gainR hb9 hv9 hn9; clear hb9 hv9 hn9) | (go_at_call 17; (with_reducible refine (h4 _ _ (hO.tops ht (by simp)) (hO.isRm hfy) (hO.isRm hf5)).mono ?_); rintro e wv ⟨rfl, hb9⟩; replace hO := hO.call hb9; clear hb9; clear h4) | (go_at_call 19; (with_reducible refine (h6 _ (hO.tops ht (by simp)) (hO.isRm hfy)).mono ?_); rintro e wv ⟨rfl, hb9⟩; replace hO := hO.call hb9; clear hb9; clear h6))
      (try simp only [Act.put]); (try simp only [sI9, sZ9, sS9])
      refine wp_region_any (by kernel_rfl) ?_
      replace hO := hO.drew
      have ix9 := Ix.mk [0, 1]
      iterate 2 (refine wpAny_tk ix9 ?_; replace ix9 := ix9.tail; (first | go_big_quiet_skip | (go_big_quiet_want; (go_big_quiet_op; (first | go_big_quiet_on | ((refine ⟨_, fun _ _ => rfl, ?_⟩); go_big_quiet_on))))); (refine wpQuiet_nil ?_); (try simp only [Act.put]); (try simp only [sI9, sZ9, sS9]))
      clear ix9
      refine wpAny_all (rs := [2, 3]) (by kernel_rfl) (by simp) (ord_cons ?_ (ord_cons ?_ ord_nil))
      rotate_left 2
      all_goals
       refine wpOp_of_listL rfl ?_
       (first | refine ldNT ?_ | ((first | refine stNT hO ?_ | refine st1NT hO ?_); clear hO; intro wv hO) | ((refine wpList_step (fun K hK => ?_)); go_simp; (first | ((refine hK _ _ ?_); clear hK K) | ((first | (go_at_call 18; (with_reducible refine (h3 _ (hO.isRm hfy)).mono ?_); rintro e wv ⟨v6, rfl, ⟨hv9, hn9⟩, hb9⟩; have hf6 := hv9.form; replace hO := hO.gainR hb9 hv9 hn9; clear hb9 hv9 hn9) | (go_at_call 19; (with_reducible refine (h7 _ _ (hO.tops ht (by simp)) (hO.isRm hf6)).mono ?_); rintro e wv ⟨rfl, hb9⟩; replace hO := hO.call hb9; clear hb9; clear h7)); (try simp only []); (refine hK _ _ ?_); clear hK K)))); (try simp only [Act.put]); (try simp only [sI9, sZ9, sS9])
       refine wpList_done (qk_intro ?_)
      refine wpAny_1 3 ?_
      rotate_left 1
      refine wpAny_1 2 ?_
      rotate_left 1
      all_goals
       refine wpOp_of_listL rfl ?_
       (first | refine ldNT ?_ | ((first | refine stNT hO ?_ | refine st1NT hO ?_); clear hO; intro wv hO) | ((refine wpList_step (fun K hK => ?_)); go_simp; (first | ((refine hK _ _ ?_); clear hK K) | ((first | (go_at_call 18; (with_reducible refine (h3 _ (hO.isRm hfy)).mono ?_); rintro e wv ⟨v6, rfl, ⟨hv9, hn9⟩, hb9⟩; have hf6 := hv9.form; replace hO := hO.gainR hb9 hv9 hn9; clear hb9 hv9 hn9) | (go_at_call 19; (with_reducible refine (h7 _ _ (hO.tops ht (by simp)) (hO.isRm hf6)).mono ?_); rintro e wv ⟨rfl, hb9⟩; replace hO := hO.call hb9; clear hb9; clear h7)); (try simp only []); (refine hK _ _ ?_); clear hK K)))); (try simp only [Act.put]); (try simp only [sI9, sZ9, sS9])
       refine wpList_done (qk_intro ?_)
      refine wpAny_1 4 ?_
      rotate_left 1
      refine wpAny_1 4 ?_
      rotate_left 1
      all_goals
       refine wpOp_of_listL rfl ?_
       (first | refine ldNT ?_ | ((first | refine stNT hO ?_ | refine st1NT hO ?_); clear hO; intro wv hO) | ((refine wpList_step (fun K hK => ?_)); go_simp; (first | ((refine hK _ _ ?_); clear hK K) | ((first | (go_at_call 18; (with_reducible refine (h3 _ (hO.isRm hfy)).mono ?_); rintro e wv ⟨v6, rfl, ⟨hv9, hn9⟩, hb9⟩; have hf6 := hv9.form; replace hO := hO.gainR hb9 hv9 hn9; clear hb9 hv9 hn9) | (go_at_call 19; (with_reducible refine (h7 _ _ (hO.tops ht (by simp)) (hO.isRm hf6)).mono ?_); rintro e wv ⟨rfl, hb9⟩; replace hO := hO.call hb9; clear hb9; clear h7)); (try simp only []); (refine hK _ _ ?_); clear hK K)))); (try simp only [Act.put]); (try simp only [sI9, sZ9, sS9])
       refine wpList_done (qk_intro ?_)
      have ix9 := Ix.mk [5, 6, 7]
      iterate 3 (refine wpAny_tk ix9 ?_; replace ix9 := ix9.tail; (first | go_big_quiet_skip | (go_big_quiet_want; (go_big_quiet_op; (first | go_big_quiet_on | ((refine ⟨_, fun _ _ => rfl, ?_⟩); go_big_quiet_on))))); (refine wpQuiet_nil ?_); (try simp only [Act.put]); (try simp only [sI9, sZ9, sS9]))
      clear ix9
      refine wpAny_1 8 ?_
      rotate_left 1
      have ix9 := Ix.mk [5, 6, 7]
      iterate 3 (refine wpAny_tk ix9 ?_; replace ix9 := ix9.tail; (first | go_big_quiet_skip | (go_big_quiet_want; (go_big_quiet_op; (first | go_big_quiet_on | ((refine ⟨_, fun _ _ => rfl, ?_⟩); go_big_quiet_on))))); (refine wpQuiet_nil ?_); (try simp only [Act.put]); (try simp only [sI9, sZ9, sS9]))
      clear ix9
      refine wpAny_1 8 ?_
      rotate_left 1
      all_goals
       refine wpOp_of_listL rfl ?_
       (first | refine ldNT ?_ | ((first | refine stNT hO ?_ | refine st1NT hO ?_); clear hO; intro wv hO) | ((refine wpList_step (fun K hK => ?_)); go_simp; (first | ((refine hK _ _ ?_); clear hK K) | ((first | (go_at_call 18; (with_reducible refine (h3 _ (hO.isRm hfy)).mono ?_); rintro e wv ⟨v6, rfl, ⟨hv9, hn9⟩, hb9⟩; have hf6 := hv9.form; replace hO := hO.gainR hb9 hv9 hn9; clear hb9 hv9 hn9) | (go_at_call 19; (with_reducible refine (h7 _ _ (hO.tops ht (by simp)) (hO.isRm hf6)).mono ?_); rintro e wv ⟨rfl, hb9⟩; replace hO := hO.call hb9; clear hb9; clear h7)); (try simp only []); (refine hK _ _ ?_); clear hK K)))); (try simp only [Act.put]); (try simp only [sI9, sZ9, sS9])
       refine wpList_done (qk_intro ?_)
      refine wpAny_1 9 ?_
      rotate_left 1
      refine wpAny_1 9 ?_
      rotate_left 1
      all_goals
       refine wpOp_of_listL rfl ?_
       (first | refine ldNT ?_ | ((first | refine stNT hO ?_ | refine st1NT hO ?_); clear hO; intro wv hO) | ((refine wpList_step (fun K hK => ?_)); go_simp; (first | ((refine hK _ _ ?_); clear hK K) | ((first | (go_at_call 18; (with_reducible refine (h3 _ (hO.isRm hfy)).mono ?_); rintro e wv ⟨v6, rfl, ⟨hv9, hn9⟩, hb9⟩; have hf6 := hv9.form; replace hO := hO.gainR hb9 hv9 hn9; clear hb9 hv9 hn9) | (go_at_call 19; (with_reducible refine (h7 _ _ (hO.tops ht (by simp)) (hO.isRm hf6)).mono ?_); rintro e wv ⟨rfl, hb9⟩; replace hO := hO.call hb9; clear hb9; clear h7)); (try simp only []); (refine hK _ _ ?_); clear hK K)))); (try simp only [Act.put]); (try simp only [sI9, sZ9, sS9])
       refine wpList_done (qk_intro ?_)
      refine wpAny_done (by kernel_rfl) ?_ _
      rotate_left
      refine wpAny_done (by kernel_rfl) ?_ _
      rotate_left
      all_goals
       go_wp2_with (first | refine ldNT ?_ | ((first | refine stNT hO ?_ | refine st1NT hO ?_); clear hO; intro wv hO) | (refine al9T 10 hO ?_; clear hO; intro n10 wv hO) | (go_at_call 9; (with_reducible refine (sane32_any _ (hO.tops ht (by simp))).mono ?_); rintro e wv ⟨rfl, hb9⟩; replace hO := hO.call hb9; clear hb9))
       go_ret
       exact ⟨rfl, hO.keep.below⟩
end Go.Proofs.YtjoionnnpjajmaaDoor
