/- Tables of rules: what they permit, what a rule decides. No program in sight. -/
import Derived.Test.YtbdfblgdmappeaaGreatDoorMV
import Derived.Test.YtbdfblgdmappeaaGreatDoorMS
import Derived.Test.YtbdfblgdmappeaaGreatDoorMD
import Derived.Test.YtbdfblgdmappeaaGreatDoorNJ
import Derived.Test.YtbdfblgdmappeaaGreatDoorNC
import Derived.Test.YtbdfblgdmappeaaGreatDoorMC
import Derived.Test.YtbdfblgdmappeaaGreatDoorMN
import Derived.Test.YtbdfblgdmappeaaGreatDoorMB
namespace Go.Proofs.YtbdfblgdmappeaaGreatDoor
open Go.RowKit
abbrev Rul := Bx × Bool
def okT (t : List Rul) : Prop := ∀ r ∈ t, r.1.ok
theorem ofF_isSet {op : Bool → Bool → Bool} {la lb z : List Bx} (ka : okL la) (kb : okL lb) (h : ofF op la lb = some z) : IsSet z := by
 unfold ofF at h
 cases hx : setF la with
 | none => rw [hx] at h; cases h
 | some x =>
  rw [hx] at h
  dsimp only at h
  cases hy : setF lb with
  | none => rw [hy] at h; cases h
  | some y =>
   rw [hy] at h
   obtain ⟨h1, rfl⟩ := limF_some.1 h
   have hc := canonF_cn op 5 0 rfl (setF_ok ka hx).1 (setF_ok kb hy).1
   exact ⟨hc.valid rfl, h1, hc⟩
theorem okL_one {b : Bx} (h : b.ok) : okL [b] := fun c hc => by rw [List.mem_singleton.1 hc]; exact h
theorem any_one {b : Bx} {h : Hd} : [b].any (hasH h) = hasB b h := by simp [hasH]
def permF : List Rul → Option (List Bx)
 | [] => some []
 | r :: t => match permF t with
  | none => none
  | some s => ofF (if r.2 then orB else exB) s [r.1]
def decP : List Rul → Hd → Bool
 | [], _ => false
 | r :: t, h => if hasB r.1 h then r.2 else decP t h
theorem permF_spec : ∀ {t : List Rul} {s : List Bx}, okT t → permF t = some s → IsSet s ∧ ∀ h : Hd, h.ok → s.any (hasH h) = decP t h
 | [], s, _, e => by
  cases e
  exact ⟨⟨fun b hb => (by cases hb), by decide, cn_nil 0 5⟩, fun _ _ => rfl⟩
 | r :: t, s, kt, e => by
  rw [permF] at e
  cases hp : permF t with
  | none => rw [hp] at e; cases e
  | some s' =>
   rw [hp] at e
   obtain ⟨h1, h2⟩ := permF_spec (fun q hq => kt q (by simp [hq])) hp
   have kb := okL_one (kt r (by simp))
   have ks : okL s' := h1.ok
   refine ⟨ofF_isSet ks kb e, fun h ho => ?_⟩
   rw [(of_members ks kb ho e).2.2, h2 h ho, any_one, decP]
   cases r.2 <;> cases hasB r.1 h <;> cases decP t h <;> rfl
def decN : List Rul → Hd → Option Nat
 | [], _ => none
 | r :: t, h => if hasB r.1 h then some 0 else (decN t h).map (· + 1)
theorem decP_N : ∀ {t : List Rul} {h : Hd}, decP t h = match decN t h with
  | none => false
  | some i => match t[i]? with
   | none => false
   | some r => r.2
 | [], _ => rfl
 | r :: t, h => by
  rw [decP, decN]
  by_cases hb : hasB r.1 h = true
  ·rw [if_pos hb, if_pos hb]; rfl
  ·rw [if_neg hb, if_neg hb, decP_N]
   cases decN t h <;> rfl
def leftF : List Rul → Option (List Bx) → Option (List Bx)
 | [], s => s
 | r :: t, s => leftF t (match s with
  | none => none
  | some x => ofF exB x [r.1])
theorem leftF_none : ∀ t : List Rul, leftF t none = none
 | [] => rfl
 | r :: t => by rw [leftF]; exact leftF_none t
theorem leftF_spec : ∀ {t : List Rul} {s z : List Bx}, okT t → IsSet s → leftF t (some s) = some z → IsSet z ∧ ∀ h : Hd, h.ok → z.any (hasH h) = (s.any (hasH h) && (decN t h).isNone)
 | [], s, z, _, hs, e => by
  cases e
  exact ⟨hs, fun h _ => by simp [decN]⟩
 | r :: t, s, z, kt, hs, e => by
  rw [leftF] at e
  cases hp : ofF exB s [r.1] with
  | none => rw [hp, leftF_none] at e; cases e
  | some s' =>
   rw [hp] at e
   have kb := okL_one (kt r (by simp))
   have ks : okL s := hs.ok
   have h1 := ofF_isSet ks kb hp
   obtain ⟨h2, h3⟩ := leftF_spec (fun q hq => kt q (by simp [hq])) h1 e
   refine ⟨h2, fun h ho => ?_⟩
   rw [h3 h ho, (of_members ks kb ho hp).2.2, any_one, decN]
   cases hb : hasB r.1 h
   ·cases s.any (hasH h) <;> cases decN t h <;> rfl
   ·cases s.any (hasH h) <;> cases (decN t h).isNone <;> simp [exB]
def effF (t : List Rul) (i : Nat) : Option (List Bx) := match t[i]? with
 | none => none
 | some r => leftF (t.take i) (makeF [r.1])
theorem decN_take' : ∀ {t : List Rul} {i : Nat} {h : Hd} (hi : i < t.length), ((hasB t[i].1 h && (decN (t.take i) h).isNone) = true ↔ decN t h = some i)
 | r :: t, 0, h, _ => by
  simp only [List.getElem_cons_zero, List.take_zero, decN, Option.isNone_none, Bool.and_true]
  by_cases hb : hasB r.1 h = true
  ·rw [if_pos hb]; simp [hb]
  ·rw [if_neg hb]
   cases decN t h <;> simp [hb]
 | r :: t, i + 1, h, hi => by
  have ih := decN_take' (t := t) (i := i) (h := h) (by simpa using hi)
  simp only [List.getElem_cons_succ, List.take_succ_cons, decN]
  by_cases hb : hasB r.1 h = true
  ·rw [if_pos hb, if_pos hb]; simp
  ·rw [if_neg hb, if_neg hb, Option.isNone_map, ih]
   cases decN t h <;> simp
theorem decN_take {t : List Rul} {i : Nat} {h : Hd} (hi : i < t.length) : (hasB t[i].1 h && (decN (t.take i) h).isNone) = decide (decN t h = some i) := by
 rw [Bool.eq_iff_iff, decide_eq_true_iff]; exact decN_take' hi
theorem effF_spec {t : List Rul} {i : Nat} {s : List Bx} (kt : okT t) (hi : i < t.length) (e : effF t i = some s) : IsSet s ∧ ∀ h : Hd, h.ok → s.any (hasH h) = decide (decN t h = some i) := by
 unfold effF at e
 rw [List.getElem?_eq_getElem hi] at e
 dsimp only at e
 cases hm : makeF [t[i].1] with
 | none => rw [hm, leftF_none] at e; cases e
 | some x =>
  rw [hm] at e
  have kb := okL_one (kt t[i] (List.getElem_mem hi))
  obtain ⟨h1, h2⟩ := make_set kb hm
  obtain ⟨h3, h4⟩ := leftF_spec (fun q hq => kt q (List.mem_of_mem_take hq)) h1 e
  refine ⟨h3, fun h ho => ?_⟩
  have hx : x.any (hasH h) = hasB t[i].1 h := by
   rw [any_inq, valF_id h1.1, h2 _ (okP_of ho), ← any_inq, any_one]
  rw [h4 h ho, hx, decN_take hi]
theorem of_okP {p : Nat → Int} (hp : okP p) : (Hd.of p).ok := by
 have h0 := hp 0 (by omega)
 have h1 := hp 1 (by omega)
 have h2 := hp 2 (by omega)
 have h3 := hp 3 (by omega)
 have h4 := hp 4 (by omega)
 simp only [topOf] at h0 h1 h2 h3 h4
 simp only [Hd.of, Hd.ok]
 omega
theorem of_at (p : Nat → Int) {k : Nat} (hk : k < 5) : (Hd.of p).at k = p k := by
 rcases five hk with rfl | rfl | rfl | rfl | rfl <;> rfl
theorem IsSet.exth {a b : List Bx} (ha : IsSet a) (hb : IsSet b) (h : ∀ x : Hd, x.ok → a.any (hasH x) = b.any (hasH x)) : a = b := by
 refine ha.ext hb fun p hp => ?_
 have h1 := h (Hd.of p) (of_okP hp)
 rw [any_inq, any_inq, valF_id ha.1, valF_id hb.1] at h1
 have hc : ∀ l : List Bx, inq l (Hd.of p).at = inq l p := fun l => by
  rw [Bool.eq_iff_iff, inq_iff, inq_iff]
  exact inL_congr fun k _ hk => of_at p hk
 rwa [hc, hc] at h1
theorem perm_ext {t u : List Rul} {a b : List Bx} (kt : okT t) (ku : okT u) (ha : permF t = some a) (hb : permF u = some b) (h : ∀ x : Hd, x.ok → decP t x = decP u x) : a = b := by
 obtain ⟨h1, h2⟩ := permF_spec kt ha
 obtain ⟨h3, h4⟩ := permF_spec ku hb
 exact h1.exth h3 fun x hx => by rw [h2 x hx, h4 x hx, h x hx]
theorem decP_swap {p q : Rul} {h : Hd} (hs : p.2 = q.2 ∨ ¬ (hasB p.1 h = true ∧ hasB q.1 h = true)) : ∀ (A B : List Rul), decP (A ++ p :: q :: B) h = decP (A ++ q :: p :: B) h
 | [], B => by
  simp only [List.nil_append, decP]
  by_cases h1 : hasB p.1 h = true
  ·by_cases h2 : hasB q.1 h = true
   ·rcases hs with h3 | h3
    ·rw [if_pos h1, if_pos h2, h3]
    ·exact absurd ⟨h1, h2⟩ h3
   ·rw [if_pos h1, if_neg h2, if_pos h1]
  ·by_cases h2 : hasB q.1 h = true
   ·rw [if_neg h1, if_pos h2, if_pos h2]
   ·rw [if_neg h1, if_neg h2, if_neg h2, if_neg h1]
 | r :: A, B => by
  simp only [List.cons_append, decP]
  rw [decP_swap hs A B]
def pruneG : List Rul → List Rul → Option (List Rul)
 | _, [] => some []
 | pre, r :: t => match leftF pre (makeF [r.1]) with
  | none => none
  | some s => match pruneG (pre ++ [r]) t with
   | none => none
   | some y => some (if s.isEmpty then y else r :: y)
theorem effF_left {t : List Rul} {i : Nat} (hi : i < t.length) : effF t i = leftF (t.take i) (makeF [t[i].1]) := by
 unfold effF
 rw [List.getElem?_eq_getElem hi]
theorem prune_step {t : List Rul} {k : Nat} (hk : k < t.length) : pruneG (t.take k) (t.drop k) = match effF t k with
  | none => none
  | some s => match pruneG (t.take (k + 1)) (t.drop (k + 1)) with
   | none => none
   | some y => some (if s.isEmpty then y else t[k] :: y) := by
 rw [effF_left hk, List.drop_eq_getElem_cons hk, pruneG, List.take_succ_eq_append_getElem hk]
def prK (t : List Rul) (k : Nat) (out : List Rul) : Prop := pruneG [] t = (pruneG (t.take k) (t.drop k)).map (out ++ ·)
theorem prK.no {t out : List Rul} {k : Nat} (h : prK t k out) (hk : k < t.length) (e : effF t k = none) : pruneG [] t = none := by
 unfold prK at h
 rw [h, prune_step hk, e]
 rfl
theorem prK.yes {t out : List Rul} {k : Nat} (h : prK t k out) (hk : k < t.length) {s : List Bx} (e : effF t k = some s) : prK t (k + 1) (if s.isEmpty then out else out ++ [t[k]]) := by
 unfold prK at h ⊢
 rw [h, prune_step hk, e]
 dsimp only
 cases pruneG (t.take (k + 1)) (t.drop (k + 1)) with
 | none => rfl
 | some y => cases s.isEmpty <;> simp
theorem prK.done {t out : List Rul} (h : prK t t.length out) : pruneG [] t = some out := by
 unfold prK at h
 rw [h, List.drop_length, pruneG]
 simp
def joinG : List Grp → List Grp → List Grp
 | gs, [] => gs
 | gs, g :: G => joinG (addG g.r g.rest gs) G
def upG : List Grp → Prop
 | [] => True
 | g :: G => g.r.lo ≤ g.r.hi ∧ (∀ x ∈ G, g.r.hi < x.r.lo) ∧ upG G
theorem joinG_spec {f n : Nat} (hf : f < 5) : ∀ {G gs : List Grp}, NG gs → upG G → (∀ g ∈ gs, ∀ x ∈ G, g.r.hi < x.r.lo) → (∀ g ∈ gs, 0 ≤ g.r.lo ∧ g.r.hi ≤ topOf f ∧ Cn (f + 1) n g.rest) → (∀ g ∈ G, 0 ≤ g.r.lo ∧ g.r.hi ≤ topOf f ∧ Cn (f + 1) n g.rest) →
  NG (joinG gs G) ∧ (∀ g ∈ joinG gs G, 0 ≤ g.r.lo ∧ g.r.hi ≤ topOf f ∧ Cn (f + 1) n g.rest) ∧ total (joinG gs G) ≤ total gs + total G ∧
  ∀ h : Nat → Int, inL (f + 1) (lk (h f) (joinG gs G)) h ↔ inL (f + 1) (lk (h f) gs) h ∨ ∃ g ∈ G, (g.r.lo ≤ h f ∧ h f ≤ g.r.hi) ∧ inL (f + 1) g.rest h
 | [], gs, hN, _, _, hb, _ => ⟨hN, hb, by simp [joinG], fun h => by simp [joinG]⟩
 | g :: G, gs, hN, hu, hap, hb, hB => by
  obtain ⟨a1, a2, a3, a4⟩ := addG_spec (rest := g.rest) hu.1 hN (fun x hx => hap x hx g (by simp))
  have hg := hB g (by simp)
  obtain ⟨i1, i2, i3, i4⟩ := joinG_spec (n := n) hf (G := G) a1 hu.2.2 (fun x hx y hy => by have := a2 x hx; have := hu.2.1 y hy; omega) (fun x hx => by
   have hhi := a2 x hx
   rcases a4 x hx with ⟨y, hy, c1, c2⟩ | ⟨c1, c2⟩
   ·have := hb y hy
    exact ⟨by rw [c1]; exact this.1, by omega, by rw [c2]; exact this.2.2⟩
   ·exact ⟨by rw [c1]; exact hg.1, by omega, by rw [c2]; exact hg.2.2⟩) (fun x hx => hB x (by simp [hx]))
  refine ⟨i1, i2, ?_, fun h => ?_⟩
  ·have := (total_addG g.r g.rest gs).2
   rw [joinG, total_cons]
   omega
  ·rw [joinG, i4 h, a3]
   by_cases c : g.r.lo ≤ h f ∧ h f ≤ g.r.hi
   ·rw [if_pos c, lk_above (gs := gs) (fun x hx => by have := hap x hx g (by simp); omega)]
    constructor
    ·rintro (h1 | ⟨x, hx, h1⟩)
     ·exact .inr ⟨g, by simp, c, h1⟩
     ·exact .inr ⟨x, by simp [hx], h1⟩
    ·rintro (h1 | ⟨x, hx, h1⟩)
     ·exact absurd h1 inL_nil
     ·rcases List.mem_cons.1 hx with rfl | hx
      ·exact .inl h1.2
      ·exact .inr ⟨x, hx, h1⟩
   ·rw [if_neg c]
    constructor
    ·rintro (h1 | ⟨x, hx, h1⟩)
     ·exact .inl h1
     ·exact .inr ⟨x, by simp [hx], h1⟩
    ·rintro (h1 | ⟨x, hx, h1⟩)
     ·exact .inl h1
     ·rcases List.mem_cons.1 hx with rfl | hx
      ·exact absurd h1.1 c
      ·exact .inr ⟨x, hx, h1⟩
theorem suffix_flatMap {α β : Type} {F : α → List β} : ∀ {gs : List α} {p : List β}, p <:+ gs.flatMap F → ∃ B, (∃ A, gs = A ++ B ∧ p = B.flatMap F) ∨ ∃ A g q, gs = A ++ g :: B ∧ q <:+ F g ∧ p = q ++ B.flatMap F
 | [], p, h => ⟨[], .inl ⟨[], rfl, by simpa using h⟩⟩
 | g :: gs, p, ⟨t, ht⟩ => by
  rw [List.flatMap_cons] at ht
  by_cases hl : p.length ≤ (gs.flatMap F).length
  ·have : p <:+ gs.flatMap F := List.suffix_of_suffix_length_le ⟨t, ht⟩ ⟨F g, rfl⟩ hl
   obtain ⟨B, h | ⟨A, x, q, h1, h2, h3⟩⟩ := suffix_flatMap this
   ·obtain ⟨A, h1, h2⟩ := h
    exact ⟨B, .inl ⟨g :: A, by rw [h1]; rfl, h2⟩⟩
   ·exact ⟨B, .inr ⟨g :: A, x, q, by rw [h1]; rfl, h2, h3⟩⟩
  ·obtain ⟨q, hq⟩ : gs.flatMap F <:+ p := List.suffix_of_suffix_length_le ⟨F g, rfl⟩ ⟨t, ht⟩ (by omega)
   subst hq
   rw [← List.append_assoc, List.append_cancel_right_eq] at ht
   exact ⟨gs, .inr ⟨[], g, q, rfl, ⟨t, ht⟩, rfl⟩⟩
theorem suffix_map {α β : Type} {F : α → β} {l : List α} {q : List β} (h : q <:+ l.map F) : ∃ r, r <:+ l ∧ q = r.map F := by
 obtain ⟨t, ht⟩ := h
 refine ⟨l.drop t.length, List.drop_suffix _ _, ?_⟩
 rw [List.map_drop, ← ht, List.drop_left']
 rfl
theorem NG.up : ∀ {gs : List Grp}, NG gs.reverse → upG gs
 | [], _ => trivial
 | g :: gs, h => by
  rw [List.reverse_cons] at h
  have hup : ∀ {A : List Grp}, NG (A ++ [g]) → NG A := by
   intro A
   induction A with
   | nil => intro _; trivial
   | cons x A ih =>
    intro h
    have h1 := ih h.tail
    cases A with
    | nil => exact h.head
    | cons y A => exact ⟨h.1, h.2.1, h.2.2.1, h.2.2.2.1, h1⟩
  have hlo : ∀ {A : List Grp}, NG (A ++ [g]) → ∀ x ∈ A, g.r.hi < x.r.lo := by
   intro A
   induction A with
   | nil => intro _ x hx; cases hx
   | cons y A ih =>
    intro h x hx
    rcases List.mem_cons.1 hx with rfl | hx
    ·exact h.below g (by simp)
    ·exact ih h.tail x hx
  exact ⟨(NG.suffix h).head.1, fun x hx => hlo h x (List.mem_reverse.2 hx), NG.up (hup h)⟩
theorem upG.suffix : ∀ {A B : List Grp}, upG (A ++ B) → upG B
 | [], _, h => h
 | _ :: A, _, h => upG.suffix (A := A) h.2.2
theorem mem_one {f : Nat} (hf : f < 5) {g : Rg} {r : List Bx} {h : Nat → Int} : inL f (r.map fun x => x.set f g) h ↔ (g.lo ≤ h f ∧ h f ≤ g.hi) ∧ inL (f + 1) r h := by
 unfold inL
 constructor
 ·rintro ⟨b, hb, hb'⟩
  obtain ⟨y, hy, rfl⟩ := List.mem_map.1 hb
  obtain ⟨c1, c2⟩ := (inB_split hf).1 hb'
  rw [Bx.at_set _ _ _ hf, if_pos rfl] at c1
  exact ⟨c1, y, hy, (inB_set (by omega)).1 c2⟩
 ·rintro ⟨c1, y, hy, c2⟩
  refine ⟨_, List.mem_map.2 ⟨y, hy, rfl⟩, (inB_split hf).2 ⟨?_, (inB_set (by omega)).2 c2⟩⟩
  rw [Bx.at_set _ _ _ hf, if_pos rfl]; exact c1
theorem mem_flat {f : Nat} (hf : f < 5) : ∀ {G : List Grp} {h : Nat → Int}, inL f (flatG f G) h ↔ ∃ g ∈ G, (g.r.lo ≤ h f ∧ h f ≤ g.r.hi) ∧ inL (f + 1) g.rest h
 | [], h => by
  constructor
  ·intro h1; exact absurd h1 inL_nil
  ·rintro ⟨g, hg, _⟩; cases hg
 | g :: G, h => by
  have e : flatG f (g :: G) = (g.rest.map fun x => x.set f g.r) ++ flatG f G := rfl
  rw [e, inL_append, mem_one hf, mem_flat hf]
  constructor
  ·rintro (h1 | ⟨x, hx, h1⟩)
   ·exact ⟨g, by simp, h1⟩
   ·exact ⟨x, by simp [hx], h1⟩
  ·rintro ⟨x, hx, h1⟩
   rcases List.mem_cons.1 hx with rfl | hx
   ·exact .inl h1
   ·exact .inr ⟨x, hx, h1⟩
theorem Cn.back : ∀ {n f : Nat}, f + n = 5 → ∀ {l p : List Bx}, Cn f n l → p <:+ l → ∃ m, Cn f n m ∧ m.length ≤ p.length ∧ ∀ h, inL f m h ↔ inL f p h
 | 0, f, hfn, l, p, hl, hp => by
  refine ⟨p, ?_, Nat.le_refl _, fun _ => Iff.rfl⟩
  rcases hl with rfl | rfl
  ·exact .inl (List.suffix_nil.1 hp)
  ·obtain ⟨t, ht⟩ := hp
   cases t with
   | nil => exact .inr (by simpa using ht)
   | cons x t => simp at ht; exact .inl ht.2.2
 | n + 1, f, hfn, l, p, ⟨gs, gN, gb, gl⟩, hp => by
  have hf : f < 5 := by omega
  subst gl
  have hU : upG gs.reverse := NG.up (by rw [List.reverse_reverse]; exact gN)
  have gb' : ∀ g ∈ gs.reverse, 0 ≤ g.r.lo ∧ g.r.hi ≤ topOf f ∧ Cn (f + 1) n g.rest := fun g hg => gb g (List.mem_reverse.1 hg)
  obtain ⟨B, ⟨A, e, e3⟩ | ⟨A, g, q, e, hq, e3⟩⟩ := suffix_flatMap hp
  ·rw [e] at hU gb'
   have hB := upG.suffix hU
   obtain ⟨i1, i2, i3, i4⟩ := joinG_spec (n := n) hf (gs := []) (G := B) trivial hB (fun x hx => by cases hx) (fun x hx => by cases hx) fun x hx => gb' x (by simp [hx])
   refine ⟨flatG f (joinG [] B).reverse, ⟨_, i1, i2, rfl⟩, ?_, fun h => ?_⟩
   ·rw [flatG_rev_length, e3]
    have : (B.flatMap fun g => g.rest.map fun x => x.set f g.r).length = total B := flatG_length f B
    rw [this]
    simpa [total] using i3
   ·rw [inL_flatG hf i1, i4, e3]
    have : inL f (B.flatMap fun g => g.rest.map fun x => x.set f g.r) h ↔ _ := mem_flat hf (G := B) (h := h)
    rw [this]
    exact ⟨fun h1 => h1.elim (fun h2 => absurd h2 inL_nil) id, .inr⟩
  ·rw [e] at hU gb'
   have hB := upG.suffix hU
   have hg := gb' g (by simp)
   obtain ⟨r, hr, hq'⟩ := suffix_map hq
   obtain ⟨m, hm, hml, hme⟩ := Cn.back (show f + 1 + n = 5 by omega) hg.2.2 hr
   obtain ⟨i1, i2, i3, i4⟩ := joinG_spec (n := n) hf (gs := []) (G := ⟨g.r, m⟩ :: B) trivial hB (fun x hx => by cases hx) (fun x hx => by cases hx) fun x hx => by
    rcases List.mem_cons.1 hx with rfl | hx
    ·exact ⟨hg.1, hg.2.1, hm⟩
    ·exact gb' x (by simp [hx])
   refine ⟨flatG f (joinG [] (⟨g.r, m⟩ :: B)).reverse, ⟨_, i1, i2, rfl⟩, ?_, fun h => ?_⟩
   ·rw [flatG_rev_length, e3, List.length_append, hq', List.length_map]
    have : (B.flatMap fun g => g.rest.map fun x => x.set f g.r).length = total B := flatG_length f B
    rw [this]
    rw [total_cons] at i3
    have h0 : total [] = 0 := rfl
    dsimp only at i3
    omega
   ·rw [inL_flatG hf i1, i4, e3, inL_append, hq', mem_one hf]
    have : inL f (B.flatMap fun g => g.rest.map fun x => x.set f g.r) h ↔ _ := mem_flat hf (G := B) (h := h)
    rw [this]
    constructor
    ·rintro (h1 | ⟨x, hx, h1, h2⟩)
     ·exact absurd h1 inL_nil
     ·rcases List.mem_cons.1 hx with rfl | hx
      ·exact .inl ⟨h1, (hme h).1 h2⟩
      ·exact .inr ⟨x, hx, h1, h2⟩
    ·rintro (⟨h1, h2⟩ | ⟨x, hx, h1⟩)
     ·exact .inr ⟨_, List.mem_cons_self, h1, (hme h).2 h2⟩
     ·exact .inr ⟨x, by simp [hx], h1⟩
theorem EndsAt.sub {N : Nat} {e : Nat → List Int} {l m : List Bx} (h : EndsAt N e l) (hm : ∀ b ∈ m, b ∈ l) : EndsAt N e m := fun k hk => ⟨(h k hk).1, fun b hb => (h k hk).2 b (hm b hb)⟩
section
variable {x y : List Rul} {a b : List Bx}
theorem differ_same (kx : okT x) (ky : okT y) (ha : permF x = some a) (hb : permF y = some b) (h : ∀ h : Hd, h.ok → decP x h = decP y h) : (canonF xorB 0 5 (valF a) (valF b)).isEmpty = true := by
 have e := perm_ext kx ky ha hb h
 subst e
 obtain ⟨h1, _⟩ := permF_spec kx ha
 rw [valF_id h1.1, xor_none h1.1 h1.1, (sub_iff h1.1 h1.1).2 fun _ _ h => h]
 rfl
end
set_option maxRecDepth 100000
def rlcs (r : Rul) : List Value := bcs r.1 ++ [.bool r.2]
abbrev rlv (r : Rul) : Value := .agg (rlcs r).toArray
theorem rlcs_length (r : Rul) : (rlcs r).length = 11 := rfl
def cellsR : List Rul → List Value
 | [] => []
 | b :: l => rlcs b ++ cellsR l
theorem cellsR_append (l m : List Rul) : cellsR (l ++ m) = cellsR l ++ cellsR m := by
 induction l with
 | nil => rfl
 | cons b l ih => simp [cellsR, ih]
theorem cellsR_one (b : Rul) : cellsR [b] = rlcs b := by simp [cellsR]
theorem cellsR_length (l : List Rul) : (cellsR l).length = l.length * 11 := by
 induction l with
 | nil => rfl
 | cons b l ih => simp only [cellsR, List.length_append, ih, rlcs_length, List.length_cons]; omega
def IsTable (w : World) (v : Value) (l : List Rul) : Prop :=
 (v = .slice none 0 0 ∧ l = []) ∨ ∃ g o c, v = .slice (some ⟨g, o, none⟩) l.length c ∧ l.length ≤ c ∧ w.rangeAt g o (cellsR l)
theorem own_table {M : List Nat} {w0 w : World} {X : List Chunk} {R : List Row} {S : List Ro} (hO : Own M w0 X R S w) {v : Value} {k : Nat} {l : List Rul} (hm : (⟨v, k, cellsR l, 100, 11⟩ : Row) ∈ R) : IsTable w v l := by
 obtain ⟨h1, h2⟩ := hO.row _ hm
 dsimp only at h1 h2
 have hk : l.length = k := by rw [cellsR_length] at h1; omega
 rcases h2 with ⟨hv, h0⟩ | ⟨g, cap, cur, hv, _, hg, hc, _, _, ht⟩
 ·left; refine ⟨hv, List.length_eq_zero_iff.1 (by omega)⟩
 ·right
  refine ⟨g, 0, cap, by rw [hv, hk], by rw [hk]; exact hc, fun j u hj => ?_⟩
  have hjl := (List.getElem?_eq_some_iff.1 hj).1
  rw [cell_of_row w g (0 + j) cur _ _ hg]
  rw [← ht, List.getElem?_take] at hj
  split at hj
  ·simpa using hj
  ·cases hj
theorem own_tableC {M : List Nat} {w0 w : World} {X : List Chunk} {R : List Row} {S : List Ro} (hO : Own M w0 X R S w) {n c : Nat} {cs : List Value} {t : TypeId} {l : List Rul} (hm : (⟨n, cs, t⟩ : Chunk) ∈ X) (hl : cs = cellsR l) (hc : l.length ≤ c) : IsTable w (.slice (some ⟨n, 0, none⟩) l.length c) l := by
 subst hl
 exact .inr ⟨n, 0, c, rfl, hc, fun j u hj => by rw [(hO.chunk _ hm).cell (0 + j)]; simpa using hj⟩
def RetTable (w : World) (l : List Rul) (e : Ending) (w' : World) : Prop := ∃ v, e = .returned v ∧ (IsTable w' v l ∧ NewFrom w v) ∧ Below w.heap.size w w'
theorem IsTable.view {w : World} {v : Value} {l : List Rul} (h : IsTable w v l) : ∃ a c, v = .slice a l.length c ∧ (0 < l.length → ∃ g o, a = some ⟨g, o, none⟩) := by
 rcases h with ⟨rfl, rfl⟩ | ⟨g, o, c, rfl, _, _⟩
 ·exact ⟨none, 0, rfl, fun h => by simp at h⟩
 ·exact ⟨some ⟨g, o, none⟩, c, rfl, fun _ => ⟨g, o, rfl⟩⟩
theorem own_argR {w : World} {v : Value} {l : List Rul} (h : IsTable w v l) : Own [] w [] [] (roS v (cellsR l)) w := by
 rcases h with ⟨rfl, rfl⟩ | ⟨g, o, c, rfl, _, hr⟩
 ·exact own_start [] w
 ·exact (own_start [] w).addRo ⟨g, o, cellsR l⟩ hr (by simp [excl])
theorem tk_rule (l : List Rul) {k : Nat} (h : k < l.length) : List.take (rlcs l[k]).length (List.drop (k * 11) (cellsR l)) = rlcs l[k] := by
 induction l generalizing k with
 | nil => simp at h
 | cons b l ih =>
  cases k with
  | zero =>
   simp only [List.getElem_cons_zero, Nat.zero_mul, List.drop_zero, cellsR]
   exact List.take_left' rfl
  | succ k =>
   have := ih (k := k) (by simpa using h)
   simp only [List.getElem_cons_succ, cellsR]
   rw [show (k + 1) * 11 = (rlcs b).length + k * 11 by rw [rlcs_length]; omega, List.drop_append, List.drop_of_length_le (by omega), List.nil_append, Nat.add_sub_cancel_left]
   exact this
theorem IsTable.keep {w w' : World} {v : Value} {l : List Rul} (h : IsTable w v l) (hk : Keep [] w w') : IsTable w' v l := by
 rcases h with h | ⟨g, o, c, h1, h2, h3⟩
 ·exact .inl h
 ·refine .inr ⟨g, o, c, h1, h2, fun j u hj => ?_⟩
  have h4 := h3 j u hj
  rw [World.cell?_of_block (w := w) (hk.block _ (World.block_lt_of_cell? w _ h4) (by simp))]; exact h4
def IsOffR (L : List Nat) (w : World) (v : Value) (l : List Rul) : Prop := IsTable w v l ∧ ∀ g, v.ownBlock = some g → g ∉ L
theorem own_offR {M : List Nat} {w0 w : World} {X : List Chunk} {R : List Row} {S : List Ro} (hO : Own M w0 X R S w) {v : Value} {l : List Rul} (h : IsOffR (excl X R) w v l) :
  (v = .slice none 0 0 ∧ l = []) ∨ ∃ g o c, v = .slice (some ⟨g, o, none⟩) l.length c ∧ Own M w0 X R (⟨g, o, cellsR l⟩ :: S) w := by
 obtain ⟨h1 | ⟨g, o, c, rfl, h2, h3⟩, h4⟩ := h
 ·exact .inl h1
 ·exact .inr ⟨g, o, c, rfl, hO.addRo ⟨g, o, cellsR l⟩ h3 fun _ => h4 g rfl⟩
theorem own_offRS {M : List Nat} {w0 w : World} {X : List Chunk} {R : List Row} {S : List Ro} (hO : Own M w0 X R S w) {v : Value} {l : List Rul} (h : IsOffR (excl X R) w v l) :
  ∃ a c, v = .slice a l.length c ∧ (0 < l.length → ∃ g o, a = some ⟨g, o, none⟩) ∧ Own M w0 X R (roS (.slice a l.length c) (cellsR l) ++ S) w := by
 obtain ⟨rfl, rfl⟩ | ⟨g, o, c, rfl, hO⟩ := own_offR hO h
 ·exact ⟨none, 0, rfl, fun h => by simp at h, hO⟩
 ·exact ⟨some ⟨g, o, none⟩, c, rfl, fun _ => ⟨g, o, rfl⟩, hO⟩
theorem cellsR_one' (l : List Rul) : (cellsR l).all (·.oneCell') = true := by
 induction l with
 | nil => rfl
 | cons b l ih => simp only [cellsR, List.all_append, ih, Bool.and_true]; rfl
theorem src_table {w : World} {a : Option Addr} {c m : Nat} {l : List Rul} (h : IsTable w (.slice a l.length c) l) (hm : m ≤ l.length) : SrcAt w 11 a m (cellsR (l.take m)) := by
 refine ⟨by rw [cellsR_length]; simp; omega, fun h0 => ?_⟩
 rcases h with ⟨h1, h2⟩ | ⟨g, o, c', h1, _, hr⟩
 ·subst h2; simp at hm; omega
 ·cases h1
  refine ⟨g, o, rfl, fun j u hj => hr j u ?_⟩
  have hl : cellsR l = cellsR (l.take m) ++ cellsR (l.drop m) := by rw [← cellsR_append, List.take_append_drop]
  rw [hl, List.getElem?_append_left (List.getElem?_eq_some_iff.1 hj).1]
  exact hj
theorem isCells_table {w : World} {v : Value} {l : List Rul} : IsTable w v l ↔ IsCells w v l.length (cellsR l) := by
 constructor
 ·rintro (⟨rfl, rfl⟩ | ⟨g, o, c, rfl, h, hr⟩)
  ·exact .inl ⟨rfl, rfl, rfl⟩
  ·exact .inr ⟨g, o, c, rfl, h, hr⟩
 ·rintro (⟨rfl, h, _⟩ | ⟨g, o, c, rfl, h, hr⟩)
  ·exact .inl ⟨rfl, List.length_eq_zero_iff.1 h⟩
  ·exact .inr ⟨g, o, c, rfl, h, hr⟩
theorem cellsR_take (l : List Rul) (k : Nat) : cellsR (l.take k) = (cellsR l).take (k * 11) := by
 induction l generalizing k with
 | nil => simp [cellsR]
 | cons b l ih =>
  cases k with
  | zero => simp [cellsR]
  | succ k =>
   simp only [List.take_succ_cons, cellsR, ih]
   rw [show (k + 1) * 11 = (rlcs b).length + k * 11 by rw [rlcs_length]; omega, List.take_length_add_append]
theorem cellsR_drop (l : List Rul) (k : Nat) : cellsR (l.drop k) = (cellsR l).drop (k * 11) := by
 induction l generalizing k with
 | nil => simp [cellsR]
 | cons b l ih =>
  cases k with
  | zero => simp [cellsR]
  | succ k =>
   simp only [List.drop_succ_cons, cellsR, ih]
   rw [show (k + 1) * 11 = (rlcs b).length + k * 11 by rw [rlcs_length]; omega, List.drop_length_add_append]
theorem IsTable.part {w : World} {g o k c : Nat} {l : List Rul} (h : IsTable w (.slice (some ⟨g, o, none⟩) k c) l) (i n c' : Nat) (hi : i + n ≤ l.length) (hc : n ≤ c') : IsTable w (.slice (some ⟨g, o + i * 11, none⟩) n c') ((l.drop i).take n) := by
 have hl : ((l.drop i).take n).length = n := by simp; omega
 rcases h with ⟨h, _⟩ | ⟨g', o', c1, h1, h2, h3⟩
 ·cases h
 ·cases h1
  refine .inr ⟨g, o + i * 11, c', by rw [hl], by rw [hl]; exact hc, fun j u hj => ?_⟩
  rw [cellsR_take, cellsR_drop, List.getElem?_take] at hj
  split at hj
  ·rw [List.getElem?_drop] at hj
   rw [Nat.add_assoc]; exact h3 _ _ hj
  ·cases hj
def FormR (v : Value) (l : List Rul) : Prop := (v = .slice none 0 0 ∧ l = []) ∨ ∃ g o c, v = .slice (some ⟨g, o, none⟩) l.length c ∧ l.length ≤ c
theorem IsTable.form {w : World} {v : Value} {l : List Rul} (h : IsTable w v l) : FormR v l := by
 rcases h with h | ⟨g, o, c, h1, h2, _⟩
 ·exact .inl h
 ·exact .inr ⟨g, o, c, h1, h2⟩
theorem FormR.view {v : Value} {l : List Rul} (h : FormR v l) : ∃ a c, v = .slice a l.length c ∧ (0 < l.length → ∃ g o, a = some ⟨g, o, none⟩) := by
 rcases h with ⟨rfl, rfl⟩ | ⟨g, o, c, rfl, _⟩
 ·exact ⟨none, 0, rfl, fun h => by simp at h⟩
 ·exact ⟨some ⟨g, o, none⟩, c, rfl, fun _ => ⟨g, o, rfl⟩⟩
theorem IsTable.cap {w : World} {a : Option Addr} {c : Nat} {l : List Rul} (h : IsTable w (.slice a l.length c) l) : l.length ≤ c := by
 rcases h with ⟨_, rfl⟩ | ⟨g, o, c', h1, h2, _⟩
 ·exact Nat.zero_le _
 ·cases h1; exact h2
section
variable {M : List Nat} {w0 w w' : World} {X : List Chunk} {R : List Row} {S : List Ro}
theorem Own.addTable (hO : Own [] w0 X R S w) {v : Value} {l : List Rul} (h : IsTable w0 v l) : Own [] w0 X R (roS v (cellsR l) ++ S) w := by
 rcases h with ⟨rfl, rfl⟩ | ⟨g, o, c, rfl, _, hr⟩
 ·exact hO
 ·exact hO.addOld ⟨g, o, cellsR l⟩ hr
theorem IsTable.keep0 {v : Value} {l : List Rul} (h : IsTable w0 v l) (hO : Own [] w0 X R S w) : IsTable w v l := h.keep hO.keep
theorem Own.isR (hO : Own M w0 X R S w) {v : Value} {l : List Rul} (hf : FormR v l) (hS : ∀ s ∈ roS v (cellsR l), s ∈ S) : IsTable w v l := by
 rcases hf with h | ⟨g, o, c, rfl, hc⟩
 ·exact .inl h
 ·exact .inr ⟨g, o, c, rfl, hc, hO.ro ⟨g, o, cellsR l⟩ (hS _ List.mem_cons_self)⟩
theorem Own.gainR (hO : Own M w0 X R S w) (hb : Below w.heap.size w w') {v : Value} {l : List Rul} (hv : IsTable w' v l) (hn : NewFrom w v) : Own M w0 X R (roS v (cellsR l) ++ S) w' := by
 have h1 := hO.call hb
 rcases hv with ⟨rfl, rfl⟩ | ⟨g, o, c, rfl, _, hr⟩
 ·exact h1
 ·refine h1.addRo ⟨g, o, cellsR l⟩ hr fun _ hm => ?_
  have h2 := hO.lt g hm
  have h3 := hn g rfl
  omega
end
theorem tk_match (l : List Rul) {k : Nat} (h : k < l.length) : List.take (bcs l[k].1).length (List.drop (k * 11) (cellsR l)) = bcs l[k].1 := by
 have h1 := congrArg (List.take 10) (tk_rule l h)
 rw [List.take_take, rlcs_length] at h1
 exact h1.trans (List.take_left' rfl)
theorem cr_permit (l : List Rul) {k : Nat} (h : k < l.length) : (cellsR l)[k * 11 + 10]? = some (.bool l[k].2) := by
 have h1 := congrArg (fun x => x[10]?) (tk_rule l h)
 simp only [List.getElem?_take, List.getElem?_drop] at h1
 rw [if_pos (by rw [rlcs_length]; omega)] at h1
 rw [h1]
 rfl
theorem tk_front (r : Rul) : List.take (bcs r.1).length (List.drop 0 (rlcs r)) = bcs r.1 := rfl
theorem one_boolT : OneT Tryz.prog 4 := ⟨_, Tryz.underlying4, rfl, by kernel_rfl⟩
theorem row_Rule : RowT Tryz.prog 100 11 := ⟨_, Tryz.underlying100, rfl, by kernel_rfl⟩
theorem slice_Table : SliceT Tryz.prog 24 100 11 44 := ⟨Tryz.underlying24, by omega, by
 obtain ⟨i, h1, h2, h3, h4⟩ := info_parts (show (Tryz.prog.info? 100).map (fun i => (i.zero, i.size, i.bytes)) = some (some (.agg (rlcs (zeroBx, false)).toArray), 11, 44) by kernel_rfl)
 exact ⟨i, _, h1, h2, h3, h4, rfl⟩⟩
theorem und_Table : Tryz.prog.underlying 24 = some (.slice 100) := Tryz.underlying24
theorem zero_Rule : ZeroT Tryz.prog 100 (rlcs (zeroBx, false)) := by unfold ZeroT; kernel_rfl
theorem one_table : OneT Tryz.prog 24 := ⟨_, Tryz.underlying24, rfl, by kernel_rfl⟩
section
variable {P : Program} {ops : Array Oper} {rest : List Oper} {o : Oper} {a : Act} {w w0 w' : World} {Q : Exit → Act → World → Prop} {M : List Nat} {X X' : List Chunk} {R : List Row} {S : List Ro}
theorem ldS9T {P : Program} {w : World} {t : TypeId} {n off : Nat} {v : Value} (hl : LoadsAt P w t n off v := by (first | (refine' ld_row ?ht (hO.range ?hm ?hv) ?hs; (case ht => (with_reducible (first | exact row_Box | exact row_Range | exact row_Header | exact row_Five | exact row_Tape | exact row_Prefix | exact row_Truths | exact row_Packet | exact row_Group | exact row_Rule))); (case hm => (repeat (first | exact List.mem_cons_self | refine List.mem_cons_of_mem _ ?_))); (case hv => (first | assumption | exact tk_rg _ (by assumption) | exact tk_box _ (by assumption) | exact tk_rule _ (by assumption) | exact tk_all _)); (case hs => rfl)) | (refine' ld_one ?ht (hO.cellAt ?hm ?hv); (case ht => (with_reducible (first | exact one_u32 | exact one_int | exact one_u16 | exact one_u8 | exact one_ints | exact one_bool | exact one_bytes | exact one_u64 | exact one_set | exact one_boxes | exact one_table | exact one_boolT))); (case hm => (repeat (first | exact List.mem_cons_self | refine List.mem_cons_of_mem _ ?_))); (case hv => (first | assumption | exact cr_permit _ (by assumption) | exact tcs5_at _ (by assumption) | exact ints_at (by assumption) | exact cb_lo _ (by assumption) (by assumption) | exact cb_hi _ (by assumption) (by assumption) | exact fcs_at _ (by assumption) | exact tops_get (by assumption) | exact bcs_lo _ (by assumption) | exact bcs_hi _ (by assumption) | rfl))) | (refine' ld_row ?ht (hO.roRange ?hm ?hv) ?hs; (case ht => (with_reducible (first | exact row_Box | exact row_Range | exact row_Header | exact row_Five | exact row_Tape | exact row_Prefix | exact row_Truths | exact row_Packet | exact row_Group | exact row_Rule))); (case hm => (repeat (first | exact List.mem_cons_self | refine List.mem_cons_of_mem _ ?_))); (case hv => (first | assumption | exact tk_rg _ (by assumption) | exact tk_box _ (by assumption) | exact tk_rule _ (by assumption) | exact tk_all _)); (case hs => rfl)) | (refine' ld_one ?ht (hO.roCell ?hm ?hv); (case ht => (with_reducible (first | exact one_u32 | exact one_int | exact one_u16 | exact one_u8 | exact one_ints | exact one_bool | exact one_bytes | exact one_u64 | exact one_set | exact one_boxes | exact one_table | exact one_boolT))); (case hm => (repeat (first | exact List.mem_cons_self | refine List.mem_cons_of_mem _ ?_))); (case hv => (first | assumption | exact cr_permit _ (by assumption) | exact tcs5_at _ (by assumption) | exact ints_at (by assumption) | exact cb_lo _ (by assumption) (by assumption) | exact cb_hi _ (by assumption) (by assumption) | exact fcs_at _ (by assumption) | exact tops_get (by assumption) | exact bcs_lo _ (by assumption) | exact bcs_hi _ (by assumption) | rfl))) | (refine' ld_row ?ht (hO.roRangeG ?hm ?hv) ?hs; (case ht => (with_reducible (first | exact row_Box | exact row_Range | exact row_Header | exact row_Five | exact row_Tape | exact row_Prefix | exact row_Truths | exact row_Packet | exact row_Group | exact row_Rule))); (case hm => (repeat (first | exact List.mem_cons_self | refine List.mem_cons_of_mem _ ?_))); (case hv => (first | assumption | exact tk_rg _ (by assumption) | exact tk_box _ (by assumption) | exact tk_rule _ (by assumption) | exact tk_all _)); (case hs => rfl)) | (refine' ld_one ?ht (hO.roCellG ?hm ?hv); (case ht => (with_reducible (first | exact one_u32 | exact one_int | exact one_u16 | exact one_u8 | exact one_ints | exact one_bool | exact one_bytes | exact one_u64 | exact one_set | exact one_boxes | exact one_table | exact one_boolT))); (case hm => (repeat (first | exact List.mem_cons_self | refine List.mem_cons_of_mem _ ?_))); (case hv => (first | assumption | exact cr_permit _ (by assumption) | exact tcs5_at _ (by assumption) | exact ints_at (by assumption) | exact cb_lo _ (by assumption) (by assumption) | exact cb_hi _ (by assumption) (by assumption) | exact fcs_at _ (by assumption) | exact tops_get (by assumption) | exact bcs_lo _ (by assumption) | exact bcs_hi _ (by assumption) | rfl))) | (refine' ld_row ?ht (hO.roRange3 ?hm ?hv) ?hs; (case ht => (with_reducible (first | exact row_Box | exact row_Range | exact row_Header | exact row_Five | exact row_Tape | exact row_Prefix | exact row_Truths | exact row_Packet | exact row_Group | exact row_Rule))); (case hm => (repeat (first | exact List.mem_cons_self | refine List.mem_cons_of_mem _ ?_))); (case hv => (first | assumption | exact tk_rg _ (by assumption) | exact tk_box _ (by assumption) | exact tk_rule _ (by assumption) | exact tk_all _)); (case hs => rfl)) | (refine' ld_row ?ht (hO.roRange0 ?hm ?hv) ?hs; (case ht => (with_reducible (first | exact row_Box | exact row_Range | exact row_Header | exact row_Five | exact row_Tape | exact row_Prefix | exact row_Truths | exact row_Packet | exact row_Group | exact row_Rule))); (case hm => (repeat (first | exact List.mem_cons_self | refine List.mem_cons_of_mem _ ?_))); (case hv => (first | exact tk_boxOne _ | exact tk_box0 _ (by assumption))); (case hs => rfl)) | (refine' ld_one ?ht (hO.roCell3 ?hm ?hv); (case ht => (with_reducible (first | exact one_u32 | exact one_int | exact one_u16 | exact one_u8 | exact one_ints | exact one_bool | exact one_bytes | exact one_u64 | exact one_set | exact one_boxes | exact one_table | exact one_boolT))); (case hm => (repeat (first | exact List.mem_cons_self | refine List.mem_cons_of_mem _ ?_))); (case hv => (first | assumption | exact cr_permit _ (by assumption) | exact tcs5_at _ (by assumption) | exact ints_at (by assumption) | exact cb_lo _ (by assumption) (by assumption) | exact cb_hi _ (by assumption) (by assumption) | exact fcs_at _ (by assumption) | exact tops_get (by assumption) | exact bcs_lo _ (by assumption) | exact bcs_hi _ (by assumption) | rfl))) | (refine' ld_one ?ht (hO.roCell4 ?hm ?hv); (case ht => (with_reducible (first | exact one_u32 | exact one_int | exact one_u16 | exact one_u8 | exact one_ints | exact one_bool | exact one_bytes | exact one_u64 | exact one_set | exact one_boxes | exact one_table | exact one_boolT))); (case hm => (repeat (first | exact List.mem_cons_self | refine List.mem_cons_of_mem _ ?_))); (case hv => (first | assumption | exact cr_permit _ (by assumption) | exact tcs5_at _ (by assumption) | exact ints_at (by assumption) | exact cb_lo _ (by assumption) (by assumption) | exact cb_hi _ (by assumption) (by assumption) | exact fcs_at _ (by assumption) | exact tops_get (by assumption) | exact bcs_lo _ (by assumption) | exact bcs_hi _ (by assumption) | rfl))) | (refine' ld_row ?ht (hO.rowRange ?hm ?hv) ?hs; (case ht => (with_reducible (first | exact row_Box | exact row_Range | exact row_Header | exact row_Five | exact row_Tape | exact row_Prefix | exact row_Truths | exact row_Packet | exact row_Group | exact row_Rule))); (case hm => (repeat (first | exact List.mem_cons_self | refine List.mem_cons_of_mem _ ?_))); (case hv => (first | assumption | exact tk_rg _ (by assumption) | exact tk_box _ (by assumption) | exact tk_rule _ (by assumption) | exact tk_all _)); (case hs => rfl)) | (refine' ld_one ?ht (hO.rowCell ?hm ?hv); (case ht => (with_reducible (first | exact one_u32 | exact one_int | exact one_u16 | exact one_u8 | exact one_ints | exact one_bool | exact one_bytes | exact one_u64 | exact one_set | exact one_boxes | exact one_table | exact one_boolT))); (case hm => (repeat (first | exact List.mem_cons_self | refine List.mem_cons_of_mem _ ?_))); (case hv => (first | assumption | exact cr_permit _ (by assumption) | exact tcs5_at _ (by assumption) | exact ints_at (by assumption) | exact cb_lo _ (by assumption) (by assumption) | exact cb_hi _ (by assumption) (by assumption) | exact fcs_at _ (by assumption) | exact tops_get (by assumption) | exact bcs_lo _ (by assumption) | exact bcs_hi _ (by assumption) | rfl))) | (refine' ld_row ?ht (hO.range ?hm ?hv) ?hs; (case ht => (with_reducible (first | exact row_Box | exact row_Range | exact row_Header | exact row_Five | exact row_Tape | exact row_Prefix | exact row_Truths | exact row_Packet | exact row_Group | exact row_Rule))); (case hm => (repeat (first | exact List.mem_cons_self | refine List.mem_cons_of_mem _ ?_))); (case hv => (exact tk_front _)); (case hs => rfl)) | (refine' ld_row ?ht (hO.roRange ?hm ?hv) ?hs; (case ht => (with_reducible (first | exact row_Box | exact row_Range | exact row_Header | exact row_Five | exact row_Tape | exact row_Prefix | exact row_Truths | exact row_Packet | exact row_Group | exact row_Rule))); (case hm => (repeat (first | exact List.mem_cons_self | refine List.mem_cons_of_mem _ ?_))); (case hv => (exact tk_match _ (by assumption))); (case hs => rfl)) | (refine' ld_row ?ht (hO.roRangeG ?hm ?hv) ?hs; (case ht => (with_reducible (first | exact row_Box | exact row_Range | exact row_Header | exact row_Five | exact row_Tape | exact row_Prefix | exact row_Truths | exact row_Packet | exact row_Group | exact row_Rule))); (case hm => (repeat (first | exact List.mem_cons_self | refine List.mem_cons_of_mem _ ?_))); (case hv => (exact tk_match _ (by assumption))); (case hs => rfl)))) : LoadsAt P w t n off v := hl
theorem own_ldT (hw : Region.wanted o (yielded ops a.tmps) = true := by rfl) {t : TypeId} {x : Operand} (ho : o.op = .load t x := by rfl) {n off : Nat} (hx : a.eval x = .pointer (some ⟨n, off, none⟩) := by rfl) {v : Value}
  (hl : LoadsAt P w t n off v := by exact ldS9T)
  (h : wpList P ops Q rest (a.put o.dst v) w) : wpList P ops Q (o :: rest) a w :=
 wpList_val hw _ _ (rx_ld ho hx hl) h
theorem q_ldT {K : Act → Prop} {t : TypeId} {x : Operand} (ho : o.op = .load t x := by rfl) {n off : Nat} (hx : a.eval x = .pointer (some ⟨n, off, none⟩) := by rfl) {v : Value}
  (hl : ∀ wq, Own M w0 X R S wq → LoadsAt P wq t n off v := by (intro wq hO; exact ldS9T))
  (h : K (a.put o.dst v)) : o.quiet P a (Own M w0 X R S) K := q_val _ (fun _ hO => rx_ld ho hx (hl _ hO)) h
theorem own_stRT (hO : Own M w0 X R S w) (hw : Region.wanted o (yielded ops a.tmps) = true := by rfl) {t : TypeId} {x y : Operand} (ho : o.op = .store t x y := by rfl) {n off s : Nat} (hx : a.eval x = .pointer (some ⟨n, off, none⟩) := by rfl)
  {vs : List Value} (hy : a.eval y = .agg vs.toArray := by rfl) (ht : RowT P t s := by (with_reducible (first | exact row_Box | exact row_Range | exact row_Header | exact row_Five | exact row_Tape | exact row_Prefix | exact row_Truths | exact row_Packet | exact row_Group | exact row_Rule))) (hs : vs.length = s := by rfl) {cs cs2 : List Value} {t' : TypeId} (hu : Upd X ⟨n, cs, t'⟩ ⟨n, cs2, t'⟩ X' := by (repeat (first | exact Upd.here | apply Upd.there))) (hn : putAt cs off vs = cs2 := by (first | exact bput_rg (by assumption) | exact putAt_all _ _ rfl | rfl)) (hl : off + s ≤ cs.length := by (first | (simp; done) | (show _ < 10; omega) | (show _ < 5; omega) | (show _ ≤ 10; omega) | (show _ ≤ 11; omega) | omega)) (h1 : vs.all (·.oneCell') = true := by rfl)
  (h : ∀ w', Own M w0 X' R S w' → wpList P ops Q rest (a.put o.dst undef) w') : wpList P ops Q (o :: rest) a w := by
 subst hn
 exact own_store hO hw ho hx hy ht hs hu hl h1 h
theorem own_alT (hO : Own M w0 X R S w) (hw : Region.wanted o (yielded ops a.tmps) = true := by rfl) {t : TypeId} (ho : o.op = .alloc t := by rfl) {cs : List Value} (hz : ZeroT P t cs := by (with_reducible (first | exact zero_Rule | exact zero_Group | exact zero_Truths | exact zero_Packet | exact zero_Set | exact zero_Prefix | exact zero_Box | exact zero_Range | exact zero_Five | exact zero_Header)))
  (h : ∀ n w', Own M w0 (⟨n, cs, t⟩ :: X) R S w' → wpList P ops Q rest (a.put o.dst (.pointer (some ⟨n, 0, none⟩))) w') : wpList P ops Q (o :: rest) a w := own_alloc hO hw ho hz h
theorem own_apT (hO : Own M w0 X R S w) (hgd : o.guard = none := by rfl) {s x : Operand} {t e : TypeId} (ho : o.op = .call { callee := .builtin .append, args := #[s, x], argTypes := #[t, t] } := by rfl) {size bytes : Nat} (ht : SliceT P t e size bytes := by (with_reducible (first | exact slice_Boxes | exact slice_Set | exact slice_u8 | exact slice_u64 | exact slice_Groups | exact slice_Ranges | exact slice_Table)))
  {v : Value} (hs : a.eval s = v := by rfl) {b m c : Nat} (hx : a.eval x = .slice (some ⟨b, 0, none⟩) m c := by rfl) {news : List Value} {t' : TypeId} (hm : (⟨b, news, t'⟩ : Chunk) ∈ X := by (repeat (first | exact List.mem_cons_self | refine List.mem_cons_of_mem _ ?_))) (hl : news.length = m * size := by rfl) (hm0 : 0 < m := by omega) (h1 : news.all (·.oneCell') = true := by rfl)
  {k : Nat} {xs : List Value} {R1 : Nat → Nat → List Row} (hu : ∀ g cap, UpdR R ⟨v, k, xs, e, size⟩ ⟨.slice (some ⟨g, 0, none⟩) (k + m) cap, k + m, xs ++ news, e, size⟩ (R1 g cap) := by (intro _ _; (repeat (first | exact UpdR.here | apply UpdR.there)))) (hbytes : (k + m) * bytes ≤ 140737488355328 := by (first | omega | (simp; omega))) (hk : k + m ≤ maxLen := by (unfold maxLen; (first | omega | (simp; omega))))
  (h : ∀ g cap w', Own M w0 X (R1 g cap) S w' → wpList P ops Q rest (a.put o.dst (.slice (some ⟨g, 0, none⟩) (k + m) cap)) w') : wpList P ops Q (o :: rest) a w :=
 own_append hO hgd ho ht hs hx hm hl hm0 h1 hu hbytes hk h
theorem ldNT {t : TypeId} {x : Operand} {n off : Nat} {v : Value} (h : wpList P ops Q rest (a.put o.dst v) w) (ho : o.op = .load t x := by rfl) (hw : Region.wanted o (yielded ops a.tmps) = true := by rfl) (hx : a.eval x = .pointer (some ⟨n, off, none⟩) := by rfl) (hl : LoadsAt P w t n off v := by exact ldS9T) : wpList P ops Q (o :: rest) a w :=
 own_ldT (hw := hw) (ho := ho) (hx := hx) (hl := hl) (h := h)
theorem stNT {t : TypeId} {x y : Operand} {n off s : Nat} {vs : List Value} {cs cs2 : List Value} {t' : TypeId} (hO : Own M w0 X R S w) (h : ∀ w', Own M w0 X' R S w' → wpList P ops Q rest (a.put o.dst undef) w') (ho : o.op = .store t x y := by rfl) (hw : Region.wanted o (yielded ops a.tmps) = true := by rfl) (hx : a.eval x = .pointer (some ⟨n, off, none⟩) := by rfl) (hy : a.eval y = .agg vs.toArray := by rfl) (ht : RowT P t s := by (with_reducible (first | exact row_Box | exact row_Range | exact row_Header | exact row_Five | exact row_Tape | exact row_Prefix | exact row_Truths | exact row_Packet | exact row_Group | exact row_Rule))) (hs : vs.length = s := by rfl) (hu : Upd X ⟨n, cs, t'⟩ ⟨n, cs2, t'⟩ X' := by (repeat (first | exact Upd.here | apply Upd.there))) (hn : putAt cs off vs = cs2 := by (first | exact bput_rg (by assumption) | exact putAt_all _ _ rfl | rfl)) (hl : off + s ≤ cs.length := by (first | (simp; done) | (show _ < 10; omega) | (show _ < 5; omega) | (show _ ≤ 10; omega) | (show _ ≤ 11; omega) | omega)) (h1 : vs.all (·.oneCell') = true := by rfl) : wpList P ops Q (o :: rest) a w :=
 own_stRT (hO := hO) (hw := hw) (ho := ho) (hx := hx) (hy := hy) (ht := ht) (hs := hs) (hu := hu) (hn := hn) (hl := hl) (h1 := h1) (h := h)
theorem al9T {t : TypeId} {cs : List Value} (d : Nat) (hO : Own M w0 X R S w) (h : ∀ n w', Own M w0 (⟨n, cs, t⟩ :: X) R S w' → wpList P ops Q rest (a.put o.dst (.pointer (some ⟨n, 0, none⟩))) w') (_hd : o.dst = some d := by rfl) (ho : o.op = .alloc t := by rfl) (hw : Region.wanted o (yielded ops a.tmps) = true := by rfl) (hz : ZeroT P t cs := by (with_reducible (first | exact zero_Rule | exact zero_Group | exact zero_Truths | exact zero_Packet | exact zero_Set | exact zero_Prefix | exact zero_Box | exact zero_Range | exact zero_Five | exact zero_Header))) : wpList P ops Q (o :: rest) a w :=
 own_alT (hO := hO) (hw := hw) (ho := ho) (hz := hz) (h := h)
theorem ap9T {s x : Operand} {t e : TypeId} {size bytes : Nat} {v : Value} {b m c : Nat} {news : List Value} {t' : TypeId} {k : Nat} {xs : List Value} {R1 : Nat → Nat → List Row} (d : Nat) (hO : Own M w0 X R S w) (h : ∀ g cap w', Own M w0 X (R1 g cap) S w' → wpList P ops Q rest (a.put o.dst (.slice (some ⟨g, 0, none⟩) (k + m) cap)) w') (_hd : o.dst = some d := by rfl) (ho : o.op = .call { callee := .builtin .append, args := #[s, x], argTypes := #[t, t] } := by rfl) (hgd : o.guard = none := by rfl) (ht : SliceT P t e size bytes := by (with_reducible (first | exact slice_Boxes | exact slice_Set | exact slice_u8 | exact slice_u64 | exact slice_Groups | exact slice_Ranges | exact slice_Table))) (hs : a.eval s = v := by rfl) (hx : a.eval x = .slice (some ⟨b, 0, none⟩) m c := by rfl) (hm : (⟨b, news, t'⟩ : Chunk) ∈ X := by (repeat (first | exact List.mem_cons_self | refine List.mem_cons_of_mem _ ?_))) (hl : news.length = m * size := by rfl) (hm0 : 0 < m := by omega) (h1 : news.all (·.oneCell') = true := by rfl) (hu : ∀ g cap, UpdR R ⟨v, k, xs, e, size⟩ ⟨.slice (some ⟨g, 0, none⟩) (k + m) cap, k + m, xs ++ news, e, size⟩ (R1 g cap) := by (intro _ _; (repeat (first | exact UpdR.here | apply UpdR.there)))) (hbytes : (k + m) * bytes ≤ 140737488355328 := by (first | omega | (simp; omega))) (hk : k + m ≤ maxLen := by (unfold maxLen; (first | omega | (simp; omega)))) : wpList P ops Q (o :: rest) a w :=
 own_apT (hO := hO) (hgd := hgd) (ho := ho) (ht := ht) (hs := hs) (hx := hx) (hm := hm) (hl := hl) (hm0 := hm0) (h1 := h1) (hu := hu) (hbytes := hbytes) (hk := hk) (h := h)
theorem bl9T {t e : TypeId} {x : Operand} {vs : List Value} (d : Nat) (hO : Own M w0 X R S w) (h : ∀ n w', Own M w0 (⟨n, vs, e⟩ :: X) R S w' → wpList P ops Q rest (a.put o.dst (.slice (some ⟨n, 0, none⟩) 1 1)) w') (_hd : o.dst = some d := by rfl) (ho : o.op = .buildSlice t 1 #[(0, x)] := by exact rfl) (hw : Region.wanted o (yielded ops a.tmps) = true := by rfl) (hx : a.eval x = .agg vs.toArray := by exact rfl) (hu : P.underlying t = some (.slice e) := by (with_reducible (first | exact und_Table))) (hf : Program.builtSlice P e 1 [(0, .agg vs.toArray)] = some vs.toArray := by kernel_rfl) : wpList P ops Q (o :: rest) a w :=
 own_build1 (hO := hO) (hw := hw) (ho := ho) (hx := hx) (hu := hu) (hf := hf) (h := h)
end
theorem run_rule (b : Bx) (p : Bool) (w : World) : (Instr.build 100 #[(0, bv b), (1, .bool p)]).run Tryz.prog w = .ok (rlv (b, p)) w := run_build w _ _ _ (by kernel_rfl)
theorem run_rule0 (b : Bx) (w : World) : (Instr.build 100 #[(0, bv b)]).run Tryz.prog w = .ok (rlv (b, false)) w := run_build w _ _ _ (by kernel_rfl)
attribute [go_sem high] run_rule run_rule0
end Go.Proofs.YtbdfblgdmappeaaGreatDoor
