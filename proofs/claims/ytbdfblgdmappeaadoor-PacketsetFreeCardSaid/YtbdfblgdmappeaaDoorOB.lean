/- Tables of rules: what they permit, what a rule decides. No program in sight. -/
import Derived.Test.YtbdfblgdmappeaaDoorMV
import Derived.Test.YtbdfblgdmappeaaDoorMS
import Derived.Test.YtbdfblgdmappeaaDoorMD
import Derived.Test.YtbdfblgdmappeaaDoorNJ
import Derived.Test.YtbdfblgdmappeaaDoorNC
import Derived.Test.YtbdfblgdmappeaaDoorMC
import Derived.Test.YtbdfblgdmappeaaDoorMN
import Derived.Test.YtbdfblgdmappeaaDoorMB
namespace Go.Proofs.YtbdfblgdmappeaaDoor
open Go.RowKit
abbrev Rul := Bx × Bool
def leftF : List Rul → Option (List Bx) → Option (List Bx)
 | [], s => s
 | r :: t, s => leftF t (match s with
  | none => none
  | some x => ofF exB x [r.1])
def effF (t : List Rul) (i : Nat) : Option (List Bx) := match t[i]? with
 | none => none
 | some r => leftF (t.take i) (makeF [r.1])
theorem of_at (p : Nat → Int) {k : Nat} (hk : k < 5) : (Hd.of p).at k = p k := by
 rcases five hk with rfl | rfl | rfl | rfl | rfl <;> rfl
def pruneG : List Rul → List Rul → Option (List Rul)
 | _, [] => some []
 | pre, r :: t => match leftF pre (makeF [r.1]) with
  | none => none
  | some s => match pruneG (pre ++ [r]) t with
   | none => none
   | some y => some (if s.isEmpty then y else r :: y)
theorem effF_left {t : List Rul} {i : Nat} (hi : i < t.length) : effF t i = leftF (t.take i) (makeF [t[i].1]) := by
 unfold effF
 rw [List.getElem?_eq_getElem hi]
theorem prune_step {t : List Rul} {k : Nat} (hk : k < t.length) : pruneG (t.take k) (t.drop k) = match effF t k with
  | none => none
  | some s => match pruneG (t.take (k + 1)) (t.drop (k + 1)) with
   | none => none
   | some y => some (if s.isEmpty then y else t[k] :: y) := by
 rw [effF_left hk, List.drop_eq_getElem_cons hk, pruneG, List.take_succ_eq_append_getElem hk]
def prK (t : List Rul) (k : Nat) (out : List Rul) : Prop := pruneG [] t = (pruneG (t.take k) (t.drop k)).map (out ++ ·)
theorem prK.no {t out : List Rul} {k : Nat} (h : prK t k out) (hk : k < t.length) (e : effF t k = none) : pruneG [] t = none := by
 unfold prK at h
 rw [h, prune_step hk, e]
 rfl
theorem prK.yes {t out : List Rul} {k : Nat} (h : prK t k out) (hk : k < t.length) {s : List Bx} (e : effF t k = some s) : prK t (k + 1) (if s.isEmpty then out else out ++ [t[k]]) := by
 unfold prK at h ⊢
 rw [h, prune_step hk, e]
 dsimp only
 cases pruneG (t.take (k + 1)) (t.drop (k + 1)) with
 | none => rfl
 | some y => cases s.isEmpty <;> simp
theorem prK.done {t out : List Rul} (h : prK t t.length out) : pruneG [] t = some out := by
 unfold prK at h
 rw [h, List.drop_length, pruneG]
 simp
def joinG : List Grp → List Grp → List Grp
 | gs, [] => gs
 | gs, g :: G => joinG (addG g.r g.rest gs) G
def upG : List Grp → Prop
 | [] => True
 | g :: G => g.r.lo ≤ g.r.hi ∧ (∀ x ∈ G, g.r.hi < x.r.lo) ∧ upG G
theorem joinG_spec {f n : Nat} (hf : f < 5) : ∀ {G gs : List Grp}, NG gs → upG G → (∀ g ∈ gs, ∀ x ∈ G, g.r.hi < x.r.lo) → (∀ g ∈ gs, 0 ≤ g.r.lo ∧ g.r.hi ≤ topOf f ∧ Cn (f + 1) n g.rest) → (∀ g ∈ G, 0 ≤ g.r.lo ∧ g.r.hi ≤ topOf f ∧ Cn (f + 1) n g.rest) →
  NG (joinG gs G) ∧ (∀ g ∈ joinG gs G, 0 ≤ g.r.lo ∧ g.r.hi ≤ topOf f ∧ Cn (f + 1) n g.rest) ∧ total (joinG gs G) ≤ total gs + total G ∧
  ∀ h : Nat → Int, inL (f + 1) (lk (h f) (joinG gs G)) h ↔ inL (f + 1) (lk (h f) gs) h ∨ ∃ g ∈ G, (g.r.lo ≤ h f ∧ h f ≤ g.r.hi) ∧ inL (f + 1) g.rest h
 | [], gs, hN, _, _, hb, _ => ⟨hN, hb, by simp [joinG], fun h => by simp [joinG]⟩
 | g :: G, gs, hN, hu, hap, hb, hB => by
  obtain ⟨a1, a2, a3, a4⟩ := addG_spec (rest := g.rest) hu.1 hN (fun x hx => hap x hx g (by simp))
  have hg := hB g (by simp)
  obtain ⟨i1, i2, i3, i4⟩ := joinG_spec (n := n) hf (G := G) a1 hu.2.2 (fun x hx y hy => by have := a2 x hx; have := hu.2.1 y hy; omega) (fun x hx => by
   have hhi := a2 x hx
   rcases a4 x hx with ⟨y, hy, c1, c2⟩ | ⟨c1, c2⟩
   ·have := hb y hy
    exact ⟨by rw [c1]; exact this.1, by omega, by rw [c2]; exact this.2.2⟩
   ·exact ⟨by rw [c1]; exact hg.1, by omega, by rw [c2]; exact hg.2.2⟩) (fun x hx => hB x (by simp [hx]))
  refine ⟨i1, i2, ?_, fun h => ?_⟩
  ·have := (total_addG g.r g.rest gs).2
   rw [joinG, total_cons]
   omega
  ·rw [joinG, i4 h, a3]
   by_cases c : g.r.lo ≤ h f ∧ h f ≤ g.r.hi
   ·rw [if_pos c, lk_above (gs := gs) (fun x hx => by have := hap x hx g (by simp); omega)]
    constructor
    ·rintro (h1 | ⟨x, hx, h1⟩)
     ·exact .inr ⟨g, by simp, c, h1⟩
     ·exact .inr ⟨x, by simp [hx], h1⟩
    ·rintro (h1 | ⟨x, hx, h1⟩)
     ·exact absurd h1 inL_nil
     ·rcases List.mem_cons.1 hx with rfl | hx
      ·exact .inl h1.2
      ·exact .inr ⟨x, hx, h1⟩
   ·rw [if_neg c]
    constructor
    ·rintro (h1 | ⟨x, hx, h1⟩)
     ·exact .inl h1
     ·exact .inr ⟨x, by simp [hx], h1⟩
    ·rintro (h1 | ⟨x, hx, h1⟩)
     ·exact .inl h1
     ·rcases List.mem_cons.1 hx with rfl | hx
      ·exact absurd h1.1 c
      ·exact .inr ⟨x, hx, h1⟩
theorem suffix_flatMap {α β : Type} {F : α → List β} : ∀ {gs : List α} {p : List β}, p <:+ gs.flatMap F → ∃ B, (∃ A, gs = A ++ B ∧ p = B.flatMap F) ∨ ∃ A g q, gs = A ++ g :: B ∧ q <:+ F g ∧ p = q ++ B.flatMap F
 | [], p, h => ⟨[], .inl ⟨[], rfl, by simpa using h⟩⟩
 | g :: gs, p, ⟨t, ht⟩ => by
  rw [List.flatMap_cons] at ht
  by_cases hl : p.length ≤ (gs.flatMap F).length
  ·have : p <:+ gs.flatMap F := List.suffix_of_suffix_length_le ⟨t, ht⟩ ⟨F g, rfl⟩ hl
   obtain ⟨B, h | ⟨A, x, q, h1, h2, h3⟩⟩ := suffix_flatMap this
   ·obtain ⟨A, h1, h2⟩ := h
    exact ⟨B, .inl ⟨g :: A, by rw [h1]; rfl, h2⟩⟩
   ·exact ⟨B, .inr ⟨g :: A, x, q, by rw [h1]; rfl, h2, h3⟩⟩
  ·obtain ⟨q, hq⟩ : gs.flatMap F <:+ p := List.suffix_of_suffix_length_le ⟨F g, rfl⟩ ⟨t, ht⟩ (by omega)
   subst hq
   rw [← List.append_assoc, List.append_cancel_right_eq] at ht
   exact ⟨gs, .inr ⟨[], g, q, rfl, ⟨t, ht⟩, rfl⟩⟩
theorem suffix_map {α β : Type} {F : α → β} {l : List α} {q : List β} (h : q <:+ l.map F) : ∃ r, r <:+ l ∧ q = r.map F := by
 obtain ⟨t, ht⟩ := h
 refine ⟨l.drop t.length, List.drop_suffix _ _, ?_⟩
 rw [List.map_drop, ← ht, List.drop_left']
 rfl
theorem NG.up : ∀ {gs : List Grp}, NG gs.reverse → upG gs
 | [], _ => trivial
 | g :: gs, h => by
  rw [List.reverse_cons] at h
  have hup : ∀ {A : List Grp}, NG (A ++ [g]) → NG A := by
   intro A
   induction A with
   | nil => intro _; trivial
   | cons x A ih =>
    intro h
    have h1 := ih h.tail
    cases A with
    | nil => exact h.head
    | cons y A => exact ⟨h.1, h.2.1, h.2.2.1, h.2.2.2.1, h1⟩
  have hlo : ∀ {A : List Grp}, NG (A ++ [g]) → ∀ x ∈ A, g.r.hi < x.r.lo := by
   intro A
   induction A with
   | nil => intro _ x hx; cases hx
   | cons y A ih =>
    intro h x hx
    rcases List.mem_cons.1 hx with rfl | hx
    ·exact h.below g (by simp)
    ·exact ih h.tail x hx
  exact ⟨(NG.suffix h).head.1, fun x hx => hlo h x (List.mem_reverse.2 hx), NG.up (hup h)⟩
theorem upG.suffix : ∀ {A B : List Grp}, upG (A ++ B) → upG B
 | [], _, h => h
 | _ :: A, _, h => upG.suffix (A := A) h.2.2
theorem mem_one {f : Nat} (hf : f < 5) {g : Rg} {r : List Bx} {h : Nat → Int} : inL f (r.map fun x => x.set f g) h ↔ (g.lo ≤ h f ∧ h f ≤ g.hi) ∧ inL (f + 1) r h := by
 unfold inL
 constructor
 ·rintro ⟨b, hb, hb'⟩
  obtain ⟨y, hy, rfl⟩ := List.mem_map.1 hb
  obtain ⟨c1, c2⟩ := (inB_split hf).1 hb'
  rw [Bx.at_set _ _ _ hf, if_pos rfl] at c1
  exact ⟨c1, y, hy, (inB_set (by omega)).1 c2⟩
 ·rintro ⟨c1, y, hy, c2⟩
  refine ⟨_, List.mem_map.2 ⟨y, hy, rfl⟩, (inB_split hf).2 ⟨?_, (inB_set (by omega)).2 c2⟩⟩
  rw [Bx.at_set _ _ _ hf, if_pos rfl]; exact c1
theorem mem_flat {f : Nat} (hf : f < 5) : ∀ {G : List Grp} {h : Nat → Int}, inL f (flatG f G) h ↔ ∃ g ∈ G, (g.r.lo ≤ h f ∧ h f ≤ g.r.hi) ∧ inL (f + 1) g.rest h
 | [], h => by
  constructor
  ·intro h1; exact absurd h1 inL_nil
  ·rintro ⟨g, hg, _⟩; cases hg
 | g :: G, h => by
  have e : flatG f (g :: G) = (g.rest.map fun x => x.set f g.r) ++ flatG f G := rfl
  rw [e, inL_append, mem_one hf, mem_flat hf]
  constructor
  ·rintro (h1 | ⟨x, hx, h1⟩)
   ·exact ⟨g, by simp, h1⟩
   ·exact ⟨x, by simp [hx], h1⟩
  ·rintro ⟨x, hx, h1⟩
   rcases List.mem_cons.1 hx with rfl | hx
   ·exact .inl h1
   ·exact .inr ⟨x, hx, h1⟩
theorem Cn.back : ∀ {n f : Nat}, f + n = 5 → ∀ {l p : List Bx}, Cn f n l → p <:+ l → ∃ m, Cn f n m ∧ m.length ≤ p.length ∧ ∀ h, inL f m h ↔ inL f p h
 | 0, f, hfn, l, p, hl, hp => by
  refine ⟨p, ?_, Nat.le_refl _, fun _ => Iff.rfl⟩
  rcases hl with rfl | rfl
  ·exact .inl (List.suffix_nil.1 hp)
  ·obtain ⟨t, ht⟩ := hp
   cases t with
   | nil => exact .inr (by simpa using ht)
   | cons x t => simp at ht; exact .inl ht.2.2
 | n + 1, f, hfn, l, p, ⟨gs, gN, gb, gl⟩, hp => by
  have hf : f < 5 := by omega
  subst gl
  have hU : upG gs.reverse := NG.up (by rw [List.reverse_reverse]; exact gN)
  have gb' : ∀ g ∈ gs.reverse, 0 ≤ g.r.lo ∧ g.r.hi ≤ topOf f ∧ Cn (f + 1) n g.rest := fun g hg => gb g (List.mem_reverse.1 hg)
  obtain ⟨B, ⟨A, e, e3⟩ | ⟨A, g, q, e, hq, e3⟩⟩ := suffix_flatMap hp
  ·rw [e] at hU gb'
   have hB := upG.suffix hU
   obtain ⟨i1, i2, i3, i4⟩ := joinG_spec (n := n) hf (gs := []) (G := B) trivial hB (fun x hx => by cases hx) (fun x hx => by cases hx) fun x hx => gb' x (by simp [hx])
   refine ⟨flatG f (joinG [] B).reverse, ⟨_, i1, i2, rfl⟩, ?_, fun h => ?_⟩
   ·rw [flatG_rev_length, e3]
    have : (B.flatMap fun g => g.rest.map fun x => x.set f g.r).length = total B := flatG_length f B
    rw [this]
    simpa [total] using i3
   ·rw [inL_flatG hf i1, i4, e3]
    have : inL f (B.flatMap fun g => g.rest.map fun x => x.set f g.r) h ↔ _ := mem_flat hf (G := B) (h := h)
    rw [this]
    exact ⟨fun h1 => h1.elim (fun h2 => absurd h2 inL_nil) id, .inr⟩
  ·rw [e] at hU gb'
   have hB := upG.suffix hU
   have hg := gb' g (by simp)
   obtain ⟨r, hr, hq'⟩ := suffix_map hq
   obtain ⟨m, hm, hml, hme⟩ := Cn.back (show f + 1 + n = 5 by omega) hg.2.2 hr
   obtain ⟨i1, i2, i3, i4⟩ := joinG_spec (n := n) hf (gs := []) (G := ⟨g.r, m⟩ :: B) trivial hB (fun x hx => by cases hx) (fun x hx => by cases hx) fun x hx => by
    rcases List.mem_cons.1 hx with rfl | hx
    ·exact ⟨hg.1, hg.2.1, hm⟩
    ·exact gb' x (by simp [hx])
   refine ⟨flatG f (joinG [] (⟨g.r, m⟩ :: B)).reverse, ⟨_, i1, i2, rfl⟩, ?_, fun h => ?_⟩
   ·rw [flatG_rev_length, e3, List.length_append, hq', List.length_map]
    have : (B.flatMap fun g => g.rest.map fun x => x.set f g.r).length = total B := flatG_length f B
    rw [this]
    rw [total_cons] at i3
    have h0 : total [] = 0 := rfl
    dsimp only at i3
    omega
   ·rw [inL_flatG hf i1, i4, e3, inL_append, hq', mem_one hf]
    have : inL f (B.flatMap fun g => g.rest.map fun x => x.set f g.r) h ↔ _ := mem_flat hf (G := B) (h := h)
    rw [this]
    constructor
    ·rintro (h1 | ⟨x, hx, h1, h2⟩)
     ·exact absurd h1 inL_nil
     ·rcases List.mem_cons.1 hx with rfl | hx
      ·exact .inl ⟨h1, (hme h).1 h2⟩
      ·exact .inr ⟨x, hx, h1, h2⟩
    ·rintro (⟨h1, h2⟩ | ⟨x, hx, h1⟩)
     ·exact .inr ⟨_, List.mem_cons_self, h1, (hme h).2 h2⟩
     ·exact .inr ⟨x, by simp [hx], h1⟩
theorem EndsAt.sub {N : Nat} {e : Nat → List Int} {l m : List Bx} (h : EndsAt N e l) (hm : ∀ b ∈ m, b ∈ l) : EndsAt N e m := fun k hk => ⟨(h k hk).1, fun b hb => (h k hk).2 b (hm b hb)⟩
section
variable {x y : List Rul} {a b : List Bx}
end
set_option maxRecDepth 100000
def rlcs (r : Rul) : List Value := bcs r.1 ++ [.bool r.2]
theorem rlcs_length (r : Rul) : (rlcs r).length = 11 := rfl
def cellsR : List Rul → List Value
 | [] => []
 | b :: l => rlcs b ++ cellsR l
def IsTable (w : World) (v : Value) (l : List Rul) : Prop :=
 (v = .slice none 0 0 ∧ l = []) ∨ ∃ g o c, v = .slice (some ⟨g, o, none⟩) l.length c ∧ l.length ≤ c ∧ w.rangeAt g o (cellsR l)
theorem IsTable.view {w : World} {v : Value} {l : List Rul} (h : IsTable w v l) : ∃ a c, v = .slice a l.length c ∧ (0 < l.length → ∃ g o, a = some ⟨g, o, none⟩) := by
 rcases h with ⟨rfl, rfl⟩ | ⟨g, o, c, rfl, _, _⟩
 ·exact ⟨none, 0, rfl, fun h => by simp at h⟩
 ·exact ⟨some ⟨g, o, none⟩, c, rfl, fun _ => ⟨g, o, rfl⟩⟩
theorem IsTable.keep {w w' : World} {v : Value} {l : List Rul} (h : IsTable w v l) (hk : Keep [] w w') : IsTable w' v l := by
 rcases h with h | ⟨g, o, c, h1, h2, h3⟩
 ·exact .inl h
 ·refine .inr ⟨g, o, c, h1, h2, fun j u hj => ?_⟩
  have h4 := h3 j u hj
  rw [World.cell?_of_block (w := w) (hk.block _ (World.block_lt_of_cell? w _ h4) (by simp))]; exact h4
theorem cellsR_take (l : List Rul) (k : Nat) : cellsR (l.take k) = (cellsR l).take (k * 11) := by
 induction l generalizing k with
 | nil => simp [cellsR]
 | cons b l ih =>
  cases k with
  | zero => simp [cellsR]
  | succ k =>
   simp only [List.take_succ_cons, cellsR, ih]
   rw [show (k + 1) * 11 = (rlcs b).length + k * 11 by rw [rlcs_length]; omega, List.take_length_add_append]
theorem cellsR_drop (l : List Rul) (k : Nat) : cellsR (l.drop k) = (cellsR l).drop (k * 11) := by
 induction l generalizing k with
 | nil => simp [cellsR]
 | cons b l ih =>
  cases k with
  | zero => simp [cellsR]
  | succ k =>
   simp only [List.drop_succ_cons, cellsR, ih]
   rw [show (k + 1) * 11 = (rlcs b).length + k * 11 by rw [rlcs_length]; omega, List.drop_length_add_append]
theorem IsTable.part {w : World} {g o k c : Nat} {l : List Rul} (h : IsTable w (.slice (some ⟨g, o, none⟩) k c) l) (i n c' : Nat) (hi : i + n ≤ l.length) (hc : n ≤ c') : IsTable w (.slice (some ⟨g, o + i * 11, none⟩) n c') ((l.drop i).take n) := by
 have hl : ((l.drop i).take n).length = n := by simp; omega
 rcases h with ⟨h, _⟩ | ⟨g', o', c1, h1, h2, h3⟩
 ·cases h
 ·cases h1
  refine .inr ⟨g, o + i * 11, c', by rw [hl], by rw [hl]; exact hc, fun j u hj => ?_⟩
  rw [cellsR_take, cellsR_drop, List.getElem?_take] at hj
  split at hj
  ·rw [List.getElem?_drop] at hj
   rw [Nat.add_assoc]; exact h3 _ _ hj
  ·cases hj
def FormR (v : Value) (l : List Rul) : Prop := (v = .slice none 0 0 ∧ l = []) ∨ ∃ g o c, v = .slice (some ⟨g, o, none⟩) l.length c ∧ l.length ≤ c
theorem IsTable.form {w : World} {v : Value} {l : List Rul} (h : IsTable w v l) : FormR v l := by
 rcases h with h | ⟨g, o, c, h1, h2, _⟩
 ·exact .inl h
 ·exact .inr ⟨g, o, c, h1, h2⟩
theorem FormR.view {v : Value} {l : List Rul} (h : FormR v l) : ∃ a c, v = .slice a l.length c ∧ (0 < l.length → ∃ g o, a = some ⟨g, o, none⟩) := by
 rcases h with ⟨rfl, rfl⟩ | ⟨g, o, c, rfl, _⟩
 ·exact ⟨none, 0, rfl, fun h => by simp at h⟩
 ·exact ⟨some ⟨g, o, none⟩, c, rfl, fun _ => ⟨g, o, rfl⟩⟩
theorem IsTable.cap {w : World} {a : Option Addr} {c : Nat} {l : List Rul} (h : IsTable w (.slice a l.length c) l) : l.length ≤ c := by
 rcases h with ⟨_, rfl⟩ | ⟨g, o, c', h1, h2, _⟩
 ·exact Nat.zero_le _
 ·cases h1; exact h2
section
variable {M : List Nat} {w0 w w' : World} {X : List Chunk} {R : List Row} {S : List Ro}
theorem IsTable.keep0 {v : Value} {l : List Rul} (h : IsTable w0 v l) (hO : Own [] w0 X R S w) : IsTable w v l := h.keep hO.keep
theorem Own.isR (hO : Own M w0 X R S w) {v : Value} {l : List Rul} (hf : FormR v l) (hS : ∀ s ∈ roS v (cellsR l), s ∈ S) : IsTable w v l := by
 rcases hf with h | ⟨g, o, c, rfl, hc⟩
 ·exact .inl h
 ·exact .inr ⟨g, o, c, rfl, hc, hO.ro ⟨g, o, cellsR l⟩ (hS _ List.mem_cons_self)⟩
end
section
variable {P : Program} {ops : Array Oper} {rest : List Oper} {o : Oper} {a : Act} {w w0 w' : World} {Q : Exit → Act → World → Prop} {M : List Nat} {X X' : List Chunk} {R : List Row} {S : List Ro}
end
end Go.Proofs.YtbdfblgdmappeaaDoor
