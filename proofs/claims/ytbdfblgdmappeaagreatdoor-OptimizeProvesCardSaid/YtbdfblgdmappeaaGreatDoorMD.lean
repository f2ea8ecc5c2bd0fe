/- The canonical form of what an operation makes of two lists of boxes: members, uniqueness. No program in sight. -/
import Derived.Test.YtbdfblgdmappeaaGreatDoorMA
namespace Go.Proofs.YtbdfblgdmappeaaGreatDoor
open Go.RowKit
def covB (l : List Bx) (f : Nat) (v : Int) : List Bx := l.filter fun b => decide ((b.at f).lo ≤ v) && decide (v ≤ (b.at f).hi)
theorem mem_cov {l : List Bx} {f : Nat} {v : Int} {b : Bx} : b ∈ covB l f v ↔ b ∈ l ∧ (b.at f).lo ≤ v ∧ v ≤ (b.at f).hi := by simp [covB]
def insU (v : Int) : List Int → List Int
 | [] => [v]
 | x :: l => if v < x then v :: x :: l else if v = x then x :: l else x :: insU v l
theorem mem_insU {v x : Int} : ∀ {l : List Int}, x ∈ insU v l ↔ x = v ∨ x ∈ l
 | [] => by simp [insU]
 | y :: l => by
  have ih := mem_insU (v := v) (x := x) (l := l)
  unfold insU
  split
  ·simp
  ·split
   ·rename_i e; subst e; simp
   ·simp only [List.mem_cons, ih]
    constructor
    ·rintro (h | h | h) <;> simp [h]
    ·rintro (h | h | h) <;> simp [h]
theorem insU_asc {v : Int} : ∀ {l : List Int}, l.Pairwise (· < ·) → (insU v l).Pairwise (· < ·)
 | [], _ => by simp [insU]
 | y :: l, h => by
  have h1 := List.pairwise_cons.1 h
  unfold insU
  split
  ·rename_i hv
   refine List.pairwise_cons.2 ⟨fun x hx => ?_, h⟩
   rcases List.mem_cons.1 hx with rfl | hx
   ·exact hv
   ·have := h1.1 x hx; omega
  ·split
   ·exact h
   ·refine List.pairwise_cons.2 ⟨fun x hx => ?_, insU_asc h1.2⟩
    rcases mem_insU.1 hx with rfl | hx
    ·omega
    ·exact h1.1 x hx
theorem asc_ext : ∀ {l m : List Int}, l.Pairwise (· < ·) → m.Pairwise (· < ·) → (∀ x, x ∈ l ↔ x ∈ m) → l = m
 | [], [], _, _, _ => rfl
 | [], y :: m, _, _, h => absurd ((h y).2 (by simp)) (by simp)
 | x :: l, [], _, _, h => absurd ((h x).1 (by simp)) (by simp)
 | x :: l, y :: m, hl, hm, h => by
  have h1 := List.pairwise_cons.1 hl
  have h2 := List.pairwise_cons.1 hm
  have e : x = y := by
   rcases List.mem_cons.1 ((h x).1 (by simp)) with e | hx
   ·exact e
   ·rcases List.mem_cons.1 ((h y).2 (by simp)) with e | hy
    ·exact e.symm
    ·have := h1.1 y hy; have := h2.1 x hx; omega
  subst e
  refine congrArg (x :: ·) (asc_ext h1.2 h2.2 fun z => ?_)
  constructor
  ·intro hz
   rcases List.mem_cons.1 ((h z).1 (by simp [hz])) with e | hz'
   ·have := h1.1 z hz; omega
   ·exact hz'
  ·intro hz
   rcases List.mem_cons.1 ((h z).2 (by simp [hz])) with e | hz'
   ·have := h2.1 z hz; omega
   ·exact hz'
def insT (top v : Int) (l : List Int) : List Int := if top < v then l else insU v l
def ptsR (top : Int) (rs : List Rg) : List Int := rs.foldl (fun o r => if r.lo ≤ r.hi then insT top (r.hi + 1) (insT top r.lo o) else o) [0]
def pts (f : Nat) (a b : List Bx) : List Int := ptsR (topOf f) (a.map (·.at f) ++ b.map (·.at f))
theorem mem_insT {top v x : Int} {l : List Int} : x ∈ insT top v l ↔ (x = v ∧ v ≤ top) ∨ x ∈ l := by
 unfold insT; split
 ·constructor
  ·intro h; exact .inr h
  ·rintro (⟨rfl, h⟩ | h)
   ·omega
   ·exact h
 ·rw [mem_insU]; constructor
  ·rintro (rfl | h)
   ·exact .inl ⟨rfl, by omega⟩
   ·exact .inr h
  ·rintro (⟨rfl, _⟩ | h) <;> simp_all
theorem insT_asc {top v : Int} {l : List Int} (h : l.Pairwise (· < ·)) : (insT top v l).Pairwise (· < ·) := by
 unfold insT; split
 ·exact h
 ·exact insU_asc h
theorem ptsR_fold (top : Int) : ∀ (rs : List Rg) (o : List Int), o.Pairwise (· < ·) →
  (rs.foldl (fun o r => if r.lo ≤ r.hi then insT top (r.hi + 1) (insT top r.lo o) else o) o).Pairwise (· < ·) ∧
  ∀ x, x ∈ rs.foldl (fun o r => if r.lo ≤ r.hi then insT top (r.hi + 1) (insT top r.lo o) else o) o ↔ x ∈ o ∨ x ≤ top ∧ ∃ r ∈ rs, r.lo ≤ r.hi ∧ (x = r.lo ∨ x = r.hi + 1)
 | [], o, h => by simp [h]
 | r :: rs, o, h => by
  simp only [List.foldl_cons]
  by_cases hr : r.lo ≤ r.hi
  ·rw [if_pos hr]
   obtain ⟨h1, h2⟩ := ptsR_fold top rs _ (insT_asc (insT_asc h) : (insT top (r.hi + 1) (insT top r.lo o)).Pairwise (· < ·))
   refine ⟨h1, fun x => ?_⟩
   rw [h2, mem_insT, mem_insT]
   simp only [List.mem_cons]
   constructor
   ·rintro ((⟨h, h'⟩ | ⟨h, h'⟩ | h) | ⟨h, q, hq, h'⟩)
    ·exact .inr ⟨by omega, r, .inl rfl, hr, .inr h⟩
    ·exact .inr ⟨by omega, r, .inl rfl, hr, .inl h⟩
    ·exact .inl h
    ·exact .inr ⟨h, q, .inr hq, h'⟩
   ·rintro (h | ⟨h, q, rfl | hq, h', h''⟩)
    ·exact .inl (.inr (.inr h))
    ·rcases h'' with e | e
     ·exact .inl (.inr (.inl ⟨e, by omega⟩))
     ·exact .inl (.inl ⟨e, by omega⟩)
    ·exact .inr ⟨h, q, hq, h', h''⟩
  ·rw [if_neg hr]
   obtain ⟨h1, h2⟩ := ptsR_fold top rs o h
   refine ⟨h1, fun x => ?_⟩
   rw [h2]
   simp only [List.mem_cons]
   constructor
   ·rintro (h | ⟨h, q, hq, h'⟩)
    ·exact .inl h
    ·exact .inr ⟨h, q, .inr hq, h'⟩
   ·rintro (h | ⟨h, q, rfl | hq, h', h''⟩)
    ·exact .inl h
    ·exact absurd h' hr
    ·exact .inr ⟨h, q, hq, h', h''⟩
theorem ptsR_asc (top : Int) (rs : List Rg) : (ptsR top rs).Pairwise (· < ·) := (ptsR_fold top rs [0] (by simp)).1
theorem mem_ptsR {top : Int} {rs : List Rg} {x : Int} : x ∈ ptsR top rs ↔ x = 0 ∨ x ≤ top ∧ ∃ r ∈ rs, r.lo ≤ r.hi ∧ (x = r.lo ∨ x = r.hi + 1) := by
 unfold ptsR; rw [(ptsR_fold top rs [0] (by simp)).2]; simp
def vB (b : Bx) : Prop := ∀ k, k < 5 → 0 ≤ (b.at k).lo ∧ (b.at k).lo ≤ (b.at k).hi ∧ (b.at k).hi ≤ topOf k
def vL (l : List Bx) : Prop := ∀ b ∈ l, vB b
theorem vL.cov {l : List Bx} (h : vL l) (f : Nat) (v : Int) : vL (covB l f v) := fun b hb => h b (mem_cov.1 hb).1
theorem pts_asc (f : Nat) (a b : List Bx) : (pts f a b).Pairwise (· < ·) := ptsR_asc _ _
theorem mem_pts {f : Nat} (hf : f < 5) {a b : List Bx} (ha : vL a) (hb : vL b) {x : Int} : x ∈ pts f a b ↔ x = 0 ∨ x ≤ topOf f ∧ ∃ c ∈ a ++ b, x = (c.at f).lo ∨ x = (c.at f).hi + 1 := by
 unfold pts; rw [mem_ptsR]
 have hv : ∀ c ∈ a ++ b, (c.at f).lo ≤ (c.at f).hi := fun c hc => by
  rcases List.mem_append.1 hc with h | h
  ·exact (ha c h f hf).2.1
  ·exact (hb c h f hf).2.1
 constructor
 ·rintro (h | ⟨h, r, hr, _, h'⟩)
  ·exact .inl h
  ·rw [← List.map_append] at hr
   obtain ⟨c, hc, rfl⟩ := List.mem_map.1 hr
   exact .inr ⟨h, c, hc, h'⟩
 ·rintro (h | ⟨h, c, hc, h'⟩)
  ·exact .inl h
  ·exact .inr ⟨h, _, by rw [← List.map_append]; exact List.mem_map.2 ⟨c, hc, rfl⟩, hv c hc, h'⟩
theorem topPos (f : Nat) : 0 < topOf f := by unfold topOf; split <;> omega
theorem topOf_le (f : Nat) : topOf f ≤ 4294967295 := by unfold topOf; split <;> omega
theorem pts_range {f : Nat} (hf : f < 5) {a b : List Bx} (ha : vL a) (hb : vL b) {x : Int} (hx : x ∈ pts f a b) : 0 ≤ x ∧ x ≤ topOf f := by
 have := topPos f
 rcases (mem_pts hf ha hb).1 hx with rfl | ⟨h, c, hc, h'⟩
 ·omega
 ·have hv : vB c := by
   rcases List.mem_append.1 hc with h | h
   ·exact ha c h
   ·exact hb c h
  have := hv f hf
  omega
theorem asc_head {l : List Int} (h : l.Pairwise (· < ·)) (h0 : (0 : Int) ∈ l) (hl : ∀ x ∈ l, 0 ≤ x) : ∃ l', l = 0 :: l' := by
 cases l with
 | nil => cases h0
 | cons x l =>
  rcases List.mem_cons.1 h0 with e | h0
  ·exact ⟨l, by rw [e]⟩
  ·have := (List.pairwise_cons.1 h).1 0 h0
   have := hl x (by simp)
   omega
theorem pts_head {f : Nat} (hf : f < 5) {a b : List Bx} (ha : vL a) (hb : vL b) : ∃ l, pts f a b = 0 :: l :=
 asc_head (pts_asc _ _ _) ((mem_pts hf ha hb).2 (.inl rfl)) fun _ hx => (pts_range hf ha hb hx).1
def segs (top : Int) : List Int → List Rg
 | [] => []
 | p :: l => ⟨p, match l with | [] => top | q :: _ => q - 1⟩ :: segs top l
theorem segs_length (top : Int) : ∀ l, (segs top l).length = l.length
 | [] => rfl
 | p :: l => by simp [segs, segs_length top l]
theorem segs_at (top : Int) : ∀ (l : List Int) (i : Nat) (h : i < l.length), (segs top l)[i]? = some ⟨l[i], if h' : i + 1 < l.length then l[i + 1] - 1 else top⟩
 | [], i, h => by simp at h
 | [p], 0, h => by simp [segs]
 | p :: q :: l, 0, h => by simp [segs]
 | p :: l, i + 1, h => by
  simp only [List.length_cons] at h
  have ih := segs_at top l i (by omega)
  simp only [segs, List.getElem?_cons_succ, ih, List.getElem_cons_succ, List.length_cons]
  by_cases h' : i + 1 < l.length
  ·rw [dif_pos h', dif_pos (by omega)]
  ·rw [dif_neg h', dif_neg (by omega)]
theorem segs_props (top : Int) : ∀ (l : List Int), l.Pairwise (· < ·) → (∀ x ∈ l, x ≤ top) → ∀ s ∈ segs top l, s.lo ∈ l ∧ s.lo ≤ s.hi ∧ s.hi ≤ top ∧ ∀ x ∈ l, ¬ (s.lo < x ∧ x ≤ s.hi)
 | [], _, _, s, hs => by cases hs
 | [p], _, ht, s, hs => by
  simp only [segs, List.mem_singleton] at hs
  subst hs
  have := ht p (by simp)
  refine ⟨by simp, this, Int.le_refl _, fun x hx => ?_⟩
  rw [List.mem_singleton.1 hx]
  exact fun h => absurd h.1 (Int.lt_irrefl _)
 | p :: q :: l, h, ht, s, hs => by
  have h1 := List.pairwise_cons.1 h
  rw [segs] at hs
  rcases List.mem_cons.1 hs with rfl | hs
  ·have hq := h1.1 q (by simp)
   have htq := ht q (by simp)
   have h2 := List.pairwise_cons.1 h1.2
   refine ⟨by simp, by show p ≤ q - 1; omega, by show q - 1 ≤ top; omega, fun x hx => ?_⟩
   show ¬ (p < x ∧ x ≤ q - 1)
   rcases List.mem_cons.1 hx with rfl | hx
   ·omega
   ·rcases List.mem_cons.1 hx with rfl | hx
    ·omega
    ·have := h2.1 x hx; omega
  ·obtain ⟨a1, a2, a3, a4⟩ := segs_props top (q :: l) h1.2 (fun x hx => ht x (by simp [hx])) s hs
   refine ⟨by simp only [List.mem_cons] at a1 ⊢; exact .inr a1, a2, a3, fun x hx => ?_⟩
   rcases List.mem_cons.1 hx with rfl | hx
   ·have := h1.1 s.lo a1; omega
   ·exact a4 x hx
structure Grp where
 r : Rg
 rest : List Bx
def addG (s : Rg) (rest : List Bx) : List Grp → List Grp
 | [] => if rest = [] then [] else [⟨s, rest⟩]
 | x :: gs => if rest = [] then x :: gs else if x.r.hi + 1 = s.lo ∧ x.rest = rest then ⟨⟨x.r.lo, s.hi⟩, x.rest⟩ :: gs else ⟨s, rest⟩ :: x :: gs
def gfold (F : Int → List Bx) : List Rg → List Grp → List Grp
 | [], gs => gs
 | s :: ss, gs => gfold F ss (addG s (F s.lo) gs)
def flatG (f : Nat) (gs : List Grp) : List Bx := gs.flatMap fun g => g.rest.map fun x => x.set f g.r
def zbx : Bx := Bx.of fun _ => ⟨0, 0⟩
def canonF (op : Bool → Bool → Bool) : Nat → Nat → List Bx → List Bx → List Bx
 | _, 0, a, b => if op (!a.isEmpty) (!b.isEmpty) then [zbx] else []
 | f, n + 1, a, b => flatG f (gfold (fun v => canonF op (f + 1) n (covB a f v) (covB b f v)) (segs (topOf f) (pts f a b)) []).reverse
def groupsF (op : Bool → Bool → Bool) (f n : Nat) (a b : List Bx) : List Grp := gfold (fun v => canonF op (f + 1) n (covB a f v) (covB b f v)) (segs (topOf f) (pts f a b)) []
theorem canonF_succ (op : Bool → Bool → Bool) (f n : Nat) (a b : List Bx) : canonF op f (n + 1) a b = flatG f (groupsF op f n a b).reverse := rfl
def lk (v : Int) : List Grp → List Bx
 | [] => []
 | g :: gs => if g.r.lo ≤ v ∧ v ≤ g.r.hi then g.rest else lk v gs
def NG : List Grp → Prop
 | [] => True
 | [g] => g.r.lo ≤ g.r.hi ∧ g.rest ≠ []
 | g :: x :: gs => g.r.lo ≤ g.r.hi ∧ g.rest ≠ [] ∧ x.r.hi < g.r.lo ∧ (x.r.hi + 1 = g.r.lo → x.rest ≠ g.rest) ∧ NG (x :: gs)
theorem NG.tail {g : Grp} {gs : List Grp} (h : NG (g :: gs)) : NG gs := by
 cases gs with
 | nil => trivial
 | cons x gs => exact h.2.2.2.2
theorem NG.head {g : Grp} {gs : List Grp} (h : NG (g :: gs)) : g.r.lo ≤ g.r.hi ∧ g.rest ≠ [] := by
 cases gs with
 | nil => exact h
 | cons x gs => exact ⟨h.1, h.2.1⟩
theorem NG.below {g : Grp} : ∀ {gs : List Grp}, NG (g :: gs) → ∀ x ∈ gs, x.r.hi < g.r.lo
 | [], _, x, hx => by cases hx
 | y :: gs, h, x, hx => by
  rcases List.mem_cons.1 hx with rfl | hx
  ·exact h.2.2.1
  ·have h1 := NG.below h.2.2.2.2 x hx
   have h2 := h.2.2.2.2.head.1
   have h3 := h.2.2.1
   omega
theorem lk_above {v : Int} : ∀ {gs : List Grp}, (∀ g ∈ gs, g.r.hi < v) → lk v gs = []
 | [], _ => rfl
 | g :: gs, h => by
  have := h g (by simp)
  rw [lk, if_neg (by omega), lk_above fun x hx => h x (by simp [hx])]
theorem addG_spec {s : Rg} {rest : List Bx} {gs : List Grp} (hs : s.lo ≤ s.hi) (hN : NG gs) (hb : ∀ g ∈ gs, g.r.hi < s.lo) :
  NG (addG s rest gs) ∧ (∀ g ∈ addG s rest gs, g.r.hi ≤ s.hi) ∧ (∀ v, lk v (addG s rest gs) = if s.lo ≤ v ∧ v ≤ s.hi then rest else lk v gs) ∧
  (∀ g ∈ addG s rest gs, (∃ x ∈ gs, g.r.lo = x.r.lo ∧ g.rest = x.rest) ∨ (g.r.lo = s.lo ∧ g.rest = rest)) := by
 have hnone : ∀ v, s.lo ≤ v → lk v gs = [] := fun v hv => lk_above fun g hg => by have := hb g hg; omega
 by_cases hr : rest = []
 ·subst hr
  have e : addG s [] gs = gs := by cases gs <;> simp [addG]
  rw [e]
  refine ⟨hN, fun g hg => by have := hb g hg; omega, fun v => ?_, fun g hg => .inl ⟨g, hg, rfl, rfl⟩⟩
  split
  ·rename_i h; exact hnone v h.1
  ·rfl
 ·cases gs with
  | nil =>
   simp only [addG, if_neg hr]
   refine ⟨⟨hs, hr⟩, by simp, fun v => ?_, by simp⟩
   simp [lk]
  | cons x gs =>
   have hx := hb x (by simp)
   by_cases hj : x.r.hi + 1 = s.lo ∧ x.rest = rest
   ·have e : addG s rest (x :: gs) = ⟨⟨x.r.lo, s.hi⟩, x.rest⟩ :: gs := by simp [addG, hr, hj.1, hj.2]
    rw [e]
    have hxh := hN.head
    refine ⟨?_, ?_, fun v => ?_, ?_⟩
    ·cases gs with
     | nil => exact ⟨by show x.r.lo ≤ s.hi; omega, hxh.2⟩
     | cons y gs => exact ⟨by show x.r.lo ≤ s.hi; omega, hxh.2, hN.2.2.1, hN.2.2.2.1, hN.2.2.2.2⟩
    ·intro g hg
     rcases List.mem_cons.1 hg with rfl | hg
     ·exact Int.le_refl _
     ·have := hb g (by simp [hg]); omega
    ·simp only [lk]
     by_cases h1 : s.lo ≤ v ∧ v ≤ s.hi
     ·rw [if_pos h1, if_pos (by omega), hj.2]
     ·rw [if_neg h1]
      by_cases h2 : x.r.lo ≤ v ∧ v ≤ x.r.hi
      ·rw [if_pos h2, if_pos (by omega)]
      ·rw [if_neg h2, if_neg (by omega)]
    ·intro g hg
     rcases List.mem_cons.1 hg with rfl | hg
     ·exact .inl ⟨x, by simp, rfl, rfl⟩
     ·exact .inl ⟨g, by simp [hg], rfl, rfl⟩
   ·have e : addG s rest (x :: gs) = ⟨s, rest⟩ :: x :: gs := by simp only [addG, if_neg hr, if_neg hj]
    rw [e]
    refine ⟨⟨hs, hr, hx, fun h1 h2 => hj ⟨h1, h2⟩, hN⟩, ?_, fun v => ?_, ?_⟩
    ·intro g hg
     rcases List.mem_cons.1 hg with rfl | hg
     ·exact Int.le_refl _
     ·have := hb g hg; omega
    ·rw [lk]
    ·intro g hg
     rcases List.mem_cons.1 hg with rfl | hg
     ·exact .inr ⟨rfl, rfl⟩
     ·exact .inl ⟨g, hg, rfl, rfl⟩
theorem gfold_spec (top : Int) (F : Int → List Bx) : ∀ (l : List Int) (gs : List Grp), l.Pairwise (· < ·) → (∀ x ∈ l, x ≤ top) → NG gs → (∀ g ∈ gs, g.r.hi ≤ top ∧ ∀ p ∈ l, g.r.hi < p) →
  (∀ s ∈ segs top l, ∀ v, s.lo ≤ v → v ≤ s.hi → F v = F s.lo) →
  NG (gfold F (segs top l) gs) ∧ (∀ g ∈ gfold F (segs top l) gs, g.r.hi ≤ top ∧ ((∃ x ∈ gs, g.r.lo = x.r.lo ∧ g.rest = x.rest) ∨ (g.r.lo ∈ l ∧ g.rest = F g.r.lo))) ∧
  ∀ v, v ≤ top → lk v (gfold F (segs top l) gs) = if ∃ p ∈ l, p ≤ v then F v else lk v gs
 | [], gs, _, _, hN, hb, _ => ⟨hN, fun g hg => ⟨(hb g hg).1, .inl ⟨g, hg, rfl, rfl⟩⟩, fun v _ => by simp [segs, gfold]⟩
 | p :: l, gs, ha, ht, hN, hb, hF => by
  have h1 := List.pairwise_cons.1 ha
  obtain ⟨s, hs0, hlo⟩ : ∃ s, segs top (p :: l) = s :: segs top l ∧ s.lo = p := ⟨_, rfl, rfl⟩
  have hp := segs_props top (p :: l) ha ht s (by rw [hs0]; simp)
  have hnext : ∀ q ∈ l, s.hi < q := fun q hq => by
   have := hp.2.2.2 q (by simp [hq])
   have := h1.1 q hq
   omega
  obtain ⟨a1, a2, a3, a4⟩ := addG_spec (rest := F s.lo) hp.2.1 hN fun g hg => by rw [hlo]; exact (hb g hg).2 p (by simp)
  obtain ⟨b1, b2, b3⟩ := gfold_spec top F l (addG s (F s.lo) gs) h1.2 (fun x hx => ht x (by simp [hx])) a1 (fun g hg => ⟨by have := a2 g hg; omega, fun q hq => by have := a2 g hg; have := hnext q hq; omega⟩)
   (fun t ht' => hF t (by rw [hs0]; simp [ht']))
  rw [hs0]
  refine ⟨b1, fun g hg => ⟨(b2 g hg).1, ?_⟩, fun v hv => ?_⟩
  ·rcases (b2 g hg).2 with ⟨x, hx, e1, e2⟩ | ⟨e1, e2⟩
   ·rcases a4 x hx with ⟨y, hy, e3, e4⟩ | ⟨e3, e4⟩
    ·exact .inl ⟨y, hy, by omega, by rw [e2, e4]⟩
    ·exact .inr ⟨by rw [e1, e3, hlo]; simp, by rw [e2, e4, e1, e3]⟩
   ·exact .inr ⟨by simp [e1], e2⟩
  ·rw [gfold, b3 v hv, a3 v]
   by_cases c1 : ∃ q ∈ l, q ≤ v
   ·rw [if_pos c1, if_pos (by obtain ⟨q, hq, hqv⟩ := c1; exact ⟨q, by simp [hq], hqv⟩)]
   ·rw [if_neg c1]
    have hvs : v ≤ s.hi := by
     cases l with
     | nil =>
      simp only [segs, List.cons.injEq] at hs0
      rw [← hs0.1]; exact hv
     | cons q l =>
      simp only [segs, List.cons.injEq] at hs0
      rw [← hs0.1]
      have : ¬ q ≤ v := fun h => c1 ⟨q, by simp, h⟩
      show v ≤ q - 1
      omega
    by_cases c2 : p ≤ v
    ·rw [if_pos ⟨by omega, hvs⟩, if_pos ⟨p, by simp, c2⟩, hF s (by rw [hs0]; simp) v (by omega) hvs]
    ·rw [if_neg (by omega), if_neg]
     rintro ⟨q, hq, hqv⟩
     rcases List.mem_cons.1 hq with rfl | hq
     ·exact c2 hqv
     ·exact c1 ⟨q, hq, hqv⟩
theorem cov_const {f : Nat} (hf : f < 5) {a b l : List Bx} (ha : vL a) (hb : vL b) (hl : ∀ c ∈ l, c ∈ a ++ b) {s : Rg} (hs : s ∈ segs (topOf f) (pts f a b)) {v : Int} (h1 : s.lo ≤ v) (h2 : v ≤ s.hi) : covB l f v = covB l f s.lo := by
 have hp := segs_props (topOf f) (pts f a b) (pts_asc _ _ _) (fun x hx => (pts_range hf ha hb hx).2) s hs
 unfold covB
 refine List.filter_congr fun c hc => ?_
 have hm := hl c hc
 have hv : vB c := by
  rcases List.mem_append.1 hm with h | h
  ·exact ha c h
  ·exact hb c h
 have hcv := hv f hf
 have n1 := hp.2.2.2 (c.at f).lo ((mem_pts hf ha hb).2 (.inr ⟨by omega, c, hm, .inl rfl⟩))
 have n2 : ¬ (s.lo < (c.at f).hi + 1 ∧ (c.at f).hi + 1 ≤ s.hi) := fun h => hp.2.2.2 ((c.at f).hi + 1) ((mem_pts hf ha hb).2 (.inr ⟨by have := hp.2.2.1; omega, c, hm, .inr rfl⟩)) h
 rw [Bool.eq_iff_iff]
 simp only [Bool.and_eq_true, decide_eq_true_eq]
 omega
theorem groups_spec (op : Bool → Bool → Bool) {f : Nat} (hf : f < 5) (n : Nat) {a b : List Bx} (ha : vL a) (hb : vL b) :
  NG (groupsF op f n a b) ∧ (∀ g ∈ groupsF op f n a b, 0 ≤ g.r.lo ∧ g.r.hi ≤ topOf f ∧ g.rest = canonF op (f + 1) n (covB a f g.r.lo) (covB b f g.r.lo)) ∧
  ∀ v, 0 ≤ v → v ≤ topOf f → lk v (groupsF op f n a b) = canonF op (f + 1) n (covB a f v) (covB b f v) := by
 obtain ⟨b1, b2, b3⟩ := gfold_spec (topOf f) (fun v => canonF op (f + 1) n (covB a f v) (covB b f v)) (pts f a b) [] (pts_asc _ _ _) (fun x hx => (pts_range hf ha hb hx).2) trivial (by simp)
  (fun s hs v h1 h2 => by
   rw [cov_const hf ha hb (fun c hc => List.mem_append.2 (.inl hc)) hs h1 h2, cov_const hf ha hb (fun c hc => List.mem_append.2 (.inr hc)) hs h1 h2])
 refine ⟨b1, fun g hg => ?_, fun v h0 h1 => ?_⟩
 ·obtain ⟨c1, c2⟩ := b2 g hg
  rcases c2 with ⟨x, hx, _⟩ | ⟨e1, e2⟩
  ·cases hx
  ·exact ⟨(pts_range hf ha hb e1).1, c1, e2⟩
 ·unfold groupsF
  rw [b3 v h1, if_pos]
  obtain ⟨l, hl⟩ := pts_head hf ha hb
  exact ⟨0, by rw [hl]; simp, h0⟩
theorem NG.ext {top : Int} : ∀ {gs hs : List Grp}, NG gs → NG hs → (∀ g ∈ gs, 0 ≤ g.r.lo ∧ g.r.hi ≤ top) → (∀ g ∈ hs, 0 ≤ g.r.lo ∧ g.r.hi ≤ top) → (∀ v, 0 ≤ v → v ≤ top → lk v gs = lk v hs) → gs = hs
 | [], [], _, _, _, _, _ => rfl
 | [], h :: hs, _, hN, _, hb, he => by
  have h1 := hN.head
  have h2 := hb h (by simp)
  have := he h.r.hi (by omega) h2.2
  rw [lk, lk, if_pos ⟨h1.1, Int.le_refl _⟩] at this
  exact absurd this.symm h1.2
 | g :: gs, [], hN, _, hb, _, he => by
  have h1 := hN.head
  have h2 := hb g (by simp)
  have := he g.r.hi (by omega) h2.2
  rw [lk, lk, if_pos ⟨h1.1, Int.le_refl _⟩] at this
  exact absurd this h1.2
 | g :: gs, h :: hs, gN, hN, gb, hb, he => by
  have g1 := gN.head
  have h1 := hN.head
  have g2 := gb g (by simp)
  have h2 := hb h (by simp)
  have gB := gN.below
  have hB := hN.below
  have ehi : g.r.hi = h.r.hi := by
   rcases Int.lt_trichotomy g.r.hi h.r.hi with c | c | c
   ·have e := he h.r.hi (by omega) h2.2
    rw [lk_above (gs := g :: gs) (fun x hx => by
     rcases List.mem_cons.1 hx with rfl | hx
     ·exact c
     ·have := gB x hx; omega), lk, if_pos ⟨h1.1, Int.le_refl _⟩] at e
    exact absurd e.symm h1.2
   ·exact c
   ·have e := he g.r.hi (by omega) g2.2
    rw [lk_above (gs := h :: hs) (fun x hx => by
     rcases List.mem_cons.1 hx with rfl | hx
     ·exact c
     ·have := hB x hx; omega), lk, if_pos ⟨g1.1, Int.le_refl _⟩] at e
    exact absurd e g1.2
  have er : g.rest = h.rest := by
   have e := he g.r.hi (by omega) g2.2
   rw [lk, lk, if_pos ⟨g1.1, Int.le_refl _⟩, if_pos (by omega)] at e
   exact e
  have key : ∀ {g h : Grp} {hs : List Grp}, NG (h :: hs) → h.rest = g.rest → h.r.hi = g.r.hi → g.r.lo ≤ h.r.lo - 1 → h.r.lo ≤ h.r.hi → lk (h.r.lo - 1) (h :: hs) ≠ g.rest := by
   intro g h hs hN er ehi hlt hle
   rw [lk, if_neg (by omega)]
   cases hs with
   | nil => rw [lk]; intro e; exact hN.head.2 (er.trans e.symm)
   | cons x hs =>
    intro e
    have h3 := hN.2.2.1
    have h4 := hN.2.2.2.2
    by_cases c : x.r.hi + 1 = h.r.lo
    ·have := h4.head
     rw [lk, if_pos ⟨by omega, by omega⟩] at e
     exact hN.2.2.2.1 c (e.trans er.symm)
    ·rw [lk_above (gs := x :: hs) (fun y hy => by
      rcases List.mem_cons.1 hy with rfl | hy
      ·omega
      ·have := h4.below y hy; have := h4.head.1; omega)] at e
     exact hN.head.2 (er.trans e.symm)
  have elo : g.r.lo = h.r.lo := by
   rcases Int.lt_trichotomy g.r.lo h.r.lo with c | c | c
   ·have e := he (h.r.lo - 1) (by omega) (by omega)
    rw [lk, if_pos ⟨by omega, by omega⟩] at e
    exact absurd e.symm (key hN er.symm ehi.symm (by omega) h1.1)
   ·exact c
   ·have e := he (g.r.lo - 1) (by omega) (by omega)
    rw [lk_eq_head (g := h) (gs := hs) ⟨by omega, by omega⟩] at e
    exact absurd e (key gN er ehi (by omega) g1.1)
  have e : g = h := by
   cases g; rename_i r rest; cases h; rename_i r' rest'; cases r; cases r'
   dsimp only at ehi er elo
   subst ehi er elo; rfl
  subst e
  refine congrArg (g :: ·) (NG.ext gN.tail hN.tail (fun x hx => gb x (by simp [hx])) (fun x hx => hb x (by simp [hx])) fun v h0 ht => ?_)
  by_cases c : g.r.lo ≤ v ∧ v ≤ g.r.hi
  ·rw [lk_above (gs := gs) (fun x hx => by have := gB x hx; omega), lk_above (gs := hs) (fun x hx => by have := hB x hx; omega)]
  ·have := he v h0 ht
   rw [lk, lk, if_neg c, if_neg c] at this
   exact this
where lk_eq_head {g : Grp} {gs : List Grp} {v : Int} (h : g.r.lo ≤ v ∧ v ≤ g.r.hi) : lk v (g :: gs) = g.rest := by rw [lk, if_pos h]
def inB (f : Nat) (b : Bx) (h : Nat → Int) : Prop := ∀ k, f ≤ k → k < 5 → (b.at k).lo ≤ h k ∧ h k ≤ (b.at k).hi
def inL (f : Nat) (l : List Bx) (h : Nat → Int) : Prop := ∃ b ∈ l, inB f b h
def okP (h : Nat → Int) : Prop := ∀ k, k < 5 → 0 ≤ h k ∧ h k ≤ topOf k
theorem inB_split {f : Nat} (hf : f < 5) {b : Bx} {h : Nat → Int} : inB f b h ↔ ((b.at f).lo ≤ h f ∧ h f ≤ (b.at f).hi) ∧ inB (f + 1) b h := by
 constructor
 ·intro hb; exact ⟨hb f (Nat.le_refl _) hf, fun k h1 h2 => hb k (by omega) h2⟩
 ·rintro ⟨h1, h2⟩ k hk hk5
  by_cases e : k = f
  ·subst e; exact h1
  ·exact h2 k (by omega) hk5
theorem inL_cov {f : Nat} (hf : f < 5) {l : List Bx} {h : Nat → Int} : inL f l h ↔ inL (f + 1) (covB l f (h f)) h := by
 unfold inL
 constructor
 ·rintro ⟨b, hb, h1⟩
  obtain ⟨h2, h3⟩ := (inB_split hf).1 h1
  exact ⟨b, mem_cov.2 ⟨hb, h2⟩, h3⟩
 ·rintro ⟨b, hb, h1⟩
  obtain ⟨h2, h3⟩ := mem_cov.1 hb
  exact ⟨b, h2, (inB_split hf).2 ⟨h3, h1⟩⟩
theorem inB_set {f k : Nat} (hk : k < f) {b : Bx} {r : Rg} {h : Nat → Int} : inB f (b.set k r) h ↔ inB f b h := by
 constructor
 ·intro hb i h1 h2
  have := hb i h1 h2
  rwa [Bx.at_set _ _ _ h2, if_neg (by omega)] at this
 ·intro hb i h1 h2
  rw [Bx.at_set _ _ _ h2, if_neg (by omega)]
  exact hb i h1 h2
theorem lk_iff {v : Int} {Φ : List Bx → Prop} (h0 : ¬ Φ []) : ∀ {gs : List Grp}, NG gs → ((∃ g ∈ gs, (g.r.lo ≤ v ∧ v ≤ g.r.hi) ∧ Φ g.rest) ↔ Φ (lk v gs))
 | [], _ => by simp [lk, h0]
 | g :: gs, hN => by
  have ih := lk_iff (v := v) h0 hN.tail
  rw [lk]
  by_cases c : g.r.lo ≤ v ∧ v ≤ g.r.hi
  ·rw [if_pos c]
   constructor
   ·rintro ⟨x, hx, h1, h2⟩
    rcases List.mem_cons.1 hx with rfl | hx
    ·exact h2
    ·have := hN.below x hx; omega
   ·intro h; exact ⟨g, by simp, c, h⟩
  ·rw [if_neg c, ← ih]
   constructor
   ·rintro ⟨x, hx, h1, h2⟩
    rcases List.mem_cons.1 hx with rfl | hx
    ·exact absurd h1 c
    ·exact ⟨x, hx, h1, h2⟩
   ·rintro ⟨x, hx, h1⟩; exact ⟨x, by simp [hx], h1⟩
theorem inL_nil {f : Nat} {h : Nat → Int} : ¬ inL f [] h := by rintro ⟨b, hb, _⟩; cases hb
theorem mem_flatG {f : Nat} {gs : List Grp} {x : Bx} : x ∈ flatG f gs ↔ ∃ g ∈ gs, ∃ y ∈ g.rest, y.set f g.r = x := by
 unfold flatG; simp only [List.mem_flatMap, List.mem_map]
theorem inL_flatG {f : Nat} (hf : f < 5) {gs : List Grp} (hN : NG gs) {h : Nat → Int} : inL f (flatG f gs.reverse) h ↔ inL (f + 1) (lk (h f) gs) h := by
 rw [← lk_iff (Φ := fun l => inL (f + 1) l h) inL_nil hN]
 unfold inL
 constructor
 ·rintro ⟨b, hb, h1⟩
  obtain ⟨g, hg, y, hy, rfl⟩ := mem_flatG.1 hb
  obtain ⟨h2, h3⟩ := (inB_split hf).1 h1
  rw [Bx.at_set _ _ _ hf, if_pos rfl] at h2
  exact ⟨g, List.mem_reverse.1 hg, h2, y, hy, (inB_set (by omega)).1 h3⟩
 ·rintro ⟨g, hg, h2, y, hy, h3⟩
  refine ⟨y.set f g.r, mem_flatG.2 ⟨g, List.mem_reverse.2 hg, y, hy, rfl⟩, (inB_split hf).2 ⟨?_, (inB_set (by omega)).2 h3⟩⟩
  rw [Bx.at_set _ _ _ hf, if_pos rfl]; exact h2
theorem inB_five (b : Bx) (h : Nat → Int) : inB 5 b h := fun k h1 h2 => by omega
theorem mem_canonF (op : Bool → Bool → Bool) {h : Nat → Int} (hok : okP h) : ∀ (n f : Nat), f + n = 5 → ∀ {a b : List Bx}, vL a → vL b → ∀ (p q : Bool), (p = true ↔ inL f a h) → (q = true ↔ inL f b h) → (inL f (canonF op f n a b) h ↔ op p q = true)
 | 0, f, hfn, a, b, _, _, p, q, hp, hq => by
  obtain rfl : f = 5 := by omega
  have key : ∀ {l : List Bx} {p : Bool}, (p = true ↔ inL 5 l h) → p = !l.isEmpty := by
   intro l p hp
   cases l with
   | nil => cases p <;> simp_all [inL]
   | cons x l => rw [hp.2 ⟨x, by simp, inB_five _ _⟩]; rfl
  rw [canonF, ← key hp, ← key hq]
  split
  ·rename_i h1; exact ⟨fun _ => h1, fun _ => ⟨zbx, by simp, inB_five _ _⟩⟩
  ·rename_i h1; exact ⟨fun h2 => absurd h2 inL_nil, fun h2 => absurd h2 h1⟩
 | n + 1, f, hfn, a, b, ha, hb, p, q, hp, hq => by
  have hf : f < 5 := by omega
  obtain ⟨g1, _, g3⟩ := groups_spec op hf n ha hb
  rw [canonF_succ, inL_flatG hf g1, g3 (h f) (hok f hf).1 (hok f hf).2]
  exact mem_canonF op hok n (f + 1) (by omega) (ha.cov _ _) (hb.cov _ _) p q (hp.trans (inL_cov hf)) (hq.trans (inL_cov hf))
def Cn : Nat → Nat → List Bx → Prop
 | _, 0, l => l = [] ∨ l = [zbx]
 | f, n + 1, l => ∃ gs, NG gs ∧ (∀ g ∈ gs, 0 ≤ g.r.lo ∧ g.r.hi ≤ topOf f ∧ Cn (f + 1) n g.rest) ∧ l = flatG f gs.reverse
theorem cn_nil (f : Nat) : ∀ n, Cn f n []
 | 0 => .inl rfl
 | n + 1 => ⟨[], trivial, by simp, rfl⟩
theorem canonF_cn (op : Bool → Bool → Bool) : ∀ (n f : Nat), f + n = 5 → ∀ {a b : List Bx}, vL a → vL b → Cn f n (canonF op f n a b)
 | 0, f, _, a, b, _, _ => by
  rw [canonF]; split
  ·exact .inr rfl
  ·exact .inl rfl
 | n + 1, f, hfn, a, b, ha, hb => by
  obtain ⟨g1, g2, g3⟩ := groups_spec op (show f < 5 by omega) n ha hb
  refine ⟨_, g1, fun g hg => ⟨(g2 g hg).1, (g2 g hg).2.1, ?_⟩, rfl⟩
  rw [(g2 g hg).2.2]
  exact canonF_cn op n (f + 1) (by omega) (ha.cov _ _) (hb.cov _ _)
theorem lk_mem {v : Int} : ∀ {gs : List Grp}, lk v gs = [] ∨ ∃ g ∈ gs, lk v gs = g.rest
 | [] => .inl rfl
 | g :: gs => by
  rw [lk]; split
  ·exact .inr ⟨g, by simp, rfl⟩
  ·rcases lk_mem (v := v) (gs := gs) with h | ⟨x, hx, h⟩
   ·exact .inl h
   ·exact .inr ⟨x, by simp [hx], h⟩
theorem inB_congr {f : Nat} {b : Bx} {h h' : Nat → Int} (he : ∀ k, f ≤ k → k < 5 → h k = h' k) : inB f b h ↔ inB f b h' :=
 ⟨fun hb k h1 h2 => he k h1 h2 ▸ hb k h1 h2, fun hb k h1 h2 => (he k h1 h2).symm ▸ hb k h1 h2⟩
theorem inL_congr {f : Nat} {l : List Bx} {h h' : Nat → Int} (he : ∀ k, f ≤ k → k < 5 → h k = h' k) : inL f l h ↔ inL f l h' :=
 ⟨fun ⟨b, hb, h1⟩ => ⟨b, hb, (inB_congr he).1 h1⟩, fun ⟨b, hb, h1⟩ => ⟨b, hb, (inB_congr he).2 h1⟩⟩
theorem Cn.ext : ∀ {n f : Nat}, f + n = 5 → ∀ {l m : List Bx}, Cn f n l → Cn f n m → (∀ h, okP h → (inL f l h ↔ inL f m h)) → l = m
 | 0, f, hfn, l, m, hl, hm, he => by
  obtain rfl : f = 5 := by omega
  have hz : okP fun _ => 0 := fun k hk => ⟨Int.le_refl _, Int.le_of_lt (topPos k)⟩
  have hE := he _ hz
  rcases hl with rfl | rfl <;> rcases hm with rfl | rfl
  ·rfl
  ·exact absurd (hE.2 ⟨zbx, by simp, inB_five _ _⟩) inL_nil
  ·exact absurd (hE.1 ⟨zbx, by simp, inB_five _ _⟩) inL_nil
  ·rfl
 | n + 1, f, hfn, l, m, ⟨gs, gN, gb, gl⟩, ⟨hs, hN, hb, hl⟩, he => by
  have hf : f < 5 := by omega
  subst gl hl
  have hcn : ∀ {gs : List Grp}, (∀ g ∈ gs, 0 ≤ g.r.lo ∧ g.r.hi ≤ topOf f ∧ Cn (f + 1) n g.rest) → ∀ v, Cn (f + 1) n (lk v gs) := by
   intro gs hg v
   rcases lk_mem (v := v) (gs := gs) with h | ⟨x, hx, h⟩
   ·rw [h]; exact cn_nil _ _
   ·rw [h]; exact (hg x hx).2.2
  have e : gs = hs := by
   refine NG.ext (top := topOf f) gN hN (fun g hg => ⟨(gb g hg).1, (gb g hg).2.1⟩) (fun g hg => ⟨(hb g hg).1, (hb g hg).2.1⟩) fun v h0 h1 => ?_
   refine Cn.ext (by omega) (hcn gb v) (hcn hb v) fun h hok => ?_
   have hok' : okP (fun k => if k = f then v else h k) := fun k hk => by
    dsimp only
    by_cases e : k = f
    ·rw [if_pos e, e]; exact ⟨h0, h1⟩
    ·rw [if_neg e]; exact hok k hk
   have := he _ hok'
   rw [inL_flatG hf gN, inL_flatG hf hN] at this
   simp only [if_pos] at this
   rw [inL_congr (h' := h) (fun k hk _ => if_neg (by omega)), inL_congr (l := lk v hs) (h' := h) (fun k hk _ => if_neg (by omega))] at this
   exact this
  rw [e]
theorem addG_nil (s : Rg) (gs : List Grp) : addG s [] gs = gs := by cases gs <;> simp [addG]
theorem gfold_none {F : Int → List Bx} : ∀ {ss : List Rg} {gs : List Grp}, (∀ s ∈ ss, F s.lo = []) → gfold F ss gs = gs
 | [], _, _ => rfl
 | s :: ss, gs, h => by
  rw [gfold, h s (by simp), addG_nil, gfold_none fun t ht => h t (by simp [ht])]
theorem canonF_none {op : Bool → Bool → Bool} {K : List Bx → List Bx → Prop} (hK : ∀ a b f v, K a b → K (covB a f v) (covB b f v)) (h0 : ∀ a b, K a b → op (!a.isEmpty) (!b.isEmpty) = false) :
  ∀ (n f : Nat) {a b : List Bx}, K a b → canonF op f n a b = []
 | 0, f, a, b, h => by rw [canonF, h0 a b h]; rfl
 | n + 1, f, a, b, h => by
  rw [canonF_succ, groupsF, gfold_none fun s _ => canonF_none hK h0 n (f + 1) (hK a b f s.lo h)]; rfl
theorem canonF_nil {op : Bool → Bool → Bool} (h : op false false = false) (n f : Nat) : canonF op f n [] [] = [] :=
 canonF_none (K := fun a b => a = [] ∧ b = []) (fun a b f v ⟨h1, h2⟩ => by subst h1 h2; exact ⟨rfl, rfl⟩) (fun a b ⟨h1, h2⟩ => by subst h1 h2; exact h) n f ⟨rfl, rfl⟩
theorem canonF_left {op : Bool → Bool → Bool} (h : ∀ q, op false q = false) (n f : Nat) (b : List Bx) : canonF op f n [] b = [] :=
 canonF_none (K := fun a _ => a = []) (fun a b f v h1 => by subst h1; rfl) (fun a b h1 => by subst h1; exact h _) n f rfl
theorem canonF_right {op : Bool → Bool → Bool} (h : ∀ p, op p false = false) (n f : Nat) (a : List Bx) : canonF op f n a [] = [] :=
 canonF_none (K := fun _ b => b = []) (fun a b f v h1 => by subst h1; rfl) (fun a b h1 => by subst h1; exact h _) n f rfl
def total (gs : List Grp) : Nat := (gs.map fun g => g.rest.length).sum
theorem total_cons (g : Grp) (gs : List Grp) : total (g :: gs) = g.rest.length + total gs := by simp [total]
theorem flatG_length (f : Nat) (gs : List Grp) : (flatG f gs).length = total gs := by
 unfold flatG total
 induction gs with
 | nil => rfl
 | cons g gs ih => simp [ih]
theorem total_reverse (gs : List Grp) : total gs.reverse = total gs := by
 unfold total; rw [List.map_reverse]; exact List.sum_reverse _
theorem flatG_rev_length (f : Nat) (gs : List Grp) : (flatG f gs.reverse).length = total gs := by rw [flatG_length, total_reverse]
theorem total_addG (s : Rg) (rest : List Bx) (gs : List Grp) : total gs ≤ total (addG s rest gs) ∧ total (addG s rest gs) ≤ total gs + rest.length := by
 by_cases hr : rest = []
 ·subst hr; rw [addG_nil]; exact ⟨Nat.le_refl _, Nat.le_refl _⟩
 ·cases gs with
  | nil => simp [addG, hr, total]
  | cons x gs =>
   rw [addG, if_neg hr]
   by_cases hj : x.r.hi + 1 = s.lo ∧ x.rest = rest
   ·rw [if_pos hj, total_cons, total_cons]; dsimp only; omega
   ·rw [if_neg hj, total_cons (⟨s, rest⟩ : Grp)]; dsimp only; omega
theorem total_gfold (F : Int → List Bx) : ∀ (ss : List Rg) (gs : List Grp), total gs ≤ total (gfold F ss gs)
 | [], _ => Nat.le_refl _
 | s :: ss, gs => Nat.le_trans (total_addG s (F s.lo) gs).1 (total_gfold F ss _)
theorem total_gfold_le {F : Int → List Bx} {m : Nat} : ∀ {ss : List Rg} {gs : List Grp}, (∀ s ∈ ss, (F s.lo).length ≤ m) → total (gfold F ss gs) ≤ total gs + ss.length * m
 | [], gs, _ => by simp [gfold]
 | s :: ss, gs, h => by
  have h1 := total_gfold_le (gs := addG s (F s.lo) gs) (fun t ht => h t (List.mem_cons_of_mem _ ht) : ∀ t ∈ ss, (F t.lo).length ≤ m)
  have h2 := (total_addG s (F s.lo) gs).2
  have h3 := h s (by simp)
  rw [gfold, List.length_cons, Nat.add_mul]
  omega
theorem le_total {g : Grp} : ∀ {gs : List Grp}, g ∈ gs → g.rest.length ≤ total gs
 | x :: gs, h => by
  rw [total_cons]
  rcases List.mem_cons.1 h with rfl | h
  ·omega
  ·have := le_total h; omega
theorem rest_le (op : Bool → Bool → Bool) {f : Nat} (hf : f < 5) (n : Nat) {a b : List Bx} (ha : vL a) (hb : vL b) {v : Int} (h0 : 0 ≤ v) (h1 : v ≤ topOf f) :
  (canonF op (f + 1) n (covB a f v) (covB b f v)).length ≤ (canonF op f (n + 1) a b).length := by
 obtain ⟨_, _, g3⟩ := groups_spec op hf n ha hb
 rw [canonF_succ, flatG_rev_length, ← g3 v h0 h1]
 rcases lk_mem (v := v) (gs := groupsF op f n a b) with h | ⟨g, hg, h⟩
 ·rw [h]; exact Nat.zero_le _
 ·rw [h]; exact le_total hg
def cutsRaw (top : Int) (rs : List Rg) : List Int := 0 :: (top + 1) :: rs.flatMap fun r => [r.lo, r.hi + 1]
theorem cuts_eq {f : Nat} (hf : f < 5) {a b : List Bx} (ha : vL a) (hb : vL b) {l : List Int} (hl : l.Pairwise (· < ·)) (hm : ∀ x, x ∈ l ↔ x ∈ cutsRaw (topOf f) (a.map (·.at f) ++ b.map (·.at f))) : l = pts f a b ++ [topOf f + 1] := by
 refine asc_ext hl ?_ fun x => ?_
 ·refine List.pairwise_append.2 ⟨pts_asc _ _ _, by simp, fun x hx y hy => ?_⟩
  rw [List.mem_singleton.1 hy]
  have := (pts_range hf ha hb hx).2
  omega
 ·have hv : ∀ c ∈ a ++ b, vB c := fun c hc => by
   rcases List.mem_append.1 hc with h | h
   ·exact ha c h
   ·exact hb c h
  rw [hm, List.mem_append, mem_pts hf ha hb, List.mem_singleton, cutsRaw, ← List.map_append]
  simp only [List.mem_cons, List.mem_flatMap, List.mem_map, List.not_mem_nil, or_false]
  constructor
  ·rintro (h | h | ⟨r, ⟨c, hc, rfl⟩, h⟩)
   ·exact .inl (.inl h)
   ·exact .inr h
   ·have := hv c hc f hf
    by_cases e : x = topOf f + 1
    ·exact .inr e
    ·exact .inl (.inr ⟨by omega, c, hc, h⟩)
  ·rintro ((h | ⟨_, c, hc, h⟩) | h)
   ·exact .inl h
   ·exact .inr (.inr ⟨_, ⟨c, hc, rfl⟩, h⟩)
   ·exact .inr (.inl h)
theorem prefix_flatMap {α β : Type} {F : α → List β} : ∀ {gs : List α} {p : List β}, p <+: gs.flatMap F → ∃ A B, gs = A ++ B ∧ (p = A.flatMap F ∨ ∃ g B' q, B = g :: B' ∧ q <+: F g ∧ p = A.flatMap F ++ q)
 | [], p, h => ⟨[], [], rfl, .inl (by simpa using h)⟩
 | g :: gs, p, ⟨t, ht⟩ => by
  rw [List.flatMap_cons] at ht
  by_cases hl : (F g).length ≤ p.length
  ·obtain ⟨q, hq⟩ : F g <+: p := List.prefix_of_prefix_length_le ⟨_, rfl⟩ ⟨t, ht⟩ hl
   subst hq
   rw [List.append_assoc, List.append_cancel_left_eq] at ht
   obtain ⟨A, B, e, h⟩ := prefix_flatMap ⟨t, ht⟩
   refine ⟨g :: A, B, by rw [e]; rfl, ?_⟩
   rcases h with h | ⟨x, B', r, e1, e2, e3⟩
   ·exact .inl (by rw [h, List.flatMap_cons])
   ·exact .inr ⟨x, B', r, e1, e2, by rw [e3, List.flatMap_cons, List.append_assoc]⟩
  ·refine ⟨[], g :: gs, rfl, .inr ⟨g, gs, p, rfl, List.prefix_of_prefix_length_le ⟨t, ht⟩ ⟨_, rfl⟩ (by omega), rfl⟩⟩
theorem NG.suffix : ∀ {A B : List Grp}, NG (A ++ B) → NG B
 | [], _, h => h
 | _ :: A, _, h => NG.suffix (A := A) h.tail
theorem NG.apart {g : Grp} {B : List Grp} : ∀ {A : List Grp}, NG (A ++ g :: B) → ∀ x ∈ B, x.r.hi < g.r.lo
 | [], h => h.below
 | _ :: A, h => NG.apart (A := A) h.tail
theorem prefix_map {α β : Type} {F : α → β} {l : List α} {q : List β} (h : q <+: l.map F) : ∃ r, r <+: l ∧ q = r.map F := by
 obtain ⟨t, ht⟩ := h
 refine ⟨l.take q.length, List.take_prefix _ _, ?_⟩
 rw [List.map_take, ← ht, List.take_left']
 rfl
theorem inL_append {f : Nat} {l m : List Bx} {h : Nat → Int} : inL f (l ++ m) h ↔ inL f l h ∨ inL f m h := by
 unfold inL
 constructor
 ·rintro ⟨b, hb, h1⟩
  rcases List.mem_append.1 hb with hb | hb
  ·exact .inl ⟨b, hb, h1⟩
  ·exact .inr ⟨b, hb, h1⟩
 ·rintro (⟨b, hb, h1⟩ | ⟨b, hb, h1⟩)
  ·exact ⟨b, List.mem_append.2 (.inl hb), h1⟩
  ·exact ⟨b, List.mem_append.2 (.inr hb), h1⟩
theorem Cn.prefix : ∀ {n f : Nat}, f + n = 5 → ∀ {l p : List Bx}, Cn f n l → p <+: l → ∃ m, Cn f n m ∧ m.length ≤ p.length ∧ ∀ h, inL f m h ↔ inL f p h
 | 0, f, hfn, l, p, hl, hp => by
  refine ⟨p, ?_, Nat.le_refl _, fun _ => Iff.rfl⟩
  rcases hl with rfl | rfl
  ·exact .inl (List.prefix_nil.1 hp)
  ·obtain ⟨t, ht⟩ := hp
   cases p with
   | nil => exact .inl rfl
   | cons x p => simp at ht; exact .inr (by rw [ht.1, ht.2.1])
 | n + 1, f, hfn, l, p, ⟨gs, gN, gb, gl⟩, hp => by
  have hf : f < 5 := by omega
  subst gl
  obtain ⟨A, B, e, h⟩ := prefix_flatMap hp
  have e' : gs = B.reverse ++ A.reverse := by rw [← List.reverse_append, ← e, List.reverse_reverse]
  have hA : NG A.reverse := NG.suffix (e' ▸ gN)
  have hAb : ∀ g ∈ A.reverse, 0 ≤ g.r.lo ∧ g.r.hi ≤ topOf f ∧ Cn (f + 1) n g.rest := fun g hg => gb g (by rw [e']; exact List.mem_append.2 (.inr hg))
  rcases h with h | ⟨g, B', q, e1, e2, e3⟩
  ·refine ⟨p, ⟨A.reverse, hA, hAb, ?_⟩, Nat.le_refl _, fun _ => Iff.rfl⟩
   rw [List.reverse_reverse, h]; rfl
  ·subst e1
   obtain ⟨r, hr, hq⟩ := prefix_map e2
   rw [List.reverse_cons, List.append_assoc] at e'
   have hN' : NG (B'.reverse ++ g :: A.reverse) := e' ▸ gN
   have hg := gb g (by rw [e']; simp)
   obtain ⟨m, hm, hml, hme⟩ := Cn.prefix (show f + 1 + n = 5 by omega) hg.2.2 hr
   have hgl := (NG.suffix hN').head.1
   obtain ⟨a1, a2, a3, a4⟩ := addG_spec (rest := m) hgl hA (NG.apart hN')
   refine ⟨flatG f (addG g.r m A.reverse).reverse, ⟨_, a1, fun x hx => ?_, rfl⟩, ?_, fun h => ?_⟩
   ·rcases a4 x hx with ⟨y, hy, c1, c2⟩ | ⟨c1, c2⟩
    ·refine ⟨by rw [c1]; exact (hAb y hy).1, Int.le_trans (a2 x hx) hg.2.1, by rw [c2]; exact (hAb y hy).2.2⟩
    ·refine ⟨by rw [c1]; exact hg.1, Int.le_trans (a2 x hx) hg.2.1, by rw [c2]; exact hm⟩
   ·rw [flatG_rev_length, e3, List.length_append, hq, List.length_map]
    have h1 := (total_addG g.r m A.reverse).2
    have h2 : (A.flatMap fun g => g.rest.map fun x => x.set f g.r).length = total A.reverse := by rw [total_reverse]; exact flatG_length f A
    rw [h2]
    omega
   ·rw [inL_flatG hf a1, a3, e3, inL_append, hq]
    have h1 : inL f (A.flatMap fun g => g.rest.map fun x => x.set f g.r) h ↔ inL (f + 1) (lk (h f) A.reverse) h := by
     have := inL_flatG hf hA (h := h)
     rwa [List.reverse_reverse] at this
    have h2 : inL f (r.map fun x => x.set f g.r) h ↔ (g.r.lo ≤ h f ∧ h f ≤ g.r.hi) ∧ inL (f + 1) r h := by
     unfold inL
     constructor
     ·rintro ⟨b, hb, hb'⟩
      obtain ⟨y, hy, rfl⟩ := List.mem_map.1 hb
      obtain ⟨c1, c2⟩ := (inB_split hf).1 hb'
      rw [Bx.at_set _ _ _ hf, if_pos rfl] at c1
      exact ⟨c1, y, hy, (inB_set (by omega)).1 c2⟩
     ·rintro ⟨c1, y, hy, c2⟩
      refine ⟨_, List.mem_map.2 ⟨y, hy, rfl⟩, (inB_split hf).2 ⟨?_, (inB_set (by omega)).2 c2⟩⟩
      rw [Bx.at_set _ _ _ hf, if_pos rfl]; exact c1
    rw [h1, h2]
    by_cases c : g.r.lo ≤ h f ∧ h f ≤ g.r.hi
    ·rw [if_pos c, hme, lk_above (gs := A.reverse) (fun x hx => by have := NG.apart hN' x hx; omega)]
     exact ⟨fun h => .inr ⟨c, h⟩, fun h => h.elim (fun h => absurd h inL_nil) (·.2)⟩
    ·rw [if_neg c]
     exact ⟨.inl, fun h => h.elim id (fun h => absurd h.1 c)⟩
theorem gfold_oldest {F : Int → List Bx} : ∀ {ss : List Rg} {gs : List Grp} {g : Grp}, (∃ A, gs = A ++ [g]) → ∃ A g', gfold F ss gs = A ++ [g'] ∧ g'.r.lo = g.r.lo ∧ g'.rest = g.rest
 | [], gs, g, ⟨A, h⟩ => ⟨A, g, h, rfl, rfl⟩
 | s :: ss, gs, g, ⟨A, h⟩ => by
  subst h
  rw [gfold]
  have : ∃ A' g', addG s (F s.lo) (A ++ [g]) = A' ++ [g'] ∧ g'.r.lo = g.r.lo ∧ g'.rest = g.rest := by
   cases A with
   | nil =>
    simp only [List.nil_append, addG]
    split
    ·exact ⟨[], g, rfl, rfl, rfl⟩
    ·split
     ·exact ⟨[], _, rfl, rfl, rfl⟩
     ·exact ⟨[_], g, rfl, rfl, rfl⟩
   | cons x A =>
    simp only [List.cons_append, addG]
    split
    ·exact ⟨x :: A, g, rfl, rfl, rfl⟩
    ·split
     ·exact ⟨_ :: A, g, rfl, rfl, rfl⟩
     ·exact ⟨_ :: x :: A, g, rfl, rfl, rfl⟩
  obtain ⟨A', g', e, e1, e2⟩ := this
  rw [e]
  obtain ⟨A2, g2, e', e3, e4⟩ := gfold_oldest (F := F) (ss := ss) ⟨A', rfl⟩ (g := g')
  exact ⟨A2, g2, e', by omega, e4.trans e2⟩
theorem gfold_append (F : Int → List Bx) : ∀ (ss tt : List Rg) (gs : List Grp), gfold F (ss ++ tt) gs = gfold F tt (gfold F ss gs)
 | [], _, _ => rfl
 | s :: ss, tt, gs => by rw [List.cons_append, gfold, gfold, gfold_append F ss tt]
theorem canonF_first {op : Bool → Bool → Bool} {f n : Nat} {a b : List Bx} {A B : List Rg} {s : Rg} (hs : segs (topOf f) (pts f a b) = A ++ s :: B) (h0 : ∀ t ∈ A, canonF op (f + 1) n (covB a f t.lo) (covB b f t.lo) = [])
  {x : Bx} {xs : List Bx} (hx : canonF op (f + 1) n (covB a f s.lo) (covB b f s.lo) = x :: xs) : ∃ r ys, canonF op f (n + 1) a b = x.set f r :: ys ∧ r.lo = s.lo := by
 rw [canonF_succ, groupsF, hs, gfold_append, gfold_none (ss := A) h0, gfold, hx]
 obtain ⟨C, g, e, e1, e2⟩ := gfold_oldest (F := fun v => canonF op (f + 1) n (covB a f v) (covB b f v)) (ss := B) (gs := addG s (x :: xs) []) (g := ⟨s, x :: xs⟩) ⟨[], by simp [addG]⟩
 rw [e, List.reverse_append]
 dsimp only at e1 e2
 refine ⟨g.r, (xs.map fun y => y.set f g.r) ++ flatG f C.reverse, ?_, e1⟩
 simp only [List.reverse_cons, List.reverse_nil, List.nil_append, flatG, List.cons_append, List.flatMap_cons, e2, List.map_cons]
theorem canonF_empty {op : Bool → Bool → Bool} {f n : Nat} {a b : List Bx} (h0 : ∀ t ∈ segs (topOf f) (pts f a b), canonF op (f + 1) n (covB a f t.lo) (covB b f t.lo) = []) : canonF op f (n + 1) a b = [] := by
 rw [canonF_succ, groupsF, gfold_none h0]; rfl
def lexLe : Nat → Nat → (Nat → Int) → (Nat → Int) → Prop
 | _, 0, _, _ => True
 | f, n + 1, p, q => p f < q f ∨ p f = q f ∧ lexLe (f + 1) n p q
theorem lexLe_congr {p p' : Nat → Int} : ∀ {n f : Nat} {q : Nat → Int}, (∀ k, f ≤ k → k < f + n → p k = p' k) → (lexLe f n p q ↔ lexLe f n p' q)
 | 0, _, _, _ => Iff.rfl
 | n + 1, f, q, h => by
  rw [lexLe, lexLe, h f (Nat.le_refl _) (by omega), lexLe_congr (n := n) fun k h1 h2 => h k (by omega) (by omega)]
theorem Cn.least : ∀ {n f : Nat}, f + n = 5 → ∀ {x : Bx} {l : List Bx}, Cn f n (x :: l) → ∀ h, inL f (x :: l) h → lexLe f n (fun k => (x.at k).lo) h
 | 0, _, _, _, _, _, _, _ => trivial
 | n + 1, f, hfn, x, l, ⟨gs, gN, gb, gl⟩, h, hh => by
  have hf : f < 5 := by omega
  obtain ⟨G, hG⟩ : ∃ G, gs.reverse = G := ⟨_, rfl⟩
  rw [gl] at hh
  rw [hG] at gl
  cases G with
  | nil => cases gl
  | cons g G =>
   have e : gs = G.reverse ++ [g] := by rw [← List.reverse_reverse gs, hG, List.reverse_cons]
   have hne := (NG.suffix (e ▸ gN)).head.2
   have hgm : g ∈ gs := by rw [e]; simp
   obtain ⟨y, ys, hy⟩ := List.exists_cons_of_ne_nil hne
   have hx : x = y.set f g.r := by
    simp only [flatG, List.flatMap_cons, hy, List.map_cons, List.cons_append, List.cons.injEq] at gl
    exact gl.1
   obtain ⟨b, hb, hb'⟩ := hh
   obtain ⟨g2, hg2, z, hz, rfl⟩ := mem_flatG.1 hb
   obtain ⟨c1, c2⟩ := (inB_split hf).1 hb'
   rw [Bx.at_set _ _ _ hf, if_pos rfl] at c1
   rw [inB_set (by omega)] at c2
   have hlo : (x.at f).lo = g.r.lo := by rw [hx, Bx.at_set _ _ _ hf, if_pos rfl]
   rw [lexLe, hlo]
   have hle : g.r.lo ≤ g2.r.lo ∧ (g2 ≠ g → g.r.hi < g2.r.lo) := by
    have hm : g2 ∈ G.reverse ++ [g] := e ▸ List.mem_reverse.1 hg2
    have : ∀ {A : List Grp}, NG (A ++ [g]) → ∀ x ∈ A, g.r.hi < x.r.lo := by
     intro A
     induction A with
     | nil => intro _ x hx; cases hx
     | cons a A ih =>
      intro hN x hx
      rcases List.mem_cons.1 hx with rfl | hx
      ·exact hN.below g (by simp)
      ·exact ih hN.tail x hx
    rcases List.mem_append.1 hm with hm | hm
    ·have h1 := this (e ▸ gN) g2 hm
     have h2 := (NG.suffix (e ▸ gN)).head.1
     exact ⟨by omega, fun _ => h1⟩
    ·rw [List.mem_singleton.1 hm]; exact ⟨Int.le_refl _, fun h => absurd rfl h⟩
   by_cases c : g.r.lo < h f
   ·exact .inl c
   ·right
    have e2 : g2 = g := Classical.byContradiction fun hne => by have := hle.2 hne; have := (NG.suffix (e ▸ gN)).head.1; omega
    subst e2
    refine ⟨by omega, ?_⟩
    have ih := Cn.least (show f + 1 + n = 5 by omega) (x := y) (l := ys) (hy ▸ (gb g2 hgm).2.2) h ⟨z, hy ▸ hz, c2⟩
    refine (lexLe_congr fun k h1 h2 => ?_).1 ih
    rw [hx, Bx.at_set _ _ _ (by omega), if_neg (by omega)]
theorem inL_lows {f : Nat} {x : Bx} {l : List Bx} (hx : vB x) : inL f (x :: l) fun k => (x.at k).lo :=
 ⟨x, by simp, fun k _ h => ⟨Int.le_refl _, (hx k h).2.1⟩⟩
theorem vB_zbx : vB zbx := fun k hk => by unfold zbx; rw [Bx.at_of _ hk]; have := topPos k; dsimp only; omega
theorem Cn.valid : ∀ {n f : Nat}, f + n = 5 → ∀ {l : List Bx}, Cn f n l → vL l
 | 0, _, _, l, h => by
  rcases h with rfl | rfl
  ·intro b hb; cases hb
  ·intro b hb; rw [List.mem_singleton.1 hb]; exact vB_zbx
 | n + 1, f, hfn, l, ⟨gs, gN, gb, gl⟩ => by
  subst gl
  intro b hb k hk
  obtain ⟨g, hg, y, hy, rfl⟩ := mem_flatG.1 hb
  have hg' := List.mem_reverse.1 hg
  have hy' := Cn.valid (show f + 1 + n = 5 by omega) (gb g hg').2.2 y hy k hk
  rw [Bx.at_set _ _ _ hk]
  split
  ·rename_i e
   subst e
   have hlo : g.r.lo ≤ g.r.hi := by
    have : ∀ {gs : List Grp}, NG gs → ∀ g ∈ gs, g.r.lo ≤ g.r.hi := by
     intro gs
     induction gs with
     | nil => intro _ g hg; cases hg
     | cons x gs ih =>
      intro hN g hg
      rcases List.mem_cons.1 hg with rfl | hg
      ·exact hN.head.1
      ·exact ih hN.tail g hg
    exact this gN g hg'
   exact ⟨(gb g hg').1, hlo, (gb g hg').2.1⟩
  ·exact hy'
def zTo (f : Nat) (b : Bx) : Bx := Bx.of fun i => if i < f then ⟨0, 0⟩ else b.at i
theorem zTo_at (f : Nat) (b : Bx) {k : Nat} (h : k < 5) : (zTo f b).at k = if k < f then ⟨0, 0⟩ else b.at k := Bx.at_of _ h
theorem zTo_zero (b : Bx) : zTo 0 b = b := Bx.ext_at fun k hk => by rw [zTo_at _ _ hk, if_neg (by omega)]
theorem zTo_five (b : Bx) : zTo 5 b = zbx := Bx.ext_at fun k hk => by rw [zTo_at _ _ hk, if_pos hk]; unfold zbx; rw [Bx.at_of _ hk]
theorem zTo_set {f : Nat} (hf : f < 5) (b : Bx) : (zTo (f + 1) b).set f (b.at f) = zTo f b := Bx.ext_at fun k hk => by
 rw [Bx.at_set _ _ _ hk, zTo_at _ _ hk, zTo_at _ _ hk]
 by_cases e : k = f
 ·subst e; rw [if_pos rfl, if_neg (by omega)]
 ·rw [if_neg e]
  by_cases c : k < f
  ·rw [if_pos (by omega), if_pos c]
  ·rw [if_neg (by omega), if_neg c]
theorem Cn.zero : ∀ {n f : Nat}, f + n = 5 → ∀ {l : List Bx}, Cn f n l → ∀ b ∈ l, ∀ k, k < f → b.at k = ⟨0, 0⟩
 | 0, f, hfn, l, h, b, hb, k, hk => by
  rcases h with rfl | rfl
  ·cases hb
  ·rw [List.mem_singleton.1 hb]; unfold zbx; rw [Bx.at_of _ (by omega)]
 | n + 1, f, hfn, l, ⟨gs, gN, gb, gl⟩, b, hb, k, hk => by
  subst gl
  obtain ⟨g, hg, y, hy, rfl⟩ := mem_flatG.1 hb
  rw [Bx.at_set _ _ _ (by omega), if_neg (by omega)]
  exact Cn.zero (show f + 1 + n = 5 by omega) (gb g (List.mem_reverse.1 hg)).2.2 y hy k (by omega)
theorem zTo_back {f : Nat} (hf : f < 5) {b y : Bx} {r : Rg} (hy : ∀ k, k < f + 1 → y.at k = ⟨0, 0⟩) (e : zTo f b = y.set f r) : zTo (f + 1) b = y ∧ b.at f = r := by
 have h1 : ∀ k, k < 5 → (zTo f b).at k = (y.set f r).at k := fun k _ => by rw [e]
 refine ⟨Bx.ext_at fun k hk => ?_, ?_⟩
 ·have := h1 k hk
  rw [zTo_at _ _ hk, Bx.at_set _ _ _ hk] at this
  rw [zTo_at _ _ hk]
  by_cases c : k < f + 1
  ·rw [if_pos c, hy k c]
  ·rw [if_neg c]
   rwa [if_neg (by omega), if_neg (by omega)] at this
 ·have := h1 f hf
  rwa [zTo_at _ _ hf, Bx.at_set _ _ _ hf, if_neg (by omega), if_pos rfl] at this
def runLen (f : Nat) (r : Rg) : List Bx → Nat
 | [] => 0
 | b :: l => if b.at f = r then runLen f r l + 1 else 0
theorem runLen_le (f : Nat) (r : Rg) : ∀ l, runLen f r l ≤ l.length
 | [] => Nat.le_refl _
 | b :: l => by
  have := runLen_le f r l
  rw [runLen]; split <;> simp <;> omega
theorem runLen_take {f : Nat} {r : Rg} : ∀ {l : List Bx}, ∀ b ∈ l.take (runLen f r l), b.at f = r
 | [], b, h => by simp at h
 | x :: l, b, h => by
  rw [runLen] at h
  split at h
  ·rename_i e
   rw [List.take_succ_cons] at h
   rcases List.mem_cons.1 h with rfl | h
   ·exact e
   ·exact runLen_take b h
  ·simp at h
theorem runLen_append {f : Nat} {r : Rg} : ∀ {p l : List Bx}, (∀ b ∈ p, b.at f = r) → (∀ x, l.head? = some x → x.at f ≠ r) → runLen f r (p ++ l) = p.length
 | [], [], _, _ => rfl
 | [], x :: l, _, h => by rw [List.nil_append, runLen, if_neg (h x rfl)]; rfl
 | b :: p, l, hp, h => by
  rw [List.cons_append, runLen, if_pos (hp b (by simp)), runLen_append (fun c hc => hp c (by simp [hc])) h]; rfl
def okNext (last : Option Grp) (g : Grp) : Bool := match last with
 | none => true
 | some x => !(decide (g.r.lo ≤ x.r.hi) || (decide (g.r.lo = x.r.hi + 1) && decide (g.rest = x.rest)))
theorem okNext_iff {last : Option Grp} {g : Grp} : okNext last g = true ↔ ∀ x, last = some x → x.r.hi < g.r.lo ∧ (x.r.hi + 1 = g.r.lo → x.rest ≠ g.rest) := by
 cases last with
 | none => simp [okNext]
 | some x =>
  simp only [okNext, Bool.not_eq_true', Bool.or_eq_false_iff, decide_eq_false_iff_not, Bool.and_eq_false_iff, Option.some.injEq, forall_eq']
  constructor
  ·rintro ⟨h1, h2⟩
   refine ⟨by omega, fun e => ?_⟩
   rcases h2 with h2 | h2
   ·omega
   ·exact fun h => h2 h.symm
  ·rintro ⟨h1, h2⟩
   refine ⟨by omega, ?_⟩
   by_cases e : g.r.lo = x.r.hi + 1
   ·exact .inr fun h => h2 e.symm h.symm
   ·exact .inl e
def frontG (f : Nat) (b : Bx) (l : List Bx) : Grp := ⟨b.at f, ((b :: l).take (runLen f (b.at f) (b :: l))).map (zTo (f + 1))⟩
def dvGo (chk : List Bx → Bool) (f : Nat) : Nat → Option Grp → List Bx → Bool
 | 0, _, _ => true
 | _ + 1, _, [] => true
 | k + 1, last, b :: l =>
  chk ((b :: l).take (runLen f (b.at f) (b :: l))) && (okNext last (frontG f b l) && dvGo chk f k (some (frontG f b l)) ((b :: l).drop (runLen f (b.at f) (b :: l))))
def dvG (chk : List Bx → Bool) (f : Nat) (last : Option Grp) (l : List Bx) : Bool := dvGo chk f l.length last l
def dvd : Nat → Nat → List Bx → Bool
 | _, 0, l => decide (l.length ≤ 1)
 | f, n + 1, l => dvG (fun l => dvd (f + 1) n l) f none l
theorem runLen_pos (f : Nat) (b : Bx) (l : List Bx) : 0 < runLen f (b.at f) (b :: l) := by rw [runLen, if_pos rfl]; omega
theorem dvGo_fuel (chk : List Bx → Bool) (f : Nat) : ∀ (k j : Nat) (last : Option Grp) (l : List Bx), l.length ≤ k → l.length ≤ j → dvGo chk f k last l = dvGo chk f j last l
 | 0, j, last, l, h, _ => by
  obtain rfl := List.eq_nil_of_length_eq_zero (Nat.le_zero.1 h)
  cases j <;> rfl
 | k + 1, 0, last, l, _, h => by
  obtain rfl := List.eq_nil_of_length_eq_zero (Nat.le_zero.1 h)
  rfl
 | k + 1, j + 1, last, [], _, _ => rfl
 | k + 1, j + 1, last, b :: l, hk, hj => by
  have := runLen_pos f b l
  simp only [List.length_cons] at hk hj
  rw [dvGo, dvGo, dvGo_fuel chk f k j _ _ (by simp; omega) (by simp; omega)]
theorem dvG_cons (chk : List Bx → Bool) (f : Nat) (last : Option Grp) (b : Bx) (l : List Bx) : dvG chk f last (b :: l) =
  (chk ((b :: l).take (runLen f (b.at f) (b :: l))) && (okNext last (frontG f b l) && dvG chk f (some (frontG f b l)) ((b :: l).drop (runLen f (b.at f) (b :: l))))) := by
 have := runLen_pos f b l
 unfold dvG
 rw [List.length_cons, dvGo, dvGo_fuel chk f l.length _ _ _ (by simp; omega) (Nat.le_refl _)]
def NO (last : Option Grp) : List Grp → Prop
 | [] => True
 | g :: G => (g.r.lo ≤ g.r.hi ∧ g.rest ≠ []) ∧ okNext last g = true ∧ NO (some g) G
theorem NG.cons {g : Grp} {acc : List Grp} (hN : NG acc) (hg : g.r.lo ≤ g.r.hi ∧ g.rest ≠ []) (h : okNext acc.head? g = true) : NG (g :: acc) := by
 cases acc with
 | nil => exact hg
 | cons x acc =>
  have := okNext_iff.1 h x rfl
  exact ⟨hg.1, hg.2, this.1, this.2, hN⟩
theorem NO.ng : ∀ {G acc : List Grp}, NG acc → NO acc.head? G → NG (G.reverse ++ acc)
 | [], _, h, _ => h
 | g :: G, acc, h, k => by
  rw [List.reverse_cons, List.append_assoc]
  exact NO.ng (acc := g :: acc) (h.cons k.1 k.2.1) k.2.2
theorem NG.no : ∀ {G acc : List Grp}, NG (G.reverse ++ acc) → NO acc.head? G
 | [], _, _ => trivial
 | g :: G, acc, h => by
  rw [List.reverse_cons, List.append_assoc] at h
  have h1 : NG (g :: acc) := NG.suffix h
  refine ⟨h1.head, ?_, NG.no (acc := g :: acc) h⟩
  cases acc with
  | nil => rfl
  | cons x acc => exact okNext_iff.2 fun y hy => by cases hy; exact ⟨h1.2.2.1, h1.2.2.2.1⟩
theorem dvG_yes {f n : Nat} (hf : f + (n + 1) = 5) (hchk : ∀ p, vL p → (dvd (f + 1) n p = true ↔ Cn (f + 1) n (p.map (zTo (f + 1))))) :
  ∀ (k : Nat) (l : List Bx), l.length ≤ k → vL l → ∀ last, dvG (fun l => dvd (f + 1) n l) f last l = true → ∃ G, NO last G ∧ (∀ g ∈ G, 0 ≤ g.r.lo ∧ g.r.hi ≤ topOf f ∧ Cn (f + 1) n g.rest) ∧ l.map (zTo f) = flatG f G
 | k, [], _, _, last, _ => ⟨[], trivial, by simp, rfl⟩
 | 0, b :: l, h, _, _, _ => by simp at h
 | k + 1, b :: l, h, hv, last, hd => by
  have hf5 : f < 5 := by omega
  have hp := runLen_pos f b l
  rw [dvG_cons, Bool.and_eq_true, Bool.and_eq_true] at hd
  obtain ⟨d1, d2, d3⟩ := hd
  have e := List.take_append_drop (runLen f (b.at f) (b :: l)) (b :: l)
  have hat := runLen_take (f := f) (r := b.at f) (l := b :: l)
  have hvp : vL ((b :: l).take (runLen f (b.at f) (b :: l))) := fun c hc => hv c (List.mem_of_mem_take hc)
  have hvd : vL ((b :: l).drop (runLen f (b.at f) (b :: l))) := fun c hc => hv c (List.mem_of_mem_drop hc)
  simp only [List.length_cons] at h
  obtain ⟨G, g1, g2, g3⟩ := dvG_yes hf hchk k _ (by simp; omega) hvd _ d3
  have hb := hv b (by simp) f hf5
  refine ⟨frontG f b l :: G, ⟨⟨hb.2.1, ?_⟩, d2, g1⟩, fun g hg => ?_, ?_⟩
  ·unfold frontG
   intro h0
   have := congrArg List.length h0
   simp at this
   omega
  ·rcases List.mem_cons.1 hg with rfl | hg
   ·exact ⟨hb.1, hb.2.2, (hchk _ hvp).1 d1⟩
   ·exact g2 g hg
  ·conv => lhs; rw [← e]
   rw [List.map_append, g3]
   show _ = (frontG f b l).rest.map (fun x => x.set f (b.at f)) ++ flatG f G
   congr 1
   unfold frontG
   dsimp only
   rw [List.map_map]
   refine List.map_congr_left fun c hc => ?_
   rw [Function.comp_apply, ← hat c hc, zTo_set hf5]
theorem dvG_of {f n : Nat} (hf : f + (n + 1) = 5) (hchk : ∀ p, vL p → (dvd (f + 1) n p = true ↔ Cn (f + 1) n (p.map (zTo (f + 1))))) :
  ∀ (G : List Grp) (l : List Bx), vL l → ∀ last, NO last G → (∀ g ∈ G, 0 ≤ g.r.lo ∧ g.r.hi ≤ topOf f ∧ Cn (f + 1) n g.rest) → l.map (zTo f) = flatG f G → dvG (fun l => dvd (f + 1) n l) f last l = true
 | [], l, _, last, _, _, e => by
  have : l = [] := by simpa [flatG] using e
  subst this; rfl
 | g :: G, l, hv, last, ⟨h1, h2, h3⟩, hc, e => by
  have hf5 : f < 5 := by omega
  have e' : l.map (zTo f) = g.rest.map (fun x => x.set f g.r) ++ flatG f G := e
  obtain ⟨p, q, rfl, ep, eq⟩ := List.map_eq_append_iff.1 e'
  have hz := Cn.zero (show f + 1 + n = 5 by omega) (hc g (by simp)).2.2
  have hpr : p.map (zTo (f + 1)) = g.rest ∧ ∀ b ∈ p, b.at f = g.r := by
   have key : ∀ (p r : List Bx), (∀ y ∈ r, ∀ k, k < f + 1 → y.at k = ⟨0, 0⟩) → p.map (zTo f) = r.map (fun x => x.set f g.r) → p.map (zTo (f + 1)) = r ∧ ∀ b ∈ p, b.at f = g.r := by
    intro p
    induction p with
    | nil => intro r _ h; cases r with
     | nil => simp
     | cons y r => simp at h
    | cons b p ih =>
     intro r hr h
     cases r with
     | nil => simp at h
     | cons y r =>
      simp only [List.map_cons, List.cons.injEq] at h
      obtain ⟨a1, a2⟩ := zTo_back hf5 (hr y (by simp)) h.1
      obtain ⟨b1, b2⟩ := ih r (fun z hz => hr z (by simp [hz])) h.2
      refine ⟨by rw [List.map_cons, a1, b1], fun c hc => ?_⟩
      rcases List.mem_cons.1 hc with rfl | hc
      ·exact a2
      ·exact b2 c hc
   exact key p g.rest hz ep
  cases p with
  | nil => exact absurd hpr.1.symm h1.2
  | cons b p =>
   have hb : b.at f = g.r := hpr.2 b (by simp)
   have hne : ∀ x, q.head? = some x → x.at f ≠ g.r := by
    intro x hx he
    cases q with
    | nil => cases hx
    | cons y q =>
     cases hx
     cases G with
     | nil => simp [flatG] at eq
     | cons g' G =>
      obtain ⟨c1, c2, _⟩ := h3
      obtain ⟨z, zs, hz'⟩ := List.exists_cons_of_ne_nil c1.2
      have e2 : zTo f x = z.set f g'.r := by
       have : (x :: q).map (zTo f) = g'.rest.map (fun x => x.set f g'.r) ++ flatG f G := eq
       rw [hz'] at this
       simp only [List.map_cons, List.cons_append, List.cons.injEq] at this
       exact this.1
      have := (zTo_back hf5 (Cn.zero (show f + 1 + n = 5 by omega) (hc g' (by simp)).2.2 z (by rw [hz']; simp)) e2).2
      have h5 := (okNext_iff.1 c2 g rfl).1
      rw [he] at this
      rw [this] at h5
      omega
   have hl : runLen f (b.at f) (b :: (p ++ q)) = (b :: p).length := by
    rw [hb]; exact runLen_append (p := b :: p) hpr.2 hne
   have ht : (b :: (p ++ q)).take (b :: p).length = b :: p := List.take_left' rfl
   have hd : (b :: (p ++ q)).drop (b :: p).length = q := List.drop_left' rfl
   have hg : frontG f b (p ++ q) = g := by
    unfold frontG; rw [hl, ht, hpr.1, hb]
   show dvG _ f last (b :: (p ++ q)) = true
   rw [dvG_cons, hl, ht, hd, hg, Bool.and_eq_true, Bool.and_eq_true]
   refine ⟨?_, h2, ?_⟩
   ·have := (hchk (b :: p) fun c hc => hv c (by simp only [List.mem_append]; exact .inl hc)).2
    rw [hpr.1] at this
    exact this (hc g (by simp)).2.2
   ·exact dvG_of hf hchk G q (fun c hc => hv c (by simp only [List.mem_append]; exact .inr hc)) (some g) h3 (fun x hx => hc x (by simp [hx])) eq
theorem dvd_iff : ∀ {n f : Nat}, f + n = 5 → ∀ {l : List Bx}, vL l → (dvd f n l = true ↔ Cn f n (l.map (zTo f)))
 | 0, f, hfn, l, _ => by
  obtain rfl : f = 5 := by omega
  rw [dvd, decide_eq_true_eq, Cn]
  cases l with
  | nil => simp
  | cons b l =>
   cases l with
   | nil => simp [zTo_five]
   | cons c l => simp
 | n + 1, f, hfn, l, hv => by
  have hchk : ∀ p, vL p → (dvd (f + 1) n p = true ↔ Cn (f + 1) n (p.map (zTo (f + 1)))) := fun p hp => dvd_iff (by omega) hp
  rw [dvd]
  constructor
  ·intro h
   obtain ⟨G, g1, g2, g3⟩ := dvG_yes hfn hchk _ l (Nat.le_refl _) hv none h
   refine ⟨G.reverse, ?_, fun g hg => g2 g (List.mem_reverse.1 hg), by rw [List.reverse_reverse]; exact g3⟩
   have := NO.ng (G := G) (acc := []) trivial g1
   rwa [List.append_nil] at this
  ·rintro ⟨gs, gN, gb, gl⟩
   refine dvG_of hfn hchk gs.reverse l hv none ?_ (fun g hg => gb g (List.mem_reverse.1 hg)) gl
   exact NG.no (acc := []) (by rw [List.reverse_reverse, List.append_nil]; exact gN)
theorem dvd_zero {l : List Bx} (hv : vL l) : dvd 0 5 l = true ↔ Cn 0 5 l := by
 rw [dvd_iff rfl hv]
 have : l.map (zTo 0) = l := by
  rw [show (zTo 0) = id from funext fun b => zTo_zero b]; simp
 rw [this]
theorem nodup_le : ∀ {l m : List Int}, l.Pairwise (· < ·) → (∀ x ∈ l, x ∈ m) → l.length ≤ m.length
 | [], _, _, _ => Nat.zero_le _
 | x :: l, m, hl, h => by
  have h1 := List.pairwise_cons.1 hl
  have hm := h x (by simp)
  have := nodup_le (m := m.erase x) h1.2 fun y hy => (List.mem_erase_of_ne (by have := h1.1 y hy; omega)).2 (h y (by simp [hy]))
  rw [List.length_erase_of_mem hm] at this
  have := List.length_pos_of_mem hm
  simp only [List.length_cons]; omega
def EndsIn (k : Nat) (e : List Int) (l : List Bx) : Prop := ∀ b ∈ l, (b.at k).lo ∈ e ∧ (b.at k).hi + 1 ∈ e
theorem EndsIn.cov {k : Nat} {e : List Int} {l : List Bx} (h : EndsIn k e l) (f : Nat) (v : Int) : EndsIn k e (covB l f v) := fun b hb => h b (mem_cov.1 hb).1
theorem EndsIn.mono {k : Nat} {e e' : List Int} {l : List Bx} (h : EndsIn k e l) (he : ∀ x ∈ e, x ∈ e') : EndsIn k e' l := fun b hb => ⟨he _ (h b hb).1, he _ (h b hb).2⟩
theorem pts_in {f : Nat} {e : List Int} {a b : List Bx} (ha : EndsIn f e a) (hb : EndsIn f e b) (h0 : (0 : Int) ∈ e) : ∀ x ∈ pts f a b, x ∈ e := by
 intro x hx
 unfold pts at hx
 rcases mem_ptsR.1 hx with rfl | ⟨_, r, hr, _, h'⟩
 ·exact h0
 ·rw [← List.map_append] at hr
  obtain ⟨c, hc, rfl⟩ := List.mem_map.1 hr
  have : (c.at f).lo ∈ e ∧ (c.at f).hi + 1 ∈ e := by
   rcases List.mem_append.1 hc with h | h
   ·exact ha c h
   ·exact hb c h
  rcases h' with rfl | rfl
  ·exact this.1
  ·exact this.2
theorem segs_ends (top : Int) : ∀ (l : List Int), ∀ s ∈ segs top l, s.lo ∈ l ∧ (s.hi + 1 ∈ l ∨ s.hi = top)
 | [], s, hs => by cases hs
 | [p], s, hs => by
  simp only [segs, List.mem_singleton] at hs
  subst hs
  exact ⟨by simp, .inr rfl⟩
 | p :: q :: l, s, hs => by
  rw [segs] at hs
  rcases List.mem_cons.1 hs with rfl | hs
  ·refine ⟨by simp, .inl ?_⟩
   show q - 1 + 1 ∈ _
   rw [Int.sub_add_cancel]; simp
  ·have := segs_ends top (q :: l) s hs
   refine ⟨List.mem_cons_of_mem _ this.1, this.2.imp (List.mem_cons_of_mem _) id⟩
theorem gfold_ends {F : Int → List Bx} {Φ : Rg → Prop} : ∀ {ss : List Rg} {gs : List Grp}, (∀ s ∈ ss, ∀ t ∈ ss, Φ ⟨s.lo, t.hi⟩) → (∀ g ∈ gs, ∀ t ∈ ss, Φ ⟨g.r.lo, t.hi⟩) → (∀ g ∈ gs, Φ g.r) → ∀ g ∈ gfold F ss gs, Φ g.r
 | [], gs, _, _, h => h
 | s :: ss, gs, h1, h2, h3 => by
  rw [gfold]
  have hm : ∀ g ∈ addG s (F s.lo) gs, g ∈ gs ∨ (∃ x ∈ gs, g.r = ⟨x.r.lo, s.hi⟩) ∨ g.r = s := by
   cases gs with
   | nil =>
    intro g hg
    rw [addG] at hg
    split at hg
    ·cases hg
    ·rw [List.mem_singleton.1 hg]; exact .inr (.inr rfl)
   | cons x gs =>
    intro g hg
    rw [addG] at hg
    split at hg
    ·exact .inl hg
    ·split at hg
     ·rcases List.mem_cons.1 hg with rfl | hg
      ·exact .inr (.inl ⟨x, by simp, rfl⟩)
      ·exact .inl (List.mem_cons_of_mem _ hg)
     ·rcases List.mem_cons.1 hg with rfl | hg
      ·exact .inr (.inr rfl)
      ·exact .inl hg
  refine gfold_ends (fun a ha b hb => h1 a (List.mem_cons_of_mem _ ha) b (List.mem_cons_of_mem _ hb)) (fun g hg t ht => ?_) fun g hg => ?_
  ·rcases hm g hg with h | ⟨x, hx, h⟩ | h
   ·exact h2 g h t (List.mem_cons_of_mem _ ht)
   ·rw [h]; exact h2 x hx t (List.mem_cons_of_mem _ ht)
   ·rw [h]; exact h1 s (by simp) t (List.mem_cons_of_mem _ ht)
  ·rcases hm g hg with h | ⟨x, hx, h⟩ | h
   ·exact h3 g h
   ·rw [h]; exact h2 x hx s (by simp)
   ·rw [h]; exact h1 s (by simp) s (by simp)
theorem canonF_ends (op : Bool → Bool → Bool) {k : Nat} {e : List Int} (hk : k < 5) (h0 : (0 : Int) ∈ e) (ht : topOf k + 1 ∈ e) : ∀ (n f : Nat), f + n = 5 → f ≤ k → ∀ {a b : List Bx}, EndsIn k e a → EndsIn k e b → EndsIn k e (canonF op f n a b)
 | 0, f, hfn, hfk, _, _, _, _ => by omega
 | n + 1, f, hfn, hfk, a, b, ha, hb => by
  rw [canonF_succ]
  intro x hx
  obtain ⟨g, hg, y, hy, rfl⟩ := mem_flatG.1 hx
  rw [Bx.at_set _ _ _ hk]
  have hg' := List.mem_reverse.1 hg
  split
  ·rename_i e1
   subst e1
   refine gfold_ends (Φ := fun r => r.lo ∈ e ∧ r.hi + 1 ∈ e) (ss := segs (topOf k) (pts k a b)) (gs := []) (fun s hs t ht' => ?_) (by simp) (by simp) g hg'
   have h1 := (segs_ends _ _ s hs).1
   have h2 := (segs_ends _ _ t ht').2
   refine ⟨pts_in ha hb h0 _ h1, ?_⟩
   rcases h2 with h2 | h2
   ·exact pts_in ha hb h0 _ h2
   ·show t.hi + 1 ∈ e
    rw [h2]; exact ht
  ·have key : ∀ {ss : List Rg} {gs : List Grp}, (∀ g ∈ gs, EndsIn k e g.rest) → ∀ g ∈ gfold (fun v => canonF op (f + 1) n (covB a f v) (covB b f v)) ss gs, EndsIn k e g.rest := by
    intro ss
    induction ss with
    | nil => intro gs h; exact h
    | cons s ss ih =>
     intro gs h
     rw [gfold]
     refine ih fun g hg => ?_
     have hr : EndsIn k e (canonF op (f + 1) n (covB a f s.lo) (covB b f s.lo)) := canonF_ends op hk h0 ht n (f + 1) (by omega) (by omega) (ha.cov _ _) (hb.cov _ _)
     generalize canonF op (f + 1) n (covB a f s.lo) (covB b f s.lo) = rest at hg hr
     cases gs with
     | nil =>
      rw [addG] at hg
      split at hg
      ·cases hg
      ·rw [List.mem_singleton.1 hg]; exact hr
     | cons x gs =>
      rw [addG] at hg
      split at hg
      ·exact h g hg
      ·split at hg
       ·rcases List.mem_cons.1 hg with rfl | hg
        ·exact h x (by simp)
        ·exact h g (List.mem_cons_of_mem _ hg)
       ·rcases List.mem_cons.1 hg with rfl | hg
        ·exact hr
        ·exact h g hg
   exact key (gs := []) (by simp) g hg' y hy
theorem canonF_le (op : Bool → Bool → Bool) {N : Nat} {e : Nat → List Int} (h0 : ∀ k, k < 5 → (0 : Int) ∈ e k ∧ (e k).length ≤ N) : ∀ (n f : Nat), f + n = 5 → ∀ {a b : List Bx}, (∀ k, k < 5 → EndsIn k (e k) a) → (∀ k, k < 5 → EndsIn k (e k) b) → (canonF op f n a b).length ≤ N ^ n
 | 0, f, _, a, b, _, _ => by rw [canonF]; split <;> simp
 | n + 1, f, hfn, a, b, ha, hb => by
  rw [canonF_succ, flatG_rev_length]
  have h1 := total_gfold_le (F := fun v => canonF op (f + 1) n (covB a f v) (covB b f v)) (ss := segs (topOf f) (pts f a b)) (gs := []) (m := N ^ n) fun s _ =>
   canonF_le op h0 n (f + 1) (by omega) (fun k hk => (ha k hk).cov _ _) (fun k hk => (hb k hk).cov _ _)
  have h2 : (pts f a b).length ≤ N := Nat.le_trans (nodup_le (pts_asc _ _ _) (pts_in (ha f (by omega)) (hb f (by omega)) (h0 f (by omega)).1)) (h0 f (by omega)).2
  rw [segs_length] at h1
  have h3 : total [] = 0 := rfl
  have h4 := Nat.mul_le_mul_right (N ^ n) h2
  rw [Nat.pow_succ, Nat.mul_comm]
  unfold groupsF
  omega
def Ends (N : Nat) (l : List Bx) : Prop := ∀ k, k < 5 → ∃ e : List Int, e.length ≤ N ∧ EndsIn k (0 :: (topOf k + 1) :: e) l
theorem Ends.mono {N M : Nat} {l : List Bx} (h : Ends N l) (hle : N ≤ M) : Ends M l := fun k hk => by
 obtain ⟨e, h1, h2⟩ := h k hk
 exact ⟨e, by omega, h2⟩
theorem Ends.sub {N : Nat} {l m : List Bx} (h : Ends N l) (hs : ∀ b ∈ m, b ∈ l) : Ends N m := fun k hk => by
 obtain ⟨e, h1, h2⟩ := h k hk
 exact ⟨e, h1, fun b hb => h2 b (hs b hb)⟩
theorem ends_len : ∀ (l : List Bx), Ends (2 * l.length) l := fun l k _ => by
 refine ⟨l.flatMap fun b => [(b.at k).lo, (b.at k).hi + 1], ?_, fun b hb => ?_⟩
 ·rw [List.length_flatMap]; simp
  induction l with
  | nil => simp
  | cons b l ih => simp at ih ⊢; omega
 ·simp only [List.mem_cons, List.mem_flatMap]
  exact ⟨.inr (.inr ⟨b, hb, by simp⟩), .inr (.inr ⟨b, hb, by simp⟩)⟩
theorem ends_canon {op : Bool → Bool → Bool} {N M : Nat} {a b : List Bx} (ha : Ends N a) (hb : Ends M b) : Ends (N + M) (canonF op 0 5 a b) := fun k hk => by
 obtain ⟨e, h1, h2⟩ := ha k hk
 obtain ⟨e', h1', h2'⟩ := hb k hk
 refine ⟨e ++ e', by simp; omega, canonF_ends op hk (by simp) (by simp) 5 0 rfl (Nat.zero_le _) (h2.mono ?_) (h2'.mono ?_)⟩ <;> (intro x hx; simp only [List.mem_cons, List.mem_append] at hx ⊢; rcases hx with h | h | h <;> simp [h])
theorem canon_len {op : Bool → Bool → Bool} {N M : Nat} {a b : List Bx} (ha : Ends N a) (hb : Ends M b) {n f : Nat} (hfn : f + n = 5) : (canonF op f n a b).length ≤ (N + M + 2) ^ n := by
 have hx : ∃ e : Nat → List Int, ∀ k, k < 5 → ((0 : Int) ∈ e k ∧ (e k).length ≤ N + M + 2) ∧ EndsIn k (e k) a ∧ EndsIn k (e k) b := by
  have : ∀ k, ∃ e : List Int, k < 5 → ((0 : Int) ∈ e ∧ e.length ≤ N + M + 2) ∧ EndsIn k e a ∧ EndsIn k e b := fun k => by
   by_cases hk : k < 5
   ·obtain ⟨e, h1, h2⟩ := ha k hk
    obtain ⟨e', h1', h2'⟩ := hb k hk
    refine ⟨0 :: (topOf k + 1) :: (e ++ e'), fun _ => ⟨⟨by simp, by simp; omega⟩, h2.mono ?_, h2'.mono ?_⟩⟩ <;> (intro x hx; simp only [List.mem_cons, List.mem_append] at hx ⊢; rcases hx with h | h | h <;> simp [h])
   ·exact ⟨[], fun h => absurd h hk⟩
  exact ⟨fun k => Classical.choose (this k), fun k => Classical.choose_spec (this k)⟩
 obtain ⟨e, he⟩ := hx
 exact canonF_le op (N := N + M + 2) (e := e) (fun k hk => (he k hk).1) n f hfn (fun k hk => (he k hk).2.1) (fun k hk => (he k hk).2.2)
def orB (a b : Bool) : Bool := a || b
def andB (a b : Bool) : Bool := a && b
def exB (a b : Bool) : Bool := a && !b
def xorB (a b : Bool) : Bool := a != b
def limF (l : List Bx) : Option (List Bx) := if l.length ≤ 4096 then some l else none
def makeGo : List Bx → List Bx → Option (List Bx)
 | s, [] => some s
 | s, b :: l => match limF (canonF orB 0 5 s [b]) with
  | none => none
  | some s' => makeGo s' l
theorem limF_some {l s : List Bx} : limF l = some s ↔ l.length ≤ 4096 ∧ l = s := by
 unfold limF; split
 ·rename_i h; simp [h]
 ·rename_i h; simp [h]
theorem mem_canon {op : Bool → Bool → Bool} {h : Nat → Int} (hok : okP h) {a b : List Bx} (ha : vL a) (hb : vL b) {p q : Bool} (hp : p = true ↔ inL 0 a h) (hq : q = true ↔ inL 0 b h) : inL 0 (canonF op 0 5 a b) h ↔ op p q = true :=
 mem_canonF op hok 5 0 rfl ha hb p q hp hq
noncomputable def inq (l : List Bx) (h : Nat → Int) : Bool := @decide (inL 0 l h) (Classical.propDecidable _)
theorem inq_iff {l : List Bx} {h : Nat → Int} : inq l h = true ↔ inL 0 l h := by unfold inq; simp
theorem inq_canon {op : Bool → Bool → Bool} {h : Nat → Int} (hok : okP h) {a b : List Bx} (ha : vL a) (hb : vL b) : inq (canonF op 0 5 a b) h = op (inq a h) (inq b h) := by
 rw [Bool.eq_iff_iff, inq_iff]; exact mem_canon hok ha hb inq_iff inq_iff
theorem inq_cons {b : Bx} {l : List Bx} {h : Nat → Int} : inq (b :: l) h = (inq [b] h || inq l h) := by
 rw [Bool.eq_iff_iff, Bool.or_eq_true, inq_iff, inq_iff, inq_iff, ← inL_append]; rfl
theorem inq_nil {h : Nat → Int} : inq [] h = false := by
 have : ¬ inq [] h = true := fun h1 => inL_nil (inq_iff.1 h1)
 simpa using this
theorem Cn.extq {l m : List Bx} (hl : Cn 0 5 l) (hm : Cn 0 5 m) (he : ∀ h, okP h → inq l h = inq m h) : l = m :=
 Cn.ext rfl hl hm fun h hok => by rw [← inq_iff, ← inq_iff, he h hok]
theorem makeGo_spec : ∀ {l s r : List Bx}, Cn 0 5 s → s.length ≤ 4096 → vL l → makeGo s l = some r → Cn 0 5 r ∧ r.length ≤ 4096 ∧ ∀ h, okP h → inq r h = (inq s h || inq l h)
 | [], s, r, hs, hl, _, e => by
  cases e
  exact ⟨hs, hl, fun h _ => by rw [inq_nil]; simp⟩
 | b :: l, s, r, hs, hl, hv, e => by
  rw [makeGo] at e
  cases hc : limF (canonF orB 0 5 s [b]) with
  | none => rw [hc] at e; cases e
  | some t =>
   rw [hc] at e
   obtain ⟨h1, rfl⟩ := limF_some.1 hc
   have hb : vL [b] := fun c hc => by rw [List.mem_singleton.1 hc]; exact hv b (by simp)
   have hsv := hs.valid rfl
   obtain ⟨r1, r2, r3⟩ := makeGo_spec (canonF_cn orB 5 0 rfl hsv hb) h1 (fun c hc => hv c (by simp [hc])) e
   refine ⟨r1, r2, fun h hok => ?_⟩
   rw [r3 h hok, inq_canon hok hsv hb, inq_cons (b := b) (l := l), orB, Bool.or_assoc]
theorem makeGo_prefix : ∀ {l s p x : List Bx}, Cn 0 5 x → x.length ≤ 4096 → x = p ++ l → Cn 0 5 s → (∀ h, okP h → inq s h = inq p h) → makeGo s l = some x
 | [], s, p, x, hx, _, e, hs, he => by
  rw [List.append_nil] at e
  subst e
  rw [makeGo, hs.extq hx he]
 | b :: l, s, p, x, hx, hl, e, hs, he => by
  have hxv := hx.valid rfl
  have hsv := hs.valid rfl
  have hb : vL [b] := fun c hc => by rw [List.mem_singleton.1 hc]; exact hxv b (by rw [e]; simp)
  obtain ⟨m, m1, m2, m3⟩ := Cn.prefix (show 0 + 5 = 5 from rfl) hx (p := p ++ [b]) ⟨l, by rw [e]; simp⟩
  have hmem : ∀ h, okP h → inq (canonF orB 0 5 s [b]) h = inq (p ++ [b]) h := fun h hok => by
   rw [inq_canon hok hsv hb, he h hok, Bool.eq_iff_iff, orB, Bool.or_eq_true, inq_iff, inq_iff, inq_iff, inL_append]
  have hm : canonF orB 0 5 s [b] = m := Cn.extq (canonF_cn orB 5 0 rfl hsv hb) m1 fun h hok => by
   rw [hmem h hok, Bool.eq_iff_iff, inq_iff, inq_iff, m3]
  have hlen : m.length ≤ 4096 := by
   have : (p ++ [b]).length ≤ x.length := by rw [e]; simp
   omega
  rw [makeGo, hm, limF, if_pos hlen]
  exact makeGo_prefix (p := p ++ [b]) hx hl (by rw [e]; simp) m1 fun h hok => by rw [← hm, hmem h hok]
theorem makeGo_canon {x : List Bx} (hx : Cn 0 5 x) (hl : x.length ≤ 4096) : makeGo [] x = some x :=
 makeGo_prefix (p := []) hx hl rfl (cn_nil _ _) fun _ _ => rfl
end Go.Proofs.YtbdfblgdmappeaaGreatDoor
