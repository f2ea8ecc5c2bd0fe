/- The canonical form of what an operation makes of two lists of boxes: members, uniqueness. No program in sight. -/
import Derived.Shelf.SlSortCmp.WholeK
import Derived.Shelf.Spec.SlicesGrow
import Derived.Test.YtfhkmkbfgmbbaaaGreatDoorRows
import Derived.Shelf.Small.Bits
import Derived.Test.YtfhkmkbfgmbbaaaGreatDoorMA
import Derived.Test.YtfhkmkbfgmbbaaaGreatDoorMB
namespace Go.Proofs.YtfhkmkbfgmbbaaaGreatDoor
open Go.RowKit
/-- ascending insertion without doubles -/
def insU (v : Int) : List Int → List Int
  | [] => [v]
  | x :: l => if v < x then v :: x :: l else if v = x then x :: l else x :: insU v l
theorem mem_insU {v x : Int} : ∀ {l : List Int}, x ∈ insU v l ↔ x = v ∨ x ∈ l
  | [] => by simp [insU]
  | y :: l => by
    have ih := mem_insU (v := v) (x := x) (l := l)
    unfold insU
    split
    · simp
    · split
      · rename_i e; subst e; simp
      · simp only [List.mem_cons, ih]
        constructor
        · rintro (h | h | h) <;> simp [h]
        · rintro (h | h | h) <;> simp [h]
theorem insU_asc {v : Int} : ∀ {l : List Int}, l.Pairwise (· < ·) → (insU v l).Pairwise (· < ·)
  | [], _ => by simp [insU]
  | y :: l, h => by
    have h1 := List.pairwise_cons.1 h
    unfold insU
    split
    · rename_i hv
      refine List.pairwise_cons.2 ⟨fun x hx => ?_, h⟩
      rcases List.mem_cons.1 hx with rfl | hx
      · exact hv
      · have := h1.1 x hx; omega
    · split
      · exact h
      · refine List.pairwise_cons.2 ⟨fun x hx => ?_, insU_asc h1.2⟩
        rcases mem_insU.1 hx with rfl | hx
        · omega
        · exact h1.1 x hx
/-- ascending lists without doubles are known by their members -/
theorem asc_ext : ∀ {l m : List Int}, l.Pairwise (· < ·) → m.Pairwise (· < ·) → (∀ x, x ∈ l ↔ x ∈ m) → l = m
  | [], [], _, _, _ => rfl
  | [], y :: m, _, _, h => absurd ((h y).2 (by simp)) (by simp)
  | x :: l, [], _, _, h => absurd ((h x).1 (by simp)) (by simp)
  | x :: l, y :: m, hl, hm, h => by
    have h1 := List.pairwise_cons.1 hl
    have h2 := List.pairwise_cons.1 hm
    have e : x = y := by
      rcases List.mem_cons.1 ((h x).1 (by simp)) with e | hx
      · exact e
      · rcases List.mem_cons.1 ((h y).2 (by simp)) with e | hy
        · exact e.symm
        · have := h1.1 y hy; have := h2.1 x hx; omega
    subst e
    refine congrArg (x :: ·) (asc_ext h1.2 h2.2 fun z => ?_)
    constructor
    · intro hz
      rcases List.mem_cons.1 ((h z).1 (by simp [hz])) with e | hz'
      · have := h1.1 z hz; omega
      · exact hz'
    · intro hz
      rcases List.mem_cons.1 ((h z).2 (by simp [hz])) with e | hz'
      · have := h2.1 z hz; omega
      · exact hz'
def insT (top v : Int) (l : List Int) : List Int := if top < v then l else insU v l
def ptsR (top : Int) (rs : List Rg) : List Int := rs.foldl (fun o r => if r.lo ≤ r.hi then insT top (r.hi + 1) (insT top r.lo o) else o) [0]
theorem mem_insT {top v x : Int} {l : List Int} : x ∈ insT top v l ↔ (x = v ∧ v ≤ top) ∨ x ∈ l := by
  unfold insT; split
  · constructor
    · intro h; exact .inr h
    · rintro (⟨rfl, h⟩ | h)
      · omega
      · exact h
  · rw [mem_insU]; constructor
    · rintro (rfl | h)
      · exact .inl ⟨rfl, by omega⟩
      · exact .inr h
    · rintro (⟨rfl, _⟩ | h) <;> simp_all
theorem insT_asc {top v : Int} {l : List Int} (h : l.Pairwise (· < ·)) : (insT top v l).Pairwise (· < ·) := by
  unfold insT; split
  · exact h
  · exact insU_asc h
theorem ptsR_fold (top : Int) : ∀ (rs : List Rg) (o : List Int), o.Pairwise (· < ·) →
    (rs.foldl (fun o r => if r.lo ≤ r.hi then insT top (r.hi + 1) (insT top r.lo o) else o) o).Pairwise (· < ·) ∧
    ∀ x, x ∈ rs.foldl (fun o r => if r.lo ≤ r.hi then insT top (r.hi + 1) (insT top r.lo o) else o) o ↔ x ∈ o ∨ x ≤ top ∧ ∃ r ∈ rs, r.lo ≤ r.hi ∧ (x = r.lo ∨ x = r.hi + 1)
  | [], o, h => by simp [h]
  | r :: rs, o, h => by
    simp only [List.foldl_cons]
    by_cases hr : r.lo ≤ r.hi
    · rw [if_pos hr]
      obtain ⟨h1, h2⟩ := ptsR_fold top rs _ (insT_asc (insT_asc h) : (insT top (r.hi + 1) (insT top r.lo o)).Pairwise (· < ·))
      refine ⟨h1, fun x => ?_⟩
      rw [h2, mem_insT, mem_insT]
      simp only [List.mem_cons]
      constructor
      · rintro ((⟨h, h'⟩ | ⟨h, h'⟩ | h) | ⟨h, q, hq, h'⟩)
        · exact .inr ⟨by omega, r, .inl rfl, hr, .inr h⟩
        · exact .inr ⟨by omega, r, .inl rfl, hr, .inl h⟩
        · exact .inl h
        · exact .inr ⟨h, q, .inr hq, h'⟩
      · rintro (h | ⟨h, q, rfl | hq, h', h''⟩)
        · exact .inl (.inr (.inr h))
        · rcases h'' with e | e
          · exact .inl (.inr (.inl ⟨e, by omega⟩))
          · exact .inl (.inl ⟨e, by omega⟩)
        · exact .inr ⟨h, q, hq, h', h''⟩
    · rw [if_neg hr]
      obtain ⟨h1, h2⟩ := ptsR_fold top rs o h
      refine ⟨h1, fun x => ?_⟩
      rw [h2]
      simp only [List.mem_cons]
      constructor
      · rintro (h | ⟨h, q, hq, h'⟩)
        · exact .inl h
        · exact .inr ⟨h, q, .inr hq, h'⟩
      · rintro (h | ⟨h, q, rfl | hq, h', h''⟩)
        · exact .inl h
        · exact absurd h' hr
        · exact .inr ⟨h, q, hq, h', h''⟩
theorem ptsR_asc (top : Int) (rs : List Rg) : (ptsR top rs).Pairwise (· < ·) := (ptsR_fold top rs [0] (by simp)).1
theorem mem_ptsR {top : Int} {rs : List Rg} {x : Int} : x ∈ ptsR top rs ↔ x = 0 ∨ x ≤ top ∧ ∃ r ∈ rs, r.lo ≤ r.hi ∧ (x = r.lo ∨ x = r.hi + 1) := by
  unfold ptsR; rw [(ptsR_fold top rs [0] (by simp)).2]; simp
theorem topPos (f : Nat) : 0 < topOf f := by unfold topOf; split <;> omega
/-- values with equal rests -/
structure Grp where
  r : Rg
  rest : List Bx
def flatG (f : Nat) (gs : List Grp) : List Bx := gs.flatMap fun g => g.rest.map fun x => x.set f g.r
def zbx : Bx := Bx.of fun _ => ⟨0, 0⟩
/-- what a value's rest is -/
def lk (v : Int) : List Grp → List Bx
  | [] => []
  | g :: gs => if g.r.lo ≤ v ∧ v ≤ g.r.hi then g.rest else lk v gs
/-- newest first: apart, ascending, never two that could be joined -/
def NG : List Grp → Prop
  | [] => True
  | [g] => g.r.lo ≤ g.r.hi ∧ g.rest ≠ []
  | g :: x :: gs => g.r.lo ≤ g.r.hi ∧ g.rest ≠ [] ∧ x.r.hi < g.r.lo ∧ (x.r.hi + 1 = g.r.lo → x.rest ≠ g.rest) ∧ NG (x :: gs)
theorem NG.tail {g : Grp} {gs : List Grp} (h : NG (g :: gs)) : NG gs := by
  cases gs with
  | nil => trivial
  | cons x gs => exact h.2.2.2.2
theorem NG.head {g : Grp} {gs : List Grp} (h : NG (g :: gs)) : g.r.lo ≤ g.r.hi ∧ g.rest ≠ [] := by
  cases gs with
  | nil => exact h
  | cons x gs => exact ⟨h.1, h.2.1⟩
theorem NG.below {g : Grp} : ∀ {gs : List Grp}, NG (g :: gs) → ∀ x ∈ gs, x.r.hi < g.r.lo
  | [], _, x, hx => by cases hx
  | y :: gs, h, x, hx => by
    rcases List.mem_cons.1 hx with rfl | hx
    · exact h.2.2.1
    · have h1 := NG.below h.2.2.2.2 x hx
      have h2 := h.2.2.2.2.head.1
      have h3 := h.2.2.1
      omega
theorem lk_above {v : Int} : ∀ {gs : List Grp}, (∀ g ∈ gs, g.r.hi < v) → lk v gs = []
  | [], _ => rfl
  | g :: gs, h => by
    have := h g (by simp)
    rw [lk, if_neg (by omega), lk_above fun x hx => h x (by simp [hx])]
/-- two lists of groups with equal rests for all values are equal -/
theorem NG.ext {top : Int} : ∀ {gs hs : List Grp}, NG gs → NG hs → (∀ g ∈ gs, 0 ≤ g.r.lo ∧ g.r.hi ≤ top) → (∀ g ∈ hs, 0 ≤ g.r.lo ∧ g.r.hi ≤ top) → (∀ v, 0 ≤ v → v ≤ top → lk v gs = lk v hs) → gs = hs
  | [], [], _, _, _, _, _ => rfl
  | [], h :: hs, _, hN, _, hb, he => by
    have h1 := hN.head
    have h2 := hb h (by simp)
    have := he h.r.hi (by omega) h2.2
    rw [lk, lk, if_pos ⟨h1.1, Int.le_refl _⟩] at this
    exact absurd this.symm h1.2
  | g :: gs, [], hN, _, hb, _, he => by
    have h1 := hN.head
    have h2 := hb g (by simp)
    have := he g.r.hi (by omega) h2.2
    rw [lk, lk, if_pos ⟨h1.1, Int.le_refl _⟩] at this
    exact absurd this h1.2
  | g :: gs, h :: hs, gN, hN, gb, hb, he => by
    have g1 := gN.head
    have h1 := hN.head
    have g2 := gb g (by simp)
    have h2 := hb h (by simp)
    have gB := gN.below
    have hB := hN.below
    have ehi : g.r.hi = h.r.hi := by
      rcases Int.lt_trichotomy g.r.hi h.r.hi with c | c | c
      · have e := he h.r.hi (by omega) h2.2
        rw [lk_above (gs := g :: gs) (fun x hx => by
          rcases List.mem_cons.1 hx with rfl | hx
          · exact c
          · have := gB x hx; omega), lk, if_pos ⟨h1.1, Int.le_refl _⟩] at e
        exact absurd e.symm h1.2
      · exact c
      · have e := he g.r.hi (by omega) g2.2
        rw [lk_above (gs := h :: hs) (fun x hx => by
          rcases List.mem_cons.1 hx with rfl | hx
          · exact c
          · have := hB x hx; omega), lk, if_pos ⟨g1.1, Int.le_refl _⟩] at e
        exact absurd e g1.2
    have er : g.rest = h.rest := by
      have e := he g.r.hi (by omega) g2.2
      rw [lk, lk, if_pos ⟨g1.1, Int.le_refl _⟩, if_pos (by omega)] at e
      exact e
    have key : ∀ {g h : Grp} {hs : List Grp}, NG (h :: hs) → h.rest = g.rest → h.r.hi = g.r.hi → g.r.lo ≤ h.r.lo - 1 → h.r.lo ≤ h.r.hi → lk (h.r.lo - 1) (h :: hs) ≠ g.rest := by
      intro g h hs hN er ehi hlt hle
      rw [lk, if_neg (by omega)]
      cases hs with
      | nil => rw [lk]; intro e; exact hN.head.2 (er.trans e.symm)
      | cons x hs =>
        intro e
        have h3 := hN.2.2.1
        have h4 := hN.2.2.2.2
        by_cases c : x.r.hi + 1 = h.r.lo
        · have := h4.head
          rw [lk, if_pos ⟨by omega, by omega⟩] at e
          exact hN.2.2.2.1 c (e.trans er.symm)
        · rw [lk_above (gs := x :: hs) (fun y hy => by
            rcases List.mem_cons.1 hy with rfl | hy
            · omega
            · have := h4.below y hy; have := h4.head.1; omega)] at e
          exact hN.head.2 (er.trans e.symm)
    have elo : g.r.lo = h.r.lo := by
      rcases Int.lt_trichotomy g.r.lo h.r.lo with c | c | c
      · have e := he (h.r.lo - 1) (by omega) (by omega)
        rw [lk, if_pos ⟨by omega, by omega⟩] at e
        exact absurd e.symm (key hN er.symm ehi.symm (by omega) h1.1)
      · exact c
      · have e := he (g.r.lo - 1) (by omega) (by omega)
        rw [lk_eq_head (g := h) (gs := hs) ⟨by omega, by omega⟩] at e
        exact absurd e (key gN er ehi (by omega) g1.1)
    have e : g = h := by
      cases g; rename_i r rest; cases h; rename_i r' rest'; cases r; cases r'
      dsimp only at ehi er elo
      subst ehi er elo; rfl
    subst e
    refine congrArg (g :: ·) (NG.ext gN.tail hN.tail (fun x hx => gb x (by simp [hx])) (fun x hx => hb x (by simp [hx])) fun v h0 ht => ?_)
    by_cases c : g.r.lo ≤ v ∧ v ≤ g.r.hi
    · rw [lk_above (gs := gs) (fun x hx => by have := gB x hx; omega), lk_above (gs := hs) (fun x hx => by have := hB x hx; omega)]
    · have := he v h0 ht
      rw [lk, lk, if_neg c, if_neg c] at this
      exact this
where lk_eq_head {g : Grp} {gs : List Grp} {v : Int} (h : g.r.lo ≤ v ∧ v ≤ g.r.hi) : lk v (g :: gs) = g.rest := by rw [lk, if_pos h]

/-! ### members -/
def inB (f : Nat) (b : Bx) (h : Nat → Int) : Prop := ∀ k, f ≤ k → k < 5 → (b.at k).lo ≤ h k ∧ h k ≤ (b.at k).hi
def inL (f : Nat) (l : List Bx) (h : Nat → Int) : Prop := ∃ b ∈ l, inB f b h
def okP (h : Nat → Int) : Prop := ∀ k, k < 5 → 0 ≤ h k ∧ h k ≤ topOf k
theorem inB_split {f : Nat} (hf : f < 5) {b : Bx} {h : Nat → Int} : inB f b h ↔ ((b.at f).lo ≤ h f ∧ h f ≤ (b.at f).hi) ∧ inB (f + 1) b h := by
  constructor
  · intro hb; exact ⟨hb f (Nat.le_refl _) hf, fun k h1 h2 => hb k (by omega) h2⟩
  · rintro ⟨h1, h2⟩ k hk hk5
    by_cases e : k = f
    · subst e; exact h1
    · exact h2 k (by omega) hk5
theorem inB_set {f k : Nat} (hk : k < f) {b : Bx} {r : Rg} {h : Nat → Int} : inB f (b.set k r) h ↔ inB f b h := by
  constructor
  · intro hb i h1 h2
    have := hb i h1 h2
    rwa [Bx.at_set _ _ _ h2, if_neg (by omega)] at this
  · intro hb i h1 h2
    rw [Bx.at_set _ _ _ h2, if_neg (by omega)]
    exact hb i h1 h2
theorem lk_iff {v : Int} {Φ : List Bx → Prop} (h0 : ¬ Φ []) : ∀ {gs : List Grp}, NG gs → ((∃ g ∈ gs, (g.r.lo ≤ v ∧ v ≤ g.r.hi) ∧ Φ g.rest) ↔ Φ (lk v gs))
  | [], _ => by simp [lk, h0]
  | g :: gs, hN => by
    have ih := lk_iff (v := v) h0 hN.tail
    rw [lk]
    by_cases c : g.r.lo ≤ v ∧ v ≤ g.r.hi
    · rw [if_pos c]
      constructor
      · rintro ⟨x, hx, h1, h2⟩
        rcases List.mem_cons.1 hx with rfl | hx
        · exact h2
        · have := hN.below x hx; omega
      · intro h; exact ⟨g, by simp, c, h⟩
    · rw [if_neg c, ← ih]
      constructor
      · rintro ⟨x, hx, h1, h2⟩
        rcases List.mem_cons.1 hx with rfl | hx
        · exact absurd h1 c
        · exact ⟨x, hx, h1, h2⟩
      · rintro ⟨x, hx, h1⟩; exact ⟨x, by simp [hx], h1⟩
theorem inL_nil {f : Nat} {h : Nat → Int} : ¬ inL f [] h := by rintro ⟨b, hb, _⟩; cases hb
theorem mem_flatG {f : Nat} {gs : List Grp} {x : Bx} : x ∈ flatG f gs ↔ ∃ g ∈ gs, ∃ y ∈ g.rest, y.set f g.r = x := by
  unfold flatG; simp only [List.mem_flatMap, List.mem_map]
theorem inL_flatG {f : Nat} (hf : f < 5) {gs : List Grp} (hN : NG gs) {h : Nat → Int} : inL f (flatG f gs.reverse) h ↔ inL (f + 1) (lk (h f) gs) h := by
  rw [← lk_iff (Φ := fun l => inL (f + 1) l h) inL_nil hN]
  unfold inL
  constructor
  · rintro ⟨b, hb, h1⟩
    obtain ⟨g, hg, y, hy, rfl⟩ := mem_flatG.1 hb
    obtain ⟨h2, h3⟩ := (inB_split hf).1 h1
    rw [Bx.at_set _ _ _ hf, if_pos rfl] at h2
    exact ⟨g, List.mem_reverse.1 hg, h2, y, hy, (inB_set (by omega)).1 h3⟩
  · rintro ⟨g, hg, h2, y, hy, h3⟩
    refine ⟨y.set f g.r, mem_flatG.2 ⟨g, List.mem_reverse.2 hg, y, hy, rfl⟩, (inB_split hf).2 ⟨?_, (inB_set (by omega)).2 h3⟩⟩
    rw [Bx.at_set _ _ _ hf, if_pos rfl]; exact h2
theorem inB_five (b : Bx) (h : Nat → Int) : inB 5 b h := fun k h1 h2 => by omega
/-- a canonical form, from a field on -/
def Cn : Nat → Nat → List Bx → Prop
  | _, 0, l => l = [] ∨ l = [zbx]
  | f, n + 1, l => ∃ gs, NG gs ∧ (∀ g ∈ gs, 0 ≤ g.r.lo ∧ g.r.hi ≤ topOf f ∧ Cn (f + 1) n g.rest) ∧ l = flatG f gs.reverse
theorem cn_nil (f : Nat) : ∀ n, Cn f n []
  | 0 => .inl rfl
  | n + 1 => ⟨[], trivial, by simp, rfl⟩
theorem lk_mem {v : Int} : ∀ {gs : List Grp}, lk v gs = [] ∨ ∃ g ∈ gs, lk v gs = g.rest
  | [] => .inl rfl
  | g :: gs => by
    rw [lk]; split
    · exact .inr ⟨g, by simp, rfl⟩
    · rcases lk_mem (v := v) (gs := gs) with h | ⟨x, hx, h⟩
      · exact .inl h
      · exact .inr ⟨x, by simp [hx], h⟩
theorem inB_congr {f : Nat} {b : Bx} {h h' : Nat → Int} (he : ∀ k, f ≤ k → k < 5 → h k = h' k) : inB f b h ↔ inB f b h' :=
  ⟨fun hb k h1 h2 => he k h1 h2 ▸ hb k h1 h2, fun hb k h1 h2 => (he k h1 h2).symm ▸ hb k h1 h2⟩
theorem inL_congr {f : Nat} {l : List Bx} {h h' : Nat → Int} (he : ∀ k, f ≤ k → k < 5 → h k = h' k) : inL f l h ↔ inL f l h' :=
  ⟨fun ⟨b, hb, h1⟩ => ⟨b, hb, (inB_congr he).1 h1⟩, fun ⟨b, hb, h1⟩ => ⟨b, hb, (inB_congr he).2 h1⟩⟩
/-- canonical forms with the same members are equal -/
theorem Cn.ext : ∀ {n f : Nat}, f + n = 5 → ∀ {l m : List Bx}, Cn f n l → Cn f n m → (∀ h, okP h → (inL f l h ↔ inL f m h)) → l = m
  | 0, f, hfn, l, m, hl, hm, he => by
    obtain rfl : f = 5 := by omega
    have hz : okP fun _ => 0 := fun k hk => ⟨Int.le_refl _, Int.le_of_lt (topPos k)⟩
    have hE := he _ hz
    rcases hl with rfl | rfl <;> rcases hm with rfl | rfl
    · rfl
    · exact absurd (hE.2 ⟨zbx, by simp, inB_five _ _⟩) inL_nil
    · exact absurd (hE.1 ⟨zbx, by simp, inB_five _ _⟩) inL_nil
    · rfl
  | n + 1, f, hfn, l, m, ⟨gs, gN, gb, gl⟩, ⟨hs, hN, hb, hl⟩, he => by
    have hf : f < 5 := by omega
    subst gl hl
    have hcn : ∀ {gs : List Grp}, (∀ g ∈ gs, 0 ≤ g.r.lo ∧ g.r.hi ≤ topOf f ∧ Cn (f + 1) n g.rest) → ∀ v, Cn (f + 1) n (lk v gs) := by
      intro gs hg v
      rcases lk_mem (v := v) (gs := gs) with h | ⟨x, hx, h⟩
      · rw [h]; exact cn_nil _ _
      · rw [h]; exact (hg x hx).2.2
    have e : gs = hs := by
      refine NG.ext (top := topOf f) gN hN (fun g hg => ⟨(gb g hg).1, (gb g hg).2.1⟩) (fun g hg => ⟨(hb g hg).1, (hb g hg).2.1⟩) fun v h0 h1 => ?_
      refine Cn.ext (by omega) (hcn gb v) (hcn hb v) fun h hok => ?_
      have hok' : okP (fun k => if k = f then v else h k) := fun k hk => by
        dsimp only
        by_cases e : k = f
        · rw [if_pos e, e]; exact ⟨h0, h1⟩
        · rw [if_neg e]; exact hok k hk
      have := he _ hok'
      rw [inL_flatG hf gN, inL_flatG hf hN] at this
      simp only [if_pos] at this
      rw [inL_congr (h' := h) (fun k hk _ => if_neg (by omega)), inL_congr (l := lk v hs) (h' := h) (fun k hk _ => if_neg (by omega))] at this
      exact this
    rw [e]
end Go.Proofs.YtfhkmkbfgmbbaaaGreatDoor

/- The reference of intervals: Insert, Starts. -/
namespace Go.Proofs.YtfhkmkbfgmbbaaaGreatDoor
open Go.RowKit
set_option maxRecDepth 100000
theorem insU_at {v : Int} : ∀ {l : List Int} {k : Nat}, k ≤ l.length → (∀ j (h : j < l.length), j < k → l[j] < v) → (∀ h : k < l.length, v < l[k]) → insU v l = l.take k ++ v :: l.drop k
  | [], k, _, _, _ => by simp [insU]
  | x :: l, 0, _, _, h2 => by
    have := h2 (by simp)
    simp only [List.getElem_cons_zero] at this
    rw [insU, if_pos this]; rfl
  | x :: l, k + 1, h, h1, h2 => by
    have h0 := h1 0 (by simp) (by omega)
    simp only [List.getElem_cons_zero] at h0
    rw [insU, if_neg (by omega), if_neg (by omega), List.take_succ_cons, List.drop_succ_cons, List.cons_append]
    rw [insU_at (k := k) (by simp only [List.length_cons] at h; omega) (fun j hj hk => by have := h1 (j + 1) (by simp; omega) (by omega); rwa [List.getElem_cons_succ] at this) (fun hk => by have := h2 (by simp; omega); rwa [List.getElem_cons_succ] at this)]
theorem insU_in {v : Int} : ∀ {l : List Int} {k : Nat} (h : k < l.length), (∀ j (h : j < l.length), j < k → l[j] < v) → l[k] = v → insU v l = l
  | [], k, h, _, _ => by simp at h
  | x :: l, 0, _, _, h2 => by
    simp only [List.getElem_cons_zero] at h2
    rw [insU, if_neg (by omega), if_pos h2.symm]
  | x :: l, k + 1, h, h1, h2 => by
    have h0 := h1 0 (by simp) (by omega)
    simp only [List.getElem_cons_zero] at h0
    rw [List.getElem_cons_succ] at h2
    rw [insU, if_neg (by omega), if_neg (by omega), insU_in (k := k) (by simp only [List.length_cons] at h; omega) (fun j hj hk => by have := h1 (j + 1) (by simp; omega) (by omega); rwa [List.getElem_cons_succ] at this) h2]
theorem src_ul {w : World} {g off i m : Nat} {l : List Int} (h : w.rangeAt g 0 (ul l)) (ho : off = i) (hm : i + m ≤ l.length) : SrcAt w 1 (some ⟨g, off, none⟩) m (ul ((l.drop i).take m)) := by
  subst ho
  refine ⟨by simp [ul]; omega, fun _ => ⟨g, off, rfl, fun j u hj => ?_⟩⟩
  have hj' : (ul l)[off + j]? = some u := by
    unfold ul at hj ⊢
    rw [List.getElem?_map, List.getElem?_take] at hj
    rw [List.getElem?_map]
    split at hj
    · rw [List.getElem?_drop] at hj; exact hj
    · simp at hj
  have := h (off + j) u hj'
  rwa [Nat.zero_add] at this
/-- a list of numbers of one's own or one that came in -/
def InsU (w : World) (g : Nat) (l : List Int) (e : Ending) (w' : World) : Prop := ∃ g' c', e = .returned (.slice (some ⟨g', 0, none⟩) l.length c') ∧ l.length ≤ c' ∧ w'.rangeAt g' 0 (ul l) ∧ (g' = g ∨ w.heap.size ≤ g') ∧ Below w.heap.size w w'
theorem src_none {w : World} {A : Option Addr} {m : Nat} (hm : m = 0) : SrcAt w 1 A m (ul []) := by
  subst hm
  exact ⟨rfl, fun h => absurd h (by omega)⟩
theorem end_cells {l : List Int} {k : Nat} (v : Int) (hk : k = l.length) : [] ++ ul (List.take k (List.drop 0 l)) ++ [Value.int IntKind.u64 v] ++ ul [] = ul (l.take k ++ v :: l.drop k) := by
  subst hk
  simp [ul]
theorem ins_cells {l : List Int} {k : Nat} (v : Int) (_hk : k ≤ l.length) : [] ++ ul (List.take k (List.drop 0 l)) ++ [Value.int IntKind.u64 v] ++ ul (List.take (l.length - k) (List.drop k l)) = ul (l.take k ++ v :: l.drop k) := by
  rw [List.drop_zero, List.take_of_length_le (l := l.drop k) (by simp)]
  simp [ul]
theorem own_u64 {w0 w : World} {X : List Chunk} {R : List Row} {S : List Ro} {v : Value} {k : Nat} {xs : List Value} {e : TypeId} {L : List Int} (hO : Own [] w0 X (⟨v, k, xs, e, 1⟩ :: R) S w) (he : xs = ul L) (h0 : 0 < k) :
    ∃ g c, v = .slice (some ⟨g, 0, none⟩) L.length c ∧ L.length ≤ c ∧ w.rangeAt g 0 (ul L) ∧ w0.heap.size ≤ g := by
  subst he
  have hn := own_new hO List.mem_cons_self
  obtain ⟨h1, h2⟩ := hO.row _ List.mem_cons_self
  dsimp only at h1 h2
  have hk : L.length = k := by rw [ul_length] at h1; omega
  rcases h2 with ⟨_, h9⟩ | ⟨g, cap, cur, hv, _, hg, hc, _, _, ht⟩
  · omega
  refine ⟨g, cap, by rw [hv, hk], by rw [hk]; exact hc, fun j u hj => ?_, hn g (by rw [hv]; rfl)⟩
  rw [cell_of_row w g (0 + j) cur _ _ hg]
  rw [← ht, List.getElem?_take] at hj
  split at hj
  · simpa using hj
  · cases hj
set_option maxHeartbeats 4000000 in
theorem insert_any {g c : Nat} {l : List Int} {v top : Int} (w : World) (hr : w.rangeAt g 0 (ul l)) (hl : l.length ≤ c) (hn : l.length ≤ 1000000000000) (h0 : 0 ≤ top) (h1 : top ≤ 4294967295) :
    Calls Tryz.prog 82 #[.slice (some ⟨g, 0, none⟩) l.length c, .int .u64 v, .int .u32 top] w (InsU w g (insT top v l)) := by
  have hO := own_start [] w
  replace hO := hO.addOld ⟨g, 0, ul l⟩ hr
  have s1 : IntKind.u64.wrap top = top := by rw [IntKind.wrap_u64]; omega
  go_enter Tryz.func82, Tryz.ntmps82
  by_cases ht : top < v
  · have g1 : decide (top < v) = true := decide_eq_true ht
    have e0 : insT top v l = l := by unfold insT; rw [if_pos ht]
    rw [e0]
    go_wp2_with fail
    go_ret
    exact ⟨_, _, rfl, hl, hO.ro _ List.mem_cons_self, .inl rfl, hO.keep.below⟩
  have g1 : decide (top < v) = false := decide_eq_false ht
  have eT : insT top v l = insU v l := by unfold insT; rw [if_neg ht]
  rw [eT]
  go_wp2_with fail
  go_loopw [7] (fun q wr => ∃ k : Nat, k ≤ l.length ∧ (∀ j (h : j < l.length), j < k → l[j] < v) ∧ q = .int .i64 k ∧ Own [] w [] [] [⟨g, 0, ul l⟩] wr) (fun q _ => l.length - (intOf q).toNat)
  case atStart => exact ⟨0, by omega, fun j _ h => by omega, rfl, hO⟩
  case round =>
    clear hO
    obtain ⟨k, hk, hlow, rfl, hO⟩ := hrel
    have HL := Lib.hid hlow
    clear hlow
    have s2 : IntKind.i64.wrap ((k : Int) + 1) = (k : Int) + 1 := IntWalk.i64_in _ (by omega)
    have y1 : (0 : Int) ≤ (k : Int) := by omega
    by_cases hlt : k < l.length
    · have g2 : decide ((k : Int) < (l.length : Int)) = true := decide_eq_true (by omega)
      have u1 := ul_at hlt
      by_cases hv : l[k] < v
      · have g3 : decide (l[k] < v) = true := decide_eq_true hv
        go_wp2_with ((with_reducible refine is_load ?_); refine own_ld (h := ?_))
        go_roundw
        case rel =>
          refine ⟨k + 1, by omega, fun j h hj => ?_, by go_num, hO⟩
          rcases (by omega : j < k ∨ j = k) with h9 | rfl
          · exact HL.out j h h9
          · exact hv
        case measure => simp [intOf]; omega
      · have g3 : decide (l[k] < v) = false := decide_eq_false hv
        by_cases he : l[k] = v
        · have g4 : (l[k] == v) = true := by simp [he]
          have eI := insU_in hlt HL.out he
          (try rw [eI])
          go_wp2_with ((with_reducible refine is_load ?_); refine own_ld (h := ?_))
          go_ret
          exact ⟨_, _, rfl, hl, hO.ro _ List.mem_cons_self, .inl rfl, hO.keep.below⟩
        · have g4 : (l[k] == v) = false := by simp [he]
          have eI := insU_at hk HL.out (fun _ => by omega)
          go_wp2_with ((with_reducible refine is_load ?_); refine own_ld (h := ?_))
          refine wp_region_any (by kernel_rfl) ?_
          replace hO := hO.drew
          have ix9 := Ix.mk [1, 2, 3, 5, 8, 9, 10]
          iterate 7 (refine wpAny_tk ix9 ?_; replace ix9 := ix9.tail; (first | go_big_quiet_skip | (go_big_quiet_want; (go_big_quiet_op; (first | go_big_quiet_on | ((refine ⟨_, fun _ _ => rfl, ?_⟩); go_big_quiet_on))))); (refine wpQuiet_nil ?_); (try simp only [Act.put]); (try simp only [List.setIfInBounds_toArray, List.set_cons_zero, List.set_cons_succ]))
          clear ix9
          refine wpAny_all (rs := [0, 6]) (by kernel_rfl) (by simp) (ord_cons ?_ (ord_cons ?_ ord_nil))
          rotate_left 2
          all_goals
            refine wpOp_of_listL rfl ?_
            (first | ((with_reducible refine is_build ?_); (refine own_build0 (o := ⟨some 40, _, _, _, _, _⟩) hO (by rfl) rfl slice_u64 ?_); clear hO; intro n40 wv hO) | ((with_reducible refine is_build ?_); (refine' own_buildP (o := ⟨some 46, _, _, _, _, _⟩) [.int .u64 v] hO (by rfl) rfl slice_u64 rfl rfl (by rfl) (by decide) (by decide) ?_); clear hO; intro n46 wv hO)); (try simp only [Act.put]); (try simp only [List.setIfInBounds_toArray, List.set_cons_zero, List.set_cons_succ])
            refine wpList_done (qk_intro ?_)
          refine wpAny_all (rs := [4, 6]) (by kernel_rfl) (by simp) (ord_cons ?_ (ord_cons ?_ ord_nil))
          rotate_left 2
          refine wpAny_all (rs := [0]) (by kernel_rfl) (by simp) (ord_cons ?_ ord_nil)
          rotate_left 1
          all_goals
            refine wpOp_of_listL rfl ?_
            (first | ((with_reducible refine is_build ?_); (refine own_build0 (o := ⟨some 40, _, _, _, _, _⟩) hO (by rfl) rfl slice_u64 ?_); clear hO; intro n40 wv hO) | ((with_reducible refine is_append ?_); (refine own_appendA (o := ⟨some 44, _, _, _, _, _⟩) hO rfl rfl slice_u64 rfl rfl (src_ul (i := 0) (m := k) (hO.ro ⟨g, 0, ul l⟩ List.mem_cons_self) (by omega) (by omega)) (ul_one _) (fun _ => by repeat (exact UpdR.here)) (by simp; omega) (by unfold maxLen; simp; omega) ?_); clear hO; intro A44 c44 wv hO) | ((with_reducible refine is_build ?_); (refine' own_buildP (o := ⟨some 46, _, _, _, _, _⟩) [.int .u64 v] hO (by rfl) rfl slice_u64 rfl rfl (by rfl) (by decide) (by decide) ?_); clear hO; intro n46 wv hO)); (try simp only [Act.put]); (try simp only [List.setIfInBounds_toArray, List.set_cons_zero, List.set_cons_succ])
            refine wpList_done (qk_intro ?_)
          refine wpAny_all (rs := [6]) (by kernel_rfl) (by simp) (ord_cons ?_ ord_nil)
          rotate_left 1
          refine wpAny_all (rs := [4]) (by kernel_rfl) (by simp) (ord_cons ?_ ord_nil)
          rotate_left 1
          refine wpAny_all (rs := [4]) (by kernel_rfl) (by simp) (ord_cons ?_ ord_nil)
          rotate_left 1
          all_goals
            refine wpOp_of_listL rfl ?_
            (first | ((with_reducible refine is_append ?_); (refine own_appendA (o := ⟨some 44, _, _, _, _, _⟩) hO rfl rfl slice_u64 rfl rfl (src_ul (i := 0) (m := k) (hO.ro ⟨g, 0, ul l⟩ List.mem_cons_self) (by omega) (by omega)) (ul_one _) (fun _ => by repeat (exact UpdR.here)) (by simp; omega) (by unfold maxLen; simp; omega) ?_); clear hO; intro A44 c44 wv hO) | ((with_reducible refine is_build ?_); (refine' own_buildP (o := ⟨some 46, _, _, _, _, _⟩) [.int .u64 v] hO (by rfl) rfl slice_u64 rfl rfl (by rfl) (by decide) (by decide) ?_); clear hO; intro n46 wv hO)); (try simp only [Act.put]); (try simp only [List.setIfInBounds_toArray, List.set_cons_zero, List.set_cons_succ])
            refine wpList_done (qk_intro ?_)
          refine wpAny_all (rs := [7]) (by kernel_rfl) (by simp) (ord_cons ?_ ord_nil)
          rotate_left 1
          refine wpAny_all (rs := [7]) (by kernel_rfl) (by simp) (ord_cons ?_ ord_nil)
          rotate_left 1
          refine wpAny_all (rs := [7]) (by kernel_rfl) (by simp) (ord_cons ?_ ord_nil)
          rotate_left 1
          all_goals
            refine wpOp_of_listL rfl ?_
            ((with_reducible refine is_append ?_); (refine own_ap (o := ⟨some 47, _, _, _, _, _⟩) (hO := hO) (h := ?_); clear hO; intro g47 c47 wv hO)); (try simp only [Act.put]); (try simp only [List.setIfInBounds_toArray, List.set_cons_zero, List.set_cons_succ])
            refine wpList_done (qk_intro ?_)
          refine wpAny_all (rs := [11]) (by kernel_rfl) (by simp) (ord_cons ?_ ord_nil)
          rotate_left 1
          refine wpAny_all (rs := [11]) (by kernel_rfl) (by simp) (ord_cons ?_ ord_nil)
          rotate_left 1
          refine wpAny_all (rs := [11]) (by kernel_rfl) (by simp) (ord_cons ?_ ord_nil)
          rotate_left 1
          all_goals
            refine wpOp_of_listL rfl ?_
            ((with_reducible refine is_append ?_); (refine own_appendA (o := ⟨some 51, _, _, _, _, _⟩) hO rfl rfl slice_u64 rfl rfl (src_ul (i := k) (m := l.length - k) (hO.ro ⟨g, 0, ul l⟩ List.mem_cons_self) (by omega) (by omega)) (ul_one _) (fun _ => by repeat (exact UpdR.here)) (by simp; omega) (by unfold maxLen; simp; omega) ?_); clear hO; intro A51 c51 wv hO); (try simp only [Act.put]); (try simp only [List.setIfInBounds_toArray, List.set_cons_zero, List.set_cons_succ])
            refine wpList_done (qk_intro ?_)
          refine wpAny_all (rs := [12]) (by kernel_rfl) (by simp) (ord_cons ?_ ord_nil)
          rotate_left 1
          refine wpAny_all (rs := [12]) (by kernel_rfl) (by simp) (ord_cons ?_ ord_nil)
          rotate_left 1
          refine wpAny_all (rs := [12]) (by kernel_rfl) (by simp) (ord_cons ?_ ord_nil)
          rotate_left 1
          all_goals
            refine wpOp_of_listL rfl ?_
            ((refine wpList_step (fun K hK => ?_)); go_simp; ((refine hK _ _ ?_); clear hK K))
            refine wpList_done (qk_intro ?_)
          refine wpAny_done (by kernel_rfl) ?_ _
          rotate_left
          refine wpAny_done (by kernel_rfl) ?_ _
          rotate_left
          refine wpAny_done (by kernel_rfl) ?_ _
          rotate_left
          all_goals
            go_wp2_with fail
            go_ret
            have hX := ins_cells v hk
            obtain ⟨g9, c9, e9, h9, r9, n9⟩ := own_u64 hO hX (by omega)
            rw [Nat.zero_add] at e9
            (try rw [eI])
            exact ⟨g9, c9, congrArg Ending.returned e9, h9, r9, .inr n9, hO.keep.below⟩
    · have g2 : decide ((k : Int) < (l.length : Int)) = false := decide_eq_false (by omega)
      have eI := insU_at hk HL.out (fun h => absurd h hlt)
      go_wp2_with fail
      refine wp_region_any (by kernel_rfl) ?_
      replace hO := hO.drew
      have ix9 := Ix.mk [1, 2, 3, 5, 8, 9, 10]
      iterate 7 (refine wpAny_tk ix9 ?_; replace ix9 := ix9.tail; (first | go_big_quiet_skip | (go_big_quiet_want; (go_big_quiet_op; (first | go_big_quiet_on | ((refine ⟨_, fun _ _ => rfl, ?_⟩); go_big_quiet_on))))); (refine wpQuiet_nil ?_); (try simp only [Act.put]); (try simp only [List.setIfInBounds_toArray, List.set_cons_zero, List.set_cons_succ]))
      clear ix9
      refine wpAny_all (rs := [0, 6]) (by kernel_rfl) (by simp) (ord_cons ?_ (ord_cons ?_ ord_nil))
      rotate_left 2
      all_goals
        refine wpOp_of_listL rfl ?_
        (first | ((with_reducible refine is_build ?_); (refine own_build0 (o := ⟨some 40, _, _, _, _, _⟩) hO (by rfl) rfl slice_u64 ?_); clear hO; intro n40 wv hO) | ((with_reducible refine is_build ?_); (refine' own_buildP (o := ⟨some 46, _, _, _, _, _⟩) [.int .u64 v] hO (by rfl) rfl slice_u64 rfl rfl (by rfl) (by decide) (by decide) ?_); clear hO; intro n46 wv hO)); (try simp only [Act.put]); (try simp only [List.setIfInBounds_toArray, List.set_cons_zero, List.set_cons_succ])
        refine wpList_done (qk_intro ?_)
      refine wpAny_all (rs := [4, 6]) (by kernel_rfl) (by simp) (ord_cons ?_ (ord_cons ?_ ord_nil))
      rotate_left 2
      refine wpAny_all (rs := [0]) (by kernel_rfl) (by simp) (ord_cons ?_ ord_nil)
      rotate_left 1
      all_goals
        refine wpOp_of_listL rfl ?_
        (first | ((with_reducible refine is_build ?_); (refine own_build0 (o := ⟨some 40, _, _, _, _, _⟩) hO (by rfl) rfl slice_u64 ?_); clear hO; intro n40 wv hO) | ((with_reducible refine is_append ?_); (refine own_appendA (o := ⟨some 44, _, _, _, _, _⟩) hO rfl rfl slice_u64 rfl rfl (src_ul (i := 0) (m := k) (hO.ro ⟨g, 0, ul l⟩ List.mem_cons_self) (by omega) (by omega)) (ul_one _) (fun _ => by repeat (exact UpdR.here)) (by simp; omega) (by unfold maxLen; simp; omega) ?_); clear hO; intro A44 c44 wv hO) | ((with_reducible refine is_build ?_); (refine' own_buildP (o := ⟨some 46, _, _, _, _, _⟩) [.int .u64 v] hO (by rfl) rfl slice_u64 rfl rfl (by rfl) (by decide) (by decide) ?_); clear hO; intro n46 wv hO)); (try simp only [Act.put]); (try simp only [List.setIfInBounds_toArray, List.set_cons_zero, List.set_cons_succ])
        refine wpList_done (qk_intro ?_)
      refine wpAny_all (rs := [6]) (by kernel_rfl) (by simp) (ord_cons ?_ ord_nil)
      rotate_left 1
      refine wpAny_all (rs := [4]) (by kernel_rfl) (by simp) (ord_cons ?_ ord_nil)
      rotate_left 1
      refine wpAny_all (rs := [4]) (by kernel_rfl) (by simp) (ord_cons ?_ ord_nil)
      rotate_left 1
      all_goals
        refine wpOp_of_listL rfl ?_
        (first | ((with_reducible refine is_append ?_); (refine own_appendA (o := ⟨some 44, _, _, _, _, _⟩) hO rfl rfl slice_u64 rfl rfl (src_ul (i := 0) (m := k) (hO.ro ⟨g, 0, ul l⟩ List.mem_cons_self) (by omega) (by omega)) (ul_one _) (fun _ => by repeat (exact UpdR.here)) (by simp; omega) (by unfold maxLen; simp; omega) ?_); clear hO; intro A44 c44 wv hO) | ((with_reducible refine is_build ?_); (refine' own_buildP (o := ⟨some 46, _, _, _, _, _⟩) [.int .u64 v] hO (by rfl) rfl slice_u64 rfl rfl (by rfl) (by decide) (by decide) ?_); clear hO; intro n46 wv hO)); (try simp only [Act.put]); (try simp only [List.setIfInBounds_toArray, List.set_cons_zero, List.set_cons_succ])
        refine wpList_done (qk_intro ?_)
      refine wpAny_all (rs := [7]) (by kernel_rfl) (by simp) (ord_cons ?_ ord_nil)
      rotate_left 1
      refine wpAny_all (rs := [7]) (by kernel_rfl) (by simp) (ord_cons ?_ ord_nil)
      rotate_left 1
      refine wpAny_all (rs := [7]) (by kernel_rfl) (by simp) (ord_cons ?_ ord_nil)
      rotate_left 1
      all_goals
        refine wpOp_of_listL rfl ?_
        ((with_reducible refine is_append ?_); (refine own_ap (o := ⟨some 47, _, _, _, _, _⟩) (hO := hO) (h := ?_); clear hO; intro g47 c47 wv hO)); (try simp only [Act.put]); (try simp only [List.setIfInBounds_toArray, List.set_cons_zero, List.set_cons_succ])
        refine wpList_done (qk_intro ?_)
      refine wpAny_all (rs := [11]) (by kernel_rfl) (by simp) (ord_cons ?_ ord_nil)
      rotate_left 1
      refine wpAny_all (rs := [11]) (by kernel_rfl) (by simp) (ord_cons ?_ ord_nil)
      rotate_left 1
      refine wpAny_all (rs := [11]) (by kernel_rfl) (by simp) (ord_cons ?_ ord_nil)
      rotate_left 1
      all_goals
        refine wpOp_of_listL rfl ?_
        ((with_reducible refine is_append ?_); (refine own_appendA (o := ⟨some 51, _, _, _, _, _⟩) hO rfl rfl slice_u64 rfl rfl (src_none (by omega)) (ul_one _) (fun _ => by repeat (exact UpdR.here)) (by simp; omega) (by unfold maxLen; simp; omega) ?_); clear hO; intro A51 c51 wv hO); (try simp only [Act.put]); (try simp only [List.setIfInBounds_toArray, List.set_cons_zero, List.set_cons_succ])
        refine wpList_done (qk_intro ?_)
      refine wpAny_all (rs := [12]) (by kernel_rfl) (by simp) (ord_cons ?_ ord_nil)
      rotate_left 1
      refine wpAny_all (rs := [12]) (by kernel_rfl) (by simp) (ord_cons ?_ ord_nil)
      rotate_left 1
      refine wpAny_all (rs := [12]) (by kernel_rfl) (by simp) (ord_cons ?_ ord_nil)
      rotate_left 1
      all_goals
        refine wpOp_of_listL rfl ?_
        ((refine wpList_step (fun K hK => ?_)); go_simp; ((refine hK _ _ ?_); clear hK K))
        refine wpList_done (qk_intro ?_)
      refine wpAny_done (by kernel_rfl) ?_ _
      rotate_left
      refine wpAny_done (by kernel_rfl) ?_ _
      rotate_left
      refine wpAny_done (by kernel_rfl) ?_ _
      rotate_left
      all_goals
        go_wp2_with fail
        all_goals
          go_ret
          have hX := end_cells (l := l) (k := k) v (by omega)
          obtain ⟨g9, c9, e9, h9, r9, n9⟩ := own_u64 hO hX (by omega)
          rw [Nat.zero_add] at e9
          exact ⟨g9, c9, congrArg Ending.returned e9, h9, r9, .inr n9, hO.keep.below⟩
/-- the cells of a list of ranges -/
def rcs : List Rg → List Value
  | [] => []
  | r :: l => .int .u32 r.lo :: .int .u32 r.hi :: rcs l
theorem rcs_at : ∀ {l : List Rg} {i : Nat} (h : i < l.length), (rcs l)[i * 2]? = some (.int .u32 l[i].lo) ∧ (rcs l)[i * 2 + 1]? = some (.int .u32 l[i].hi)
  | r :: l, 0, _ => ⟨rfl, rfl⟩
  | r :: l, i + 1, h => by
    have := rcs_at (l := l) (i := i) (by simpa using h)
    rw [show (i + 1) * 2 = i * 2 + 1 + 1 by omega]
    exact this
theorem starts_take {top : Int} {l : List Rg} {i : Nat} (h : i < l.length) : ptsR top (l.take (i + 1)) = if l[i].lo ≤ l[i].hi then insT top (l[i].hi + 1) (insT top l[i].lo (ptsR top (l.take i))) else ptsR top (l.take i) := by
  unfold ptsR
  rw [List.take_succ_eq_append_getElem h, List.foldl_append]
  rfl
theorem insU_len (v : Int) : ∀ l, (insU v l).length ≤ l.length + 1
  | [] => by simp [insU]
  | x :: l => by
    have := insU_len v l
    unfold insU
    split
    · simp
    · split <;> simp <;> omega
theorem insT_len (top v : Int) (l : List Int) : (insT top v l).length ≤ l.length + 1 := by
  unfold insT
  split
  · omega
  · exact insU_len v l
theorem ptsR_len (top : Int) (rs : List Rg) : ∀ i, i ≤ rs.length → (ptsR top (rs.take i)).length ≤ 1 + 2 * i
  | 0, _ => by simp [ptsR]
  | i + 1, h => by
    have := ptsR_len top rs i (by omega)
    rw [starts_take (by omega)]
    split
    · have h1 := insT_len top rs[i].lo (ptsR top (rs.take i))
      have h2 := insT_len top (rs[i].hi + 1) (insT top rs[i].lo (ptsR top (rs.take i)))
      omega
    · omega
/-- a block of one's own, only read from here on -/
theorem Own.chunkRo {M : List Nat} {w0 w : World} {S : List Ro} {n : Nat} {cs : List Value} {t : TypeId} (hO : Own M w0 [⟨n, cs, t⟩] [] S w) : Own M w0 [] [] (⟨n, 0, cs⟩ :: S) w :=
  (hO.sub (List.nil_sublist _) (.refl _) (fun _ h => h)).addRo ⟨n, 0, cs⟩ (fun j u hj => by rw [(hO.chunk _ List.mem_cons_self).cell (0 + j)]; simpa using hj) (fun _ hm => by simp [excl] at hm)
def NewU4 (w : World) (l : List Int) (e : Ending) (w' : World) : Prop := ∃ g c, e = .returned (.slice (some ⟨g, 0, none⟩) l.length c) ∧ l.length ≤ c ∧ w'.rangeAt g 0 (ul l) ∧ w.heap.size ≤ g ∧ Below w.heap.size w w'
set_option maxHeartbeats 4000000 in
theorem starts_any {vl : Value} {l : List Rg} {top : Int} (w : World) (hv : IsCells w vl l.length (rcs l)) (hn : l.length ≤ 100000000000) (h0 : 0 ≤ top) (h1 : top ≤ 4294967295) (hb : ∀ r ∈ l, 0 ≤ r.lo ∧ r.lo ≤ 4294967295 ∧ 0 ≤ r.hi ∧ r.hi ≤ 4294967295) :
    Calls Tryz.prog 61 #[vl, .int .u32 top] w (NewU4 w (ptsR top l)) := by
  have hO := own_start [] w
  obtain ⟨a, c, rfl, ha, hS⟩ : ∃ a c, vl = .slice a l.length c ∧ (0 < l.length → ∃ g o, a = some ⟨g, o, none⟩) ∧ Own [] w [] [] (roS (.slice a l.length c) (rcs l)) w := by
    rcases hv with ⟨rfl, h2, _⟩ | ⟨g, o, c, rfl, _, h2⟩
    · exact ⟨none, 0, by rw [h2], fun h => by omega, hO⟩
    · exact ⟨_, _, rfl, fun _ => ⟨_, _, rfl⟩, hO.addOld ⟨g, o, rcs l⟩ h2⟩
  clear hO
  have hO := hS
  clear hS hv
  go_enter Tryz.func61, Tryz.ntmps61
  go_wp2_with ((with_reducible refine is_build ?_); (refine' own_buildP (o := ⟨some 7, _, _, _, _, _⟩) [.int .u64 0] hO (by rfl) rfl slice_u64 rfl rfl (by rfl) (by decide) (by decide) ?_); clear hO; intro n7 wv hO)
  have hn7 := own_newC (l := 1) (c := 1) hO List.mem_cons_self n7 rfl
  replace hO := hO.chunkRo
  go_loopw [5, 6] (fun o q wr => ∃ i g c', i ≤ l.length ∧ q = .int .i64 (i : Nat) ∧ o = .slice (some ⟨g, 0, none⟩) (ptsR top (l.take i)).length c' ∧ (ptsR top (l.take i)).length ≤ c' ∧ w.heap.size ≤ g ∧ Own [] w [] [] (⟨g, 0, ul (ptsR top (l.take i))⟩ :: roS (.slice a l.length c) (rcs l)) wr) (fun _ q _ => l.length - (intOf q).toNat)
  case atStart => exact ⟨0, n7, 1, by omega, rfl, rfl, by simp [ptsR], hn7, hO⟩
  case round =>
    clear hO hn7
    obtain ⟨i, g, c', hi, rfl, rfl, hc', hg', hO⟩ := hrel
    have y1 : (0 : Int) ≤ (i : Int) := by omega
    have hP := ptsR_len top l i hi
    by_cases hlt : i < l.length
    · obtain ⟨gl, ol, rfl⟩ := ha (by omega)
      have HT := Lib.hid (starts_take (top := top) hlt)
      obtain ⟨b1, b2, b3, b4⟩ := hb l[i] (List.getElem_mem hlt)
      generalize ptsR top (l.take i) = P at *
      obtain ⟨u1, u2⟩ := rcs_at hlt
      simp only [roS] at hO
      generalize l[i] = r9 at *
      by_cases hle : r9.lo ≤ r9.hi
      · have g1 : decide (r9.lo ≤ r9.hi) = true := decide_eq_true hle
        have hE := HT.out
        rw [if_pos hle] at hE
        have lA := insT_len top r9.lo P
        have c1 := fun w hr => insert_any (g := g) (c := c') (l := P) (v := r9.lo) (top := top) w hr hc' (by omega) h0 h1
        have c2 := fun g2 d2 w hr hd => insert_any (g := g2) (c := d2) (l := insT top r9.lo P) (v := r9.hi + 1) (top := top) w hr hd (by omega) h0 h1
        generalize insT top r9.lo P = A at *
        generalize insT top (r9.hi + 1) A = B at *
        have s1 : IntKind.u64.wrap r9.lo = r9.lo := by rw [IntKind.wrap_u64]; omega
        have s2 : IntKind.u64.wrap r9.hi = r9.hi := by rw [IntKind.wrap_u64]; omega
        have s3 : IntKind.u64.wrap (r9.hi + 1) = r9.hi + 1 := by rw [IntKind.wrap_u64]; omega
        have s4 : IntKind.i64.wrap ((i : Int) + 1) = (i : Int) + 1 := IntWalk.i64_in _ (by omega)
        have HE := Lib.hid hE
        clear hE
        go_wp2_with fail
        (refine own_quiet hO (by kernel_rfl) (by kernel_rfl) ?_; clear hO; (repeat (go_big_quiet_want; (first | ((with_reducible refine is_loadQ ?_); (refine q_ld (h := ?_)); (try simp only [Act.put]); (try simp only [List.setIfInBounds_toArray, List.set_cons_zero, List.set_cons_succ]); go_big_quiet_on) | (go_big_quiet_op; (first | go_big_quiet_on | ((refine ⟨_, fun _ _ => rfl, ?_⟩); go_big_quiet_on)))))); (refine wpQuiet_nil ?_); intro wv hO)
        go_wp2_with fail
        refine wp_region_any (by kernel_rfl) ?_
        replace hO := hO.drew
        have ix9 := Ix.mk [0, 1, 2, 3, 4, 7, 9, 10, 11, 12, 16]
        iterate 11 (refine wpAny_tk ix9 ?_; replace ix9 := ix9.tail; (first | go_big_quiet_skip | (go_big_quiet_want; (go_big_quiet_op; (first | go_big_quiet_on | ((refine ⟨_, fun _ _ => rfl, ?_⟩); go_big_quiet_on))))); (refine wpQuiet_nil ?_); (try simp only [Act.put]); (try simp only [List.setIfInBounds_toArray, List.set_cons_zero, List.set_cons_succ]))
        clear ix9
        refine wpAny_all (rs := [5, 13]) (by kernel_rfl) (by simp) (ord_cons ?_ (ord_cons ?_ ord_nil))
        rotate_left 2
        all_goals
          refine wpOp_of_listL rfl ?_
          ((with_reducible refine is_load ?_); refine own_ld (h := ?_)); (try simp only [Act.put]); (try simp only [List.setIfInBounds_toArray, List.set_cons_zero, List.set_cons_succ])
          refine wpList_done (qk_intro ?_)
        refine wpAny_tk (Ix.mk [6]) ?_
        (first | go_big_quiet_skip | (go_big_quiet_want; (go_big_quiet_op; (first | go_big_quiet_on | ((refine ⟨_, fun _ _ => rfl, ?_⟩); go_big_quiet_on))))); (refine wpQuiet_nil ?_); (try simp only [Act.put]); (try simp only [List.setIfInBounds_toArray, List.set_cons_zero, List.set_cons_succ])
        refine wpAny_all (rs := [8, 13]) (by kernel_rfl) (by simp) (ord_cons ?_ (ord_cons ?_ ord_nil))
        rotate_left 2
        have ix9 := Ix.mk [14, 15]
        iterate 2 (refine wpAny_tk ix9 ?_; replace ix9 := ix9.tail; (first | go_big_quiet_skip | (go_big_quiet_want; (go_big_quiet_op; (first | go_big_quiet_on | ((refine ⟨_, fun _ _ => rfl, ?_⟩); go_big_quiet_on))))); (refine wpQuiet_nil ?_); (try simp only [Act.put]); (try simp only [List.setIfInBounds_toArray, List.set_cons_zero, List.set_cons_succ]))
        clear ix9
        refine wpAny_all (rs := [5]) (by kernel_rfl) (by simp) (ord_cons ?_ ord_nil)
        rotate_left 1
        all_goals
          refine wpOp_of_listL rfl ?_
          (first | ((with_reducible refine is_load ?_); refine own_ld (h := ?_)) | ((refine wpList_step (fun K hK => ?_)); go_simp; ((go_at_call 82; (with_reducible refine (c1 _ (hO.ro ⟨g, 0, ul P⟩ List.mem_cons_self)).mono ?_); rintro e wv ⟨g2, d2, rfl, hd2, hr2, hg2, hb9⟩; have hz1 := hO.keep.size; replace hO := (hO.call hb9).addRo ⟨g2, 0, ul A⟩ hr2 (fun _ hm => by simp [excl] at hm); clear hb9 c1); (try simp only []); (refine hK _ _ ?_); clear hK K))); (try simp only [Act.put]); (try simp only [List.setIfInBounds_toArray, List.set_cons_zero, List.set_cons_succ])
          refine wpList_done (qk_intro ?_)
        refine wpAny_all (rs := [13]) (by kernel_rfl) (by simp) (ord_cons ?_ ord_nil)
        rotate_left 1
        have ix9 := Ix.mk [14, 15]
        iterate 2 (refine wpAny_tk ix9 ?_; replace ix9 := ix9.tail; (first | go_big_quiet_skip | (go_big_quiet_want; (go_big_quiet_op; (first | go_big_quiet_on | ((refine ⟨_, fun _ _ => rfl, ?_⟩); go_big_quiet_on))))); (refine wpQuiet_nil ?_); (try simp only [Act.put]); (try simp only [List.setIfInBounds_toArray, List.set_cons_zero, List.set_cons_succ]))
        clear ix9
        refine wpAny_all (rs := [8]) (by kernel_rfl) (by simp) (ord_cons ?_ ord_nil)
        rotate_left 1
        refine wpAny_tk (Ix.mk [6]) ?_
        (first | go_big_quiet_skip | (go_big_quiet_want; (go_big_quiet_op; (first | go_big_quiet_on | ((refine ⟨_, fun _ _ => rfl, ?_⟩); go_big_quiet_on))))); (refine wpQuiet_nil ?_); (try simp only [Act.put]); (try simp only [List.setIfInBounds_toArray, List.set_cons_zero, List.set_cons_succ])
        refine wpAny_all (rs := [8]) (by kernel_rfl) (by simp) (ord_cons ?_ ord_nil)
        rotate_left 1
        all_goals
          refine wpOp_of_listL rfl ?_
          (first | ((with_reducible refine is_load ?_); refine own_ld (h := ?_)) | ((refine wpList_step (fun K hK => ?_)); go_simp; ((go_at_call 82; (with_reducible refine (c1 _ (hO.ro ⟨g, 0, ul P⟩ List.mem_cons_self)).mono ?_); rintro e wv ⟨g2, d2, rfl, hd2, hr2, hg2, hb9⟩; have hz1 := hO.keep.size; replace hO := (hO.call hb9).addRo ⟨g2, 0, ul A⟩ hr2 (fun _ hm => by simp [excl] at hm); clear hb9 c1); (try simp only []); (refine hK _ _ ?_); clear hK K))); (try simp only [Act.put]); (try simp only [List.setIfInBounds_toArray, List.set_cons_zero, List.set_cons_succ])
          refine wpList_done (qk_intro ?_)
        have ix9 := Ix.mk [14, 15]
        iterate 2 (refine wpAny_tk ix9 ?_; replace ix9 := ix9.tail; (first | go_big_quiet_skip | (go_big_quiet_want; (go_big_quiet_op; (first | go_big_quiet_on | ((refine ⟨_, fun _ _ => rfl, ?_⟩); go_big_quiet_on))))); (refine wpQuiet_nil ?_); (try simp only [Act.put]); (try simp only [List.setIfInBounds_toArray, List.set_cons_zero, List.set_cons_succ]))
        clear ix9
        refine wpAny_all (rs := [17]) (by kernel_rfl) (by simp) (ord_cons ?_ ord_nil)
        rotate_left 1
        refine wpAny_all (rs := [17]) (by kernel_rfl) (by simp) (ord_cons ?_ ord_nil)
        rotate_left 1
        refine wpAny_all (rs := [17]) (by kernel_rfl) (by simp) (ord_cons ?_ ord_nil)
        rotate_left 1
        all_goals
          refine wpOp_of_listL rfl ?_
          ((refine wpList_step (fun K hK => ?_)); go_simp; ((go_at_call 82; (with_reducible refine (c2 g2 d2 _ (hO.ro ⟨g2, 0, ul A⟩ List.mem_cons_self) hd2).mono ?_); rintro e wv ⟨g3, d3, rfl, hd3, hr3, hg3, hb9⟩; have hz2 := hO.keep.size; replace hO := (hO.call hb9).addRo ⟨g3, 0, ul B⟩ hr3 (fun _ hm => by simp [excl] at hm); clear hb9); (try simp only []); (refine hK _ _ ?_); clear hK K))
          refine wpList_done (qk_intro ?_)
        refine wpAny_all (rs := [18]) (by kernel_rfl) (by simp) (ord_cons ?_ ord_nil)
        rotate_left 1
        refine wpAny_all (rs := [18]) (by kernel_rfl) (by simp) (ord_cons ?_ ord_nil)
        rotate_left 1
        refine wpAny_all (rs := [18]) (by kernel_rfl) (by simp) (ord_cons ?_ ord_nil)
        rotate_left 1
        all_goals
          refine wpOp_of_listL rfl ?_
          ((refine wpList_step (fun K hK => ?_)); go_simp; ((refine hK _ _ ?_); clear hK K))
          refine wpList_done (qk_intro ?_)
        refine wpAny_done (by kernel_rfl) ?_ _
        rotate_left
        refine wpAny_done (by kernel_rfl) ?_ _
        rotate_left
        refine wpAny_done (by kernel_rfl) ?_ _
        rotate_left
        all_goals
          go_wp2_with fail
          go_roundw
          case rel =>
            refine ⟨i + 1, g3, d3, by omega, by go_num, by rw [HE.out], by rw [HE.out]; exact hd3, by omega, ?_⟩
            rw [HE.out]
            exact hO.sub (.refl _) (.refl _) fun s hs => (List.mem_cons.1 hs).elim (fun h => h ▸ List.mem_cons_self) fun h => List.mem_cons_of_mem _ (List.mem_cons_of_mem _ (List.mem_cons_of_mem _ h))
          case measure => simp [intOf]; omega
      · have g1 : decide (r9.lo ≤ r9.hi) = false := decide_eq_false hle
        have hE := HT.out
        rw [if_neg hle] at hE
        have s4 : IntKind.i64.wrap ((i : Int) + 1) = (i : Int) + 1 := IntWalk.i64_in _ (by omega)
        have HE := Lib.hid hE
        clear hE
        go_wp2_with fail
        (refine own_quiet hO (by kernel_rfl) (by kernel_rfl) ?_; clear hO; (repeat (go_big_quiet_want; (first | ((with_reducible refine is_loadQ ?_); (refine q_ld (h := ?_)); (try simp only [Act.put]); (try simp only [List.setIfInBounds_toArray, List.set_cons_zero, List.set_cons_succ]); go_big_quiet_on) | (go_big_quiet_op; (first | go_big_quiet_on | ((refine ⟨_, fun _ _ => rfl, ?_⟩); go_big_quiet_on)))))); (refine wpQuiet_nil ?_); intro wv hO)
        go_wp2_with fail
        go_roundw
        case rel =>
          refine ⟨i + 1, g, c', by omega, by go_num, by rw [HE.out], by rw [HE.out]; exact hc', hg', by rw [HE.out]; exact hO⟩
        case measure => simp [intOf]; omega
    · obtain rfl : i = l.length := by omega
      rw [List.take_length] at hO hc'
      go_wp2_with fail
      go_ret
      exact ⟨g, c', by simp only [List.take_length]; rfl, hc', hO.ro _ List.mem_cons_self, hg', hO.keep.below⟩
end Go.Proofs.YtfhkmkbfgmbbaaaGreatDoor

/- Lists of ranges in memory. -/
namespace Go.Proofs.YtfhkmkbfgmbbaaaGreatDoor
open Go.RowKit
set_option maxRecDepth 100000
theorem slice_Ranges : SliceT Tryz.prog 23 46 2 8 := ⟨Tryz.underlying23, by omega, by
  obtain ⟨i, h1, h2, h3, h4⟩ := info_parts (show (Tryz.prog.info? 46).map (fun i => (i.zero, i.size, i.bytes)) = some (some (.agg #[.int .u32 0, .int .u32 0]), 2, 8) by kernel_rfl)
  exact ⟨i, _, h1, h2, h3, h4, rfl⟩⟩
theorem und_Ranges : (Tryz.prog).underlying 23 = some (.slice 46) := Tryz.underlying23
theorem rcs_append : ∀ l m : List Rg, rcs (l ++ m) = rcs l ++ rcs m
  | [], _ => rfl
  | r :: l, m => by simp [rcs, rcs_append l m]
theorem rcs_length : ∀ l : List Rg, (rcs l).length = l.length * 2
  | [] => rfl
  | r :: l => by simp [rcs, rcs_length l]; omega
/-- what a function hands back that makes a list of ranges -/
def RetRgs (w : World) (l : List Rg) (e : Ending) (w' : World) : Prop := ∃ v, e = .returned v ∧ (IsCells w' v l.length (rcs l) ∧ NewFrom w v) ∧ Below w.heap.size w w'
theorem own_rgs {M : List Nat} {w0 w : World} {X : List Chunk} {R : List Row} {S : List Ro} (hO : Own M w0 X R S w) {v : Value} {k : Nat} {l : List Rg} (hm : (⟨v, k, rcs l, 46, 2⟩ : Row) ∈ R) : IsCells w v l.length (rcs l) := by
  obtain ⟨h1, h2⟩ := hO.row _ hm
  dsimp only at h1 h2
  have hk : l.length = k := by rw [rcs_length] at h1; omega
  rcases h2 with ⟨hv, h0⟩ | ⟨g, cap, cur, hv, _, hg, hc, _, _, ht⟩
  · left
    obtain rfl : l = [] := List.length_eq_zero_iff.1 (by omega)
    exact ⟨hv, rfl, rfl⟩
  · right
    refine ⟨g, 0, cap, by rw [hv, hk], by rw [hk]; exact hc, fun j u hj => ?_⟩
    rw [cell_of_row w g (0 + j) cur _ _ hg]
    rw [← ht, List.getElem?_take] at hj
    split at hj
    · simpa using hj
    · cases hj
end Go.Proofs.YtfhkmkbfgmbbaaaGreatDoor

/- Canonical lists of ranges. No program in sight. -/
namespace Go.Proofs.YtfhkmkbfgmbbaaaGreatDoor
open Go.RowKit
/-- a number is in one of the ranges -/
def memR (l : List Rg) (v : Int) : Prop := ∃ r ∈ l, r.lo ≤ v ∧ v ≤ r.hi
/-- no range is empty, they ascend, and none touches the next -/
def canR (l : List Rg) : Prop := (∀ r ∈ l, r.lo ≤ r.hi) ∧ l.Pairwise fun r s => r.hi + 2 ≤ s.lo
theorem memR_nil (v : Int) : ¬ memR [] v := fun ⟨_, h, _⟩ => absurd h List.not_mem_nil
theorem memR_cons {r : Rg} {l : List Rg} {v : Int} : memR (r :: l) v ↔ (r.lo ≤ v ∧ v ≤ r.hi) ∨ memR l v := by
  unfold memR
  simp [List.mem_cons, or_and_right, exists_or]
theorem memR_append {l m : List Rg} {v : Int} : memR (l ++ m) v ↔ memR l v ∨ memR m v := by
  unfold memR
  simp [List.mem_append, or_and_right, exists_or]
theorem memR_one {r : Rg} {v : Int} : memR [r] v ↔ r.lo ≤ v ∧ v ≤ r.hi := by
  rw [memR_cons]; simp [memR_nil]
theorem canR_tail {r : Rg} {l : List Rg} (h : canR (r :: l)) : r.lo ≤ r.hi ∧ (∀ s ∈ l, r.hi + 2 ≤ s.lo) ∧ canR l := by
  obtain ⟨h1, h2⟩ := h
  rw [List.pairwise_cons] at h2
  exact ⟨h1 r List.mem_cons_self, h2.1, fun s hs => h1 s (List.mem_cons_of_mem _ hs), h2.2⟩
theorem canR_least {r : Rg} {l : List Rg} (h : canR (r :: l)) {v : Int} (hv : memR (r :: l) v) : r.lo ≤ v := by
  obtain ⟨h0, h1, -⟩ := canR_tail h
  rcases memR_cons.1 hv with h2 | ⟨s, hs, h2, -⟩
  · exact h2.1
  · have := h1 s hs; omega
theorem canR_unique : ∀ {l m : List Rg}, canR l → canR m → (∀ v, memR l v ↔ memR m v) → l = m
  | [], [], _, _, _ => rfl
  | [], s :: m, _, hm, h => absurd ((h s.lo).2 (memR_cons.2 (.inl ⟨Int.le_refl _, (canR_tail hm).1⟩))) (memR_nil _)
  | r :: l, [], hl, _, h => absurd ((h r.lo).1 (memR_cons.2 (.inl ⟨Int.le_refl _, (canR_tail hl).1⟩))) (memR_nil _)
  | r :: l, s :: m, hl, hm, h => by
    obtain ⟨r0, r1, r2⟩ := canR_tail hl
    obtain ⟨s0, s1, s2⟩ := canR_tail hm
    have e1 : s.lo ≤ r.lo := canR_least hm ((h r.lo).1 (memR_cons.2 (.inl ⟨Int.le_refl _, r0⟩)))
    have e2 : r.lo ≤ s.lo := canR_least hl ((h s.lo).2 (memR_cons.2 (.inl ⟨Int.le_refl _, s0⟩)))
    have k1 : ∀ v, r.hi < v → memR (r :: l) v → v ≥ r.hi + 2 := fun v hv hm => by
      rcases memR_cons.1 hm with h2 | ⟨t, ht, h2, -⟩
      · omega
      · have := r1 t ht; omega
    have k2 : ∀ v, s.hi < v → memR (s :: m) v → v ≥ s.hi + 2 := fun v hv hm => by
      rcases memR_cons.1 hm with h2 | ⟨t, ht, h2, -⟩
      · omega
      · have := s1 t ht; omega
    have e3 : s.hi ≤ r.hi := by
      by_cases hlt : r.hi < s.hi
      · have := k1 (r.hi + 1) (by omega) ((h _).2 (memR_cons.2 (.inl ⟨by omega, by omega⟩)))
        omega
      · omega
    have e4 : r.hi ≤ s.hi := by
      by_cases hlt : s.hi < r.hi
      · have := k2 (s.hi + 1) (by omega) ((h _).1 (memR_cons.2 (.inl ⟨by omega, by omega⟩)))
        omega
      · omega
    have e : r = s := by
      cases r; cases s
      simp only [Rg.mk.injEq]
      dsimp only at e1 e2 e3 e4
      omega
    subst e
    refine congrArg _ (canR_unique r2 s2 fun v => ⟨fun hv => ?_, fun hv => ?_⟩)
    · obtain ⟨t, ht, h2, -⟩ := id hv
      have h3 := r1 t ht
      rcases memR_cons.1 ((h v).1 (memR_cons.2 (.inr hv))) with h4 | h4
      · omega
      · exact h4
    · obtain ⟨t, ht, h2, -⟩ := id hv
      have h3 := s1 t ht
      rcases memR_cons.1 ((h v).2 (memR_cons.2 (.inr hv))) with h4 | h4
      · omega
      · exact h4
/-- one more range, not before those that are there -/
def stepC (out : List Rg) (r : Rg) : List Rg := match out.getLast? with
  | some q => if r.lo ≤ q.hi + 1 then out.dropLast ++ [⟨q.lo, max q.hi r.hi⟩] else out ++ [r]
  | none => [r]
theorem stepC_nil (r : Rg) : stepC [] r = [r] := rfl
theorem stepC_join {A : List Rg} {q r : Rg} (h : r.lo ≤ q.hi + 1) : stepC (A ++ [q]) r = A ++ [⟨q.lo, max q.hi r.hi⟩] := by
  unfold stepC
  rw [List.getLast?_concat]
  dsimp only
  rw [if_pos h, List.dropLast_concat]
theorem stepC_apart {A : List Rg} {q r : Rg} (h : ¬ r.lo ≤ q.hi + 1) : stepC (A ++ [q]) r = A ++ [q] ++ [r] := by
  unfold stepC
  rw [List.getLast?_concat]
  dsimp only
  rw [if_neg h]
theorem canR_snoc {A : List Rg} {q : Rg} : canR (A ++ [q]) ↔ canR A ∧ q.lo ≤ q.hi ∧ ∀ a ∈ A, a.hi + 2 ≤ q.lo := by
  unfold canR
  rw [List.pairwise_append]
  simp only [List.mem_append, List.mem_singleton, List.pairwise_cons, List.not_mem_nil, false_implies, implies_true, List.Pairwise.nil, and_true, true_and]
  constructor
  · rintro ⟨h1, h2, h3⟩
    exact ⟨⟨fun r hr => h1 r (.inl hr), h2⟩, h1 q (.inr rfl), fun a ha => h3 a ha q rfl⟩
  · rintro ⟨⟨h1, h2⟩, h3, h4⟩
    refine ⟨fun r hr => ?_, h2, fun a ha b hb => by subst hb; exact h4 a ha⟩
    rcases hr with hr | rfl
    · exact h1 r hr
    · exact h3
theorem snoc_cases (l : List Rg) : l = [] ∨ ∃ A q, l = A ++ [q] := by
  rcases List.eq_nil_or_concat l with h | ⟨A, q, h⟩
  · exact .inl h
  · exact .inr ⟨A, q, by rw [h, List.concat_eq_append]⟩
theorem stepC_spec {out : List Rg} {r : Rg} (hc : canR out) (hr : r.lo ≤ r.hi) (ho : ∀ q ∈ out, q.lo ≤ r.lo) :
    canR (stepC out r) ∧ (∀ v, memR (stepC out r) v ↔ memR out v ∨ (r.lo ≤ v ∧ v ≤ r.hi)) ∧ ∀ q ∈ stepC out r, q.lo ≤ r.lo := by
  rcases snoc_cases out with rfl | ⟨A, q, rfl⟩
  · rw [stepC_nil]
    refine ⟨⟨fun s hs => by rw [List.mem_singleton.1 hs]; exact hr, List.pairwise_singleton ..⟩, fun v => ?_, fun s hs => by rw [List.mem_singleton.1 hs]; exact Int.le_refl _⟩
    rw [memR_one]
    simp [memR_nil]
  · obtain ⟨hA, hq, hAq⟩ := canR_snoc.1 hc
    have hqr := ho q (by simp)
    by_cases h : r.lo ≤ q.hi + 1
    · rw [stepC_join h]
      refine ⟨canR_snoc.2 ⟨hA, by dsimp only; omega, fun a ha => hAq a ha⟩, fun v => ?_, fun s hs => ?_⟩
      · rw [memR_append, memR_append, memR_one, memR_one]
        dsimp only
        constructor
        · rintro (h1 | h1)
          · exact .inl (.inl h1)
          · by_cases h2 : v ≤ q.hi
            · exact .inl (.inr ⟨h1.1, h2⟩)
            · exact .inr (by omega)
        · rintro ((h1 | h1) | h1)
          · exact .inl h1
          · exact .inr (by omega)
          · exact .inr (by omega)
      · rcases List.mem_append.1 hs with hs | hs
        · exact ho s (List.mem_append_left _ hs)
        · rw [List.mem_singleton.1 hs]; exact hqr
    · rw [stepC_apart h]
      refine ⟨canR_snoc.2 ⟨hc, hr, fun a ha => ?_⟩, fun v => ?_, fun s hs => ?_⟩
      · rcases List.mem_append.1 ha with ha | ha
        · have := hAq a ha
          omega
        · rw [List.mem_singleton.1 ha]; omega
      · rw [memR_append, memR_one]
      · rcases List.mem_append.1 hs with hs | hs
        · exact ho s hs
        · rw [List.mem_singleton.1 hs]; exact Int.le_refl _
theorem fold_spec : ∀ {s out : List Rg}, canR out → s.Pairwise (fun a b => a.lo ≤ b.lo) → (∀ r ∈ s, r.lo ≤ r.hi) → (∀ r ∈ s, ∀ q ∈ out, q.lo ≤ r.lo) →
    canR (s.foldl stepC out) ∧ ∀ v, memR (s.foldl stepC out) v ↔ memR out v ∨ memR s v
  | [], out, hc, _, _, _ => ⟨hc, fun v => by simp [memR_nil]⟩
  | r :: s, out, hc, hs, hv, ho => by
    rw [List.pairwise_cons] at hs
    obtain ⟨h1, h2, h3⟩ := stepC_spec hc (hv r List.mem_cons_self) (ho r List.mem_cons_self)
    obtain ⟨h4, h5⟩ := fold_spec h1 hs.2 (fun t ht => hv t (List.mem_cons_of_mem _ ht)) (fun t ht q hq => Int.le_trans (h3 q hq) (hs.1 t ht))
    refine ⟨h4, fun v => ?_⟩
    rw [List.foldl_cons, h5, h2, memR_cons, or_assoc]
/-- the canonical list of a list of ranges -/
def IsCanOf (l c : List Rg) : Prop := canR c ∧ ∀ v, memR c v ↔ memR l v
theorem memR_perm {l m : List Rg} (h : l.Perm m) {v : Int} : memR l v ↔ memR m v := by
  unfold memR
  constructor
  · rintro ⟨r, hr, h1⟩; exact ⟨r, h.mem_iff.1 hr, h1⟩
  · rintro ⟨r, hr, h1⟩; exact ⟨r, h.mem_iff.2 hr, h1⟩
theorem memR_full (l : List Rg) {v : Int} : memR (l.filter fun r => decide (r.lo ≤ r.hi)) v ↔ memR l v := by
  unfold memR
  constructor
  · rintro ⟨r, hr, h1⟩; exact ⟨r, (List.mem_filter.1 hr).1, h1⟩
  · rintro ⟨r, hr, h1⟩; exact ⟨r, List.mem_filter.2 ⟨hr, decide_eq_true (by omega)⟩, h1⟩
theorem fold_can {l s : List Rg} (hp : s.Perm (l.filter fun r => decide (r.lo ≤ r.hi))) (hs : s.Pairwise (fun a b => a.lo ≤ b.lo)) : IsCanOf l (s.foldl stepC []) := by
  obtain ⟨h1, h2⟩ := fold_spec (out := []) ⟨fun _ h => absurd h List.not_mem_nil, List.Pairwise.nil⟩ hs (fun r hr => of_decide_eq_true (List.mem_filter.1 (hp.mem_iff.1 hr)).2) (fun _ _ _ h => absurd h List.not_mem_nil)
  refine ⟨h1, fun v => ?_⟩
  rw [h2, memR_perm hp, memR_full]
  simp [memR_nil]
theorem IsCanOf.uniq {l c d : List Rg} (h : IsCanOf l c) (k : IsCanOf l d) : c = d := canR_unique h.1 k.1 fun v => (h.2 v).trans (k.2 v).symm
end Go.Proofs.YtfhkmkbfgmbbaaaGreatDoor

/- Rows of ranges in the terms of the kit's sort. -/
namespace Go.Proofs.YtfhkmkbfgmbbaaaGreatDoor
open Go.RowKit Go.Lib
open Go.Shelf
open Go.Sort hiding Below
set_option maxRecDepth 100000
instance : Inhabited Rg := ⟨⟨0, 0⟩⟩
/-- the cells of a range -/
def encR (r : Rg) : List Value := [.int .u32 r.lo, .int .u32 r.hi]
theorem flat_rcs (d : Array Rg) : flatK encR 2 d = (rcs d.toList).toArray := by
  apply Array.ext_getElem?
  intro t
  rcases Nat.lt_or_ge t (d.size * 2) with h | h
  · have hi : t / 2 < d.toList.length := by simp; omega
    obtain ⟨u1, u2⟩ := rcs_at hi
    have hz : t < (flatK encR 2 d).size := by simpa using h
    have hg : (flatK encR 2 d)[t]? = some ((flatK encR 2 d)[t]!) := by
      rw [getElem!_pos _ t hz]; exact Array.getElem?_eq_getElem hz
    have hd : d[t / 2]! = d.toList[t / 2] := by rw [getElem!_pos d (t / 2) (by simpa using hi)]; simp
    rw [hg, get_flatK _ _ _ t h, List.getElem?_toArray, hd]
    generalize d.toList[t / 2] = r at u1 u2
    rcases Nat.mod_two_eq_zero_or_one t with m | m
    · have e : t / 2 * 2 = t := by omega
      rw [e] at u1
      rw [u1, m]; rfl
    · have e : t / 2 * 2 + 1 = t := by omega
      rw [e] at u2
      rw [u2, m]; rfl
  · rw [Array.getElem?_eq_none (by simpa using h), List.getElem?_toArray, List.getElem?_eq_none (by rw [rcs_length]; simpa using h)]
/-- a row in memory, as the kit's sort asks it -/
theorem row_holds {w : World} {g m cap : Nat} {l : List Rg} (h : w.ownsRow 0 46 2 (.slice (some ⟨g, 0, none⟩) m cap) m (rcs l)) : HoldsK encR 2 w g 0 l.toArray ∧ g < w.heap.size ∧ l.length = m := by
  obtain ⟨hl, ⟨hn, -⟩ | ⟨g', cap', cur, hv, -, hg, hc, hm, hs, ht⟩⟩ := h
  · cases hn
  · cases hv
    have hlm : l.length = m := by rw [rcs_length] at hl; omega
    have hlt : g < w.heap.size := by
      rcases Nat.lt_or_ge g w.heap.size with h' | h'
      · exact h'
      · rw [Array.getElem?_eq_none h'] at hg; cases hg
    refine ⟨?_, hlt, hlm⟩
    unfold HoldsK
    rw [flat_rcs]
    intro j hj
    have hj' : j < (rcs l).length := by simpa using hj
    refine ⟨?_, frozen_of_row w g _ _ _ hg⟩
    rw [Nat.zero_add, cell_of_row w g j cur 46 (0, 0) hg, getElem!_pos _ j (by simpa using hj)]
    have h1 : (cur.toList.take (m * 2))[j]? = (rcs l)[j]? := by rw [ht]
    rw [List.getElem?_take_of_lt (by omega)] at h1
    rw [← Array.getElem?_toList, h1, List.getElem?_eq_getElem hj']
    simp
/-- and back: what the sort leaves -/
theorem row_sorted {w : World} {g m cap n : Nat} {xs : List Value} {d : Array Rg} {os : Array Obj} (h : w.ownsRow 0 46 2 (.slice (some ⟨g, 0, none⟩) m cap) m xs) (hd : d.size = m) :
    Keep [g] w (sortWorldK encR 2 w g 0 n d os) ∧ (sortWorldK encR 2 w g 0 n d os).ownsRow 0 46 2 (.slice (some ⟨g, 0, none⟩) m cap) m (rcs d.toList) := by
  obtain ⟨hl, ⟨hn, -⟩ | ⟨g', cap', cur, hv, -, hg, hc, hm, hs, ht⟩⟩ := h
  · cases hn
  · cases hv
    have hlt : g < w.heap.size := by
      rcases Nat.lt_or_ge g w.heap.size with h' | h'
      · exact h'
      · rw [Array.getElem?_eq_none h'] at hg; cases hg
    have hr : (rcs d.toList).length = m * 2 := by rw [rcs_length]; simp [hd]
    have hH : (sortWorldK encR 2 w g 0 n d os).heap = w.heap.modify g (onCells (putCells id 0 (rcs d.toList).toArray)) ++ os := by
      unfold sortWorldK putRowK putRow; rw [flat_rcs]; rfl
    have hk : ∀ k, k < w.heap.size → k ≠ g → (sortWorldK encR 2 w g 0 n d os).heap[k]? = w.heap[k]? := by
      intro k hk hne
      rw [hH, Array.getElem?_append_left (by simpa using hk), Array.getElem?_modify, if_neg (fun e => hne e.symm)]
    have hG : (sortWorldK encR 2 w g 0 n d os).heap[g]? = some (.cells (putCells id 0 (rcs d.toList).toArray cur) 46 (0, 0)) := by
      rw [hH, Array.getElem?_append_left (by simpa using hlt), Array.getElem?_modify, if_pos rfl, hg]; rfl
    refine ⟨⟨rfl, rfl, rfl, by rw [hH]; simp, fun k hk' hm' => hk k hk' (by simpa using hm')⟩, hr, .inr ⟨g, cap, _, rfl, Nat.zero_le _, hG, hc, hm, by simp [putCells, hs], ?_⟩⟩
    apply List.ext_getElem?
    intro j
    rcases Nat.lt_or_ge j (m * 2) with hj | hj
    · rw [List.getElem?_take_of_lt hj, Array.getElem?_toList]
      have hjc : j < cur.size := by rw [hs]; exact Nat.lt_of_lt_of_le hj (Nat.mul_le_mul_right 2 hc)
      have hjr : j < (rcs d.toList).length := by omega
      unfold putCells
      rw [Array.getElem?_mapIdx, Array.getElem?_eq_getElem hjc, Option.map_some, if_pos ⟨Nat.zero_le _, by simpa using hjr⟩, Nat.sub_zero, List.getElem?_eq_getElem hjr, getElem!_pos _ j (by simpa using hjr)]
      simp
    · rw [List.getElem?_eq_none (by simp; omega), List.getElem?_eq_none (by omega)]
end Go.Proofs.YtfhkmkbfgmbbaaaGreatDoor

/- slices.SortFunc and slices.Grow at api.Range: the kit's layings, as its tool writes it (turned to names). -/
namespace Go.Proofs.YtfhkmkbfgmbbaaaGreatDoor
open Go.Shelf
def sortRg_ren : Go.Shelf.Ren := ⟨fun | 6 => 58 | 15 => 49 | 14 => 80 | 28 => 74 | 29 => 75 | 20 => 90 | 21 => 91 | 22 => 92 | 23 => 93 | 24 => 94 | 25 => 95 | 26 => 96 | 27 => 97 | 46 => 103 | 47 => 84 | 48 => 85 | 49 => 104 | 50 => 105 | 57 => 108 | n => n, fun | 22 => 23 | 24 => 46 | 25 => 81 | 3 => 3 | 39 => 71 | 0 => 0 | 53 => 28 | 55 => 54 | 4 => 4 | 46 => 89 | 45 => 88 | 50 => 58 | 5 => 5 | 9 => 9 | 66 => 101 | 70 => 105 | 76 => 114 | 77 => 61 | n => n, fun | n => n⟩
theorem sortRg : Go.Proofs.SlLaysF0.n6 Tryz.prog sortRg_ren := {
  mixed := by kernel_rfl
  f6 := ⟨Tryz.f58.name, by decide, Tryz.func58.trans (congrArg some (by kernel_rfl))⟩
  f14 := ⟨Tryz.f80.name, by decide, Tryz.func80.trans (congrArg some (by kernel_rfl))⟩
  f15 := Tryz.func49.trans (congrArg some (by kernel_rfl))
  f20 := ⟨Tryz.f90.name, by decide, Tryz.func90.trans (congrArg some (by kernel_rfl))⟩
  f21 := ⟨Tryz.f91.name, by decide, Tryz.func91.trans (congrArg some (by kernel_rfl))⟩
  f22 := ⟨Tryz.f92.name, by decide, Tryz.func92.trans (congrArg some (by kernel_rfl))⟩
  f23 := ⟨Tryz.f93.name, by decide, Tryz.func93.trans (congrArg some (by kernel_rfl))⟩
  f24 := ⟨Tryz.f94.name, by decide, Tryz.func94.trans (congrArg some (by kernel_rfl))⟩
  f25 := ⟨Tryz.f95.name, by decide, Tryz.func95.trans (congrArg some (by kernel_rfl))⟩
  f26 := ⟨Tryz.f96.name, by decide, Tryz.func96.trans (congrArg some (by kernel_rfl))⟩
  f27 := ⟨Tryz.f97.name, by decide, Tryz.func97.trans (congrArg some (by kernel_rfl))⟩
  f28 := Tryz.func74.trans (congrArg some (by kernel_rfl))
  f29 := Tryz.func75.trans (congrArg some (by kernel_rfl))
  f46 := ⟨Tryz.f103.name, by decide, Tryz.func103.trans (congrArg some (by kernel_rfl))⟩
  f47 := Tryz.func84.trans (congrArg some (by kernel_rfl))
  f48 := Tryz.func85.trans (congrArg some (by kernel_rfl))
  f49 := ⟨Tryz.f104.name, by decide, Tryz.func104.trans (congrArg some (by kernel_rfl))⟩
  f50 := ⟨Tryz.f105.name, by decide, Tryz.func105.trans (congrArg some (by kernel_rfl))⟩
  f57 := ⟨Tryz.f108.name, by decide, Tryz.func108.trans (congrArg some (by kernel_rfl))⟩
  t0 := Tryz.underlying0
  a0 := Tryz.isAgg0
  z0 := Tryz.sizeOf0
  v0 := Tryz.zeroValue0
  t3 := Tryz.underlying3
  a3 := Tryz.isAgg3
  z3 := Tryz.sizeOf3
  v3 := Tryz.zeroValue3
  t4 := Tryz.underlying4
  a4 := Tryz.isAgg4
  z4 := Tryz.sizeOf4
  v4 := Tryz.zeroValue4
  t5 := Tryz.underlying5
  a5 := Tryz.isAgg5
  z5 := Tryz.sizeOf5
  v5 := Tryz.zeroValue5
  t9 := Tryz.underlying9
  a9 := Tryz.isAgg9
  z9 := Tryz.sizeOf9
  v9 := Tryz.zeroValue9
  t22 := Tryz.underlying23
  a22 := Tryz.isAgg23
  z22 := Tryz.sizeOf23
  v22 := Tryz.zeroValue23
  t25 := Tryz.underlying81
  a25 := Tryz.isAgg81
  z25 := Tryz.sizeOf81
  v25 := Tryz.zeroValue81
  t39 := Tryz.underlying71
  a39 := Tryz.isAgg71
  z39 := Tryz.sizeOf71
  v39 := Tryz.zeroValue71
  t45 := Tryz.underlying88
  a45 := Tryz.isAgg88
  z45 := Tryz.sizeOf88
  v45 := Tryz.zeroValue88
  t46 := Tryz.underlying89
  a46 := Tryz.isAgg89
  z46 := Tryz.sizeOf89
  v46 := Tryz.zeroValue89
  t50 := Tryz.underlying58
  a50 := Tryz.isAgg58
  z50 := Tryz.sizeOf58
  v50 := Tryz.zeroValue58
  t53 := Tryz.underlying28
  a53 := Tryz.isAgg28
  z53 := Tryz.sizeOf28
  v53 := Tryz.zeroValue28
  t55 := Tryz.underlying54
  a55 := Tryz.isAgg54
  z55 := Tryz.sizeOf54
  v55 := Tryz.zeroValue54
  t66 := Tryz.underlying101
  a66 := Tryz.isAgg101
  z66 := Tryz.sizeOf101
  v66 := Tryz.zeroValue101
  t70 := Tryz.underlying105
  a70 := Tryz.isAgg105
  z70 := Tryz.sizeOf105
  v70 := Tryz.zeroValue105
  t76 := Tryz.underlying114
  a76 := Tryz.isAgg114
  z76 := Tryz.sizeOf114
  v76 := Tryz.zeroValue114
  t77 := Tryz.underlying61
  a77 := Tryz.isAgg61
  z77 := Tryz.sizeOf61
  v77 := Tryz.zeroValue61 }
def growRg_ren : Go.Shelf.Ren := ⟨fun | 4 => 64 | n => n, fun | 22 => 23 | 25 => 46 | 3 => 3 | 4 => 4 | 9 => 9 | 20 => 20 | 0 => 0 | n => n, fun | n => n⟩
theorem growRg : Go.Proofs.Lays8.n4 Tryz.prog growRg_ren := {
  mixed := by kernel_rfl
  f4 := ⟨Tryz.f64.name, by decide, Tryz.func64.trans (congrArg some (by kernel_rfl))⟩
  t0 := Tryz.underlying0
  a0 := Tryz.isAgg0
  z0 := Tryz.sizeOf0
  v0 := Tryz.zeroValue0
  t3 := Tryz.underlying3
  a3 := Tryz.isAgg3
  z3 := Tryz.sizeOf3
  v3 := Tryz.zeroValue3
  t4 := Tryz.underlying4
  a4 := Tryz.isAgg4
  z4 := Tryz.sizeOf4
  v4 := Tryz.zeroValue4
  t9 := Tryz.underlying9
  a9 := Tryz.isAgg9
  z9 := Tryz.sizeOf9
  v9 := Tryz.zeroValue9
  t20 := Tryz.underlying20
  a20 := Tryz.isAgg20
  z20 := Tryz.sizeOf20
  v20 := Tryz.zeroValue20
  t22 := Tryz.underlying23
  a22 := Tryz.isAgg23
  z22 := Tryz.sizeOf23
  v22 := Tryz.zeroValue23 }
end Go.Proofs.YtfhkmkbfgmbbaaaGreatDoor

/- slices.SortFunc at rows of ranges, by the lower end. -/
namespace Go.Proofs.YtfhkmkbfgmbbaaaGreatDoor
open Go.RowKit Go.Lib Go.Shelf
open Go.Sort hiding Below
set_option maxRecDepth 100000
/-- interval.canonical's order -/
def byLo (x y : Rg) : Int := cmpI x.lo y.lo
theorem ltOf_lo (x y : Rg) : ltOf byLo x y = decide (x.lo < y.lo) := by
  unfold ltOf byLo cmpI
  by_cases h : x.lo < y.lo
  · simp [h]
  · by_cases h2 : y.lo < x.lo <;> simp [h, h2]
theorem swo_lo : SWO (ltOf byLo) where
  irrefl x := by rw [ltOf_lo]; simp
  trans x y z h1 h2 := by rw [ltOf_lo] at *; simp at *; omega
  ntrans x y z h1 h2 := by rw [ltOf_lo] at *; simp at *; omega
set_option maxHeartbeats 2000000 in
theorem byLo_any (x y : Rg) (W : World) : Calls Tryz.prog 59 #[.agg #[.int .u32 x.lo, .int .u32 x.hi], .agg #[.int .u32 y.lo, .int .u32 y.hi]] W fun e w' => e = .returned (.int .i64 (byLo x y)) ∧ ∃ q os', w' = grow (W.drewN q) os' := by
  have hcon := fun W' => compare_u32 x.lo y.lo W'
  unfold byLo
  generalize cmpI x.lo y.lo = r at hcon ⊢
  go_enter Tryz.func59, Tryz.ntmps59
  go_wp2_with (go_at_call 60; refine (hcon _).mono ?_; rintro e w' ⟨rfl, rfl⟩)
  go_ret
  exact ⟨rfl, 0, _, by rw [alloc_eq_grow, alloc_eq_grow, grow_grow]; rfl⟩
set_option maxHeartbeats 2000000 in
theorem insNil_any (c : Value) (w : World) : Calls Tryz.prog 90 #[.slice none 0 0, .int .i64 0, .int .i64 0, c] w fun e w' => e = .returned (.tuple #[]) ∧ w' = w := by
  go_enter Tryz.func90, Tryz.ntmps90
  go_wp2
  go_loopw [8] (fun i wr => i = .int .i64 1 ∧ wr = w) (fun _ _ => 0)
  case atStart => exact ⟨rfl, rfl⟩
  case round =>
    obtain ⟨rfl, rfl⟩ := hrel
    have g0 : decide ((1 : Int) < 0) = false := rfl
    go_wp2
    go_end0
    exact ⟨rfl, rfl⟩
set_option maxHeartbeats 2000000 in
theorem pdqNil_any (n : Int) (c : Value) (w : World) : Calls Tryz.prog 80 #[.slice none 0 0, .int .i64 0, .int .i64 0, .int .i64 n, c] w fun e w' => e = .returned (.tuple #[]) ∧ w' = w := by
  go_enter Tryz.func80, Tryz.ntmps80
  go_wp2
  go_loopw [1, 2] (fun i j wr => i = .int .i64 0 ∧ j = .int .i64 0 ∧ wr = w) (fun _ _ _ => 0)
  case atStart => exact ⟨rfl, rfl, rfl⟩
  case round =>
    obtain ⟨rfl, rfl, rfl⟩ := hrel
    go_wp2_with (go_at_call 90; refine (insNil_any _ _).mono ?_; rintro e w' ⟨rfl, rfl⟩)
    refine bodyPost_ret (results_none rfl _ _ _) rfl ?_
    exact ⟨rfl, rfl⟩
set_option maxHeartbeats 2000000 in
theorem sortNil_any (c : Value) (w : World) : Calls Tryz.prog 58 #[.slice none 0 0, c] w fun e w' => e = .returned (.tuple #[]) ∧ w' = w := by
  have hl : Calls Tryz.prog 49 #[.int .u64 0] w fun e w' => e = .returned (.int .i64 (Lib.bitLen 0 : Nat)) ∧ w' = w := by
    have h := Any.bits_Len (SlLaysF0.n15.bits (P := Tryz.prog) (ρ := sortRg_ren) { sortRg with }) 0 w (by omega) (by omega)
    exact h
  go_enter Tryz.func58, Tryz.ntmps58
  go_wp2_with (first | (go_at_call 49; refine hl.mono ?_; rintro e w' ⟨rfl, rfl⟩) | (go_at_call 80; refine (pdqNil_any _ _ _).mono ?_; rintro e w' ⟨rfl, rfl⟩))
  go_end0
  exact ⟨rfl, rfl⟩
/-- slices.SortFunc leaves the row's ranges in the order of their lower ends. -/
theorem sortRg_any {v : Value} {m : Nat} {l : List Rg} (w : World) (h : w.ownsRow 0 46 2 v m (rcs l)) (hl : l.length ≤ 1000000000000) :
    Calls Tryz.prog 58 #[v, .func (.func 59) #[] #[]] w fun e w' =>
      e = .returned (.tuple #[]) ∧ ∃ s : List Rg, s.Perm l ∧ s.Pairwise (fun a b => a.lo ≤ b.lo) ∧ Keep v.ownBlock.toList w w' ∧ w'.ownsRow 0 46 2 v m (rcs s) := by
  have h0 := h
  obtain ⟨hlen, ⟨rfl, rfl⟩ | ⟨g, cap, cur, rfl, -⟩⟩ := h0
  · have : l = [] := by
      have := rcs_length l
      exact List.length_eq_zero_iff.1 (by omega)
    subst this
    exact (sortNil_any _ w).mono fun e w' ⟨he, hw⟩ => ⟨he, [], .refl _, .nil, hw ▸ Keep.refl _ _, hw ▸ h⟩
  · obtain ⟨hH, hg, rfl⟩ := row_holds h
    have eg : ∀ args w, (callFunc 59 args).run Tryz.prog w = .ok (.enter 59 args) w := enters_of Tryz.func59 (by kernel_rfl) rfl
    have hc := AnyQ.slices_SortFunc sortRg 2 (fun w => by exact Tryz.isAgg46 w) (fun w => by exact Tryz.sizeOf46 w) encR (fun _ => rfl) (fun x v hv => by simp [encR] at hv; rcases hv with rfl | rfl <;> rfl) byLo swo_lo 59 #[] g 0 cap l.toArray w eg (fun _ _ _ _ x y => byLo_any x y _) hH hg (by simp; omega)
    refine hc.mono fun e w' ⟨he, d, n, os, hp, hs, hw⟩ => ⟨he, d.toList, ?_, ?_, ?_⟩
    · have hdl : d.size = l.length := by simpa using hp.1
      have := hp.2.2
      simp at this
      rwa [List.take_of_length_le (by simp [hdl])] at this
    · rw [List.pairwise_iff_getElem]
      intro i j hi hj hij
      have hdl : d.size = l.length := by simpa using hp.1
      have := hs i j (Nat.zero_le _) hij (by simpa [hdl] using hj)
      rw [ltOf_lo, getElem!_pos d i (by simpa using hi), getElem!_pos d j (by simpa using hj)] at this
      simpa using this
    · subst hw
      exact row_sorted h (by simpa using hp.1)
end Go.Proofs.YtfhkmkbfgmbbaaaGreatDoor
