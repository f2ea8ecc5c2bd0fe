/- Words of the calendar: what days and times mean, as the program and as the reference read them. No program in sight. -/
import Derived.Lib.IndexMore
import Derived.Lib.SlicesS
import Derived.Shelf.Strings.Search2
import Derived.Shelf.Slices.Turned
import Derived.Test.YtfhkmkbfgmbbaaaGreatDoorRows
import Derived.Laws.BytesString
import Derived.Laws.Cells
import Derived.Test.YtfhkmkbfgmbbaaaGreatDoorMA
import Derived.Test.YtfhkmkbfgmbbaaaGreatDoorMB
namespace Go.Proofs.YtfhkmkbfgmbbaaaGreatDoor
abbrev Bs := List UInt8
/-- a text around the first place of a byte -/
def cutB : Bs → UInt8 → Option (Bs × Bs)
  | [], _ => none
  | b :: l, c => if b = c then some ([], l) else match cutB l c with
    | none => none
    | some (x, y) => some (b :: x, y)
theorem cutB_some : ∀ {s l r : Bs} {c : UInt8}, cutB s c = some (l, r) → s = l ++ c :: r ∧ c ∉ l
  | [], l, r, c, h => by cases h
  | b :: s, l, r, c, h => by
    rw [cutB] at h
    by_cases e : b = c
    · rw [if_pos e] at h
      cases h
      exact ⟨by rw [e]; rfl, by simp⟩
    · rw [if_neg e] at h
      cases h2 : cutB s c with
      | none => rw [h2] at h; cases h
      | some p =>
        obtain ⟨x, y⟩ := p
        rw [h2] at h
        cases h
        obtain ⟨h3, h4⟩ := cutB_some h2
        exact ⟨by rw [h3]; rfl, by simp [h4]; exact fun h => e h.symm⟩
theorem cutB_of : ∀ {l r : Bs} {c : UInt8}, c ∉ l → cutB (l ++ c :: r) c = some (l, r)
  | [], r, c, _ => by rw [List.nil_append, cutB, if_pos rfl]
  | b :: l, r, c, h => by
    have h1 : b ≠ c := fun e => h (by simp [e])
    have h2 : c ∉ l := fun e => h (by simp [e])
    rw [List.cons_append, cutB, if_neg h1, cutB_of h2]
theorem index_one : ∀ (s : Bs) (c : UInt8), Lib.index s [c] = match cutB s c with
    | none => -1
    | some p => (p.1.length : Int)
  | [], c => rfl
  | b :: s, c => by
    rw [Lib.index, cutB]
    by_cases e : b = c
    · rw [if_pos (by simp [e, List.isPrefixOf]), if_pos e]; rfl
    · have h1 : ¬ (List.isPrefixOf [c] (b :: s) = true) := by
        simp [List.isPrefixOf]; exact fun h => e h.symm
      rw [if_neg h1, if_neg e, index_one s c]
      cases h2 : cutB s c with
      | none => rfl
      | some p =>
        obtain ⟨x, y⟩ := p
        have h3 : ((x.length : Int) == -1) = false := by rw [beq_eq_false_iff_ne]; omega
        simp [h3]
/-- the parts of a text between the places of a byte -/
def partsB : Bs → UInt8 → List Bs
  | [], _ => [[]]
  | b :: l, c => if b = c then [] :: partsB l c else match partsB l c with
    | [] => [[b]]
    | p :: ps => (b :: p) :: ps
theorem partsB_ne : ∀ (s : Bs) (c : UInt8), partsB s c ≠ []
  | [], _ => by simp [partsB]
  | b :: s, c => by
    rw [partsB]
    split
    · simp
    · split <;> simp
theorem partsB_none : ∀ {s : Bs} {c : UInt8}, cutB s c = none → partsB s c = [s]
  | [], _, _ => rfl
  | b :: s, c, h => by
    rw [cutB] at h
    by_cases e : b = c
    · rw [if_pos e] at h; cases h
    · rw [if_neg e] at h
      cases h2 : cutB s c with
      | none => rw [partsB, if_neg e, partsB_none h2]
      | some p => rw [h2] at h; cases h
theorem partsB_some : ∀ {s l r : Bs} {c : UInt8}, cutB s c = some (l, r) → partsB s c = l :: partsB r c
  | [], _, _, _, h => by cases h
  | b :: s, l, r, c, h => by
    rw [cutB] at h
    by_cases e : b = c
    · rw [if_pos e] at h; cases h
      rw [partsB, if_pos e]
    · rw [if_neg e] at h
      cases h2 : cutB s c with
      | none => rw [h2] at h; cases h
      | some p =>
        obtain ⟨x, y⟩ := p
        rw [h2] at h; cases h
        rw [partsB, if_neg e, partsB_some h2]
/-- where a text stands in a list, or -1 -/
def idxB : List Bs → Bs → Nat → Int
  | [], _, _ => -1
  | z :: zs, x, i => if z = x then (i : Int) else idxB zs x (i + 1)
def dayL : List Bs := [[109, 111, 110], [116, 117, 101], [119, 101, 100], [116, 104, 117], [102, 114, 105], [115, 97, 116], [115, 117, 110]]
def dayI (x : Bs) : Int := idxB dayL x 0
theorem idxB_mem : ∀ {zs : List Bs} {x : Bs} {i : Nat}, 0 ≤ idxB zs x i → x ∈ zs
  | [], _, _, h => by simp [idxB] at h
  | z :: zs, x, i, h => by
    rw [idxB] at h
    by_cases e : z = x
    · simp [e]
    · rw [if_neg e] at h; exact List.mem_cons_of_mem _ (idxB_mem h)
theorem idxB_bd : ∀ (zs : List Bs) (x : Bs) (i : Nat), -1 ≤ idxB zs x i ∧ idxB zs x i < (i : Int) + zs.length
  | [], _, i => by simp [idxB]; omega
  | z :: zs, x, i => by
    rw [idxB]
    split
    · simp; omega
    · have := idxB_bd zs x (i + 1); simp at this ⊢; omega
theorem dayI_bd (x : Bs) : -1 ≤ dayI x ∧ dayI x ≤ 6 := by
  have := idxB_bd dayL x 0
  unfold dayI
  simp [dayL] at this ⊢
  omega
theorem dayI_in {x : Bs} (h : 0 ≤ dayI x) : x.length = 3 ∧ (45 : UInt8) ∉ x ∧ (32 : UInt8) ∉ x := by
  have hm := idxB_mem h
  have : ∀ y ∈ dayL, y.length = 3 ∧ (45 : UInt8) ∉ y ∧ (32 : UInt8) ∉ y := by decide
  exact this x hm
def dg (c : UInt8) : Bool := decide (48 ≤ c.toNat) && decide (c.toNat ≤ 57)
theorem dg_ne {c d : UInt8} (h : dg c = true) (hd : dg d = false) : c ≠ d := fun e => by rw [e, hd] at h; cases h
/-- the number of two digits, or -1 -/
def pairI : Bs → Int
  | [a, b] => if (dg a && dg b) = true then 10 * ((a.toNat : Int) - 48) + ((b.toNat : Int) - 48) else -1
  | _ => -1
theorem pairI_in {x : Bs} (h : 0 ≤ pairI x) : ∃ a b, x = [a, b] ∧ dg a = true ∧ dg b = true := by
  match x, h with
  | [a, b], h =>
    rw [pairI] at h
    split at h
    · rename_i h2; rw [Bool.and_eq_true] at h2; exact ⟨a, b, rfl, h2.1, h2.2⟩
    · omega
  | [], h => simp [pairI] at h
  | [_], h => simp [pairI] at h
  | _ :: _ :: _ :: _, h => simp [pairI] at h
theorem pairI_bd (x : Bs) : -1 ≤ pairI x ∧ pairI x ≤ 99 := by
  by_cases h : 0 ≤ pairI x
  · obtain ⟨a, b, rfl, ha, hb⟩ := pairI_in h
    unfold dg at ha hb
    simp only [Bool.and_eq_true, decide_eq_true_eq] at ha hb
    rw [pairI]
    split <;> omega
  · match x, h with
    | [a, b], h =>
      rw [pairI] at h ⊢
      split at h
      · rename_i h2
        unfold dg at h2
        simp only [Bool.and_eq_true, decide_eq_true_eq] at h2
        omega
      · rename_i h2; rw [if_neg h2]; omega
    | [], _ => simp [pairI]
    | [_], _ => simp [pairI]
    | _ :: _ :: _ :: _, _ => simp [pairI]
def s24 : Bs := [50, 52, 58, 48, 48]
/-- a time, as the program reads it -/
def clkP (x : Bs) : Int := if x = s24 then 1440 else match cutB x 58 with
  | none => -1
  | some p => if 0 ≤ pairI p.1 ∧ pairI p.1 ≤ 23 ∧ 0 ≤ pairI p.2 ∧ pairI p.2 ≤ 59 then 60 * pairI p.1 + pairI p.2 else -1
/-- a time, as the reference reads it -/
def clkR (x : Bs) : Int := if x = s24 then 1440 else if x.length = 5 ∧ x[2]? = some 58 then (if 0 ≤ pairI (x.take 2) ∧ pairI (x.take 2) ≤ 23 ∧ 0 ≤ pairI (x.drop 3) ∧ pairI (x.drop 3) ≤ 59 then 60 * pairI (x.take 2) + pairI (x.drop 3) else -1) else -1
theorem dg58 : dg 58 = false := rfl
theorem dg45 : dg 45 = false := rfl
theorem clk_eq (x : Bs) : clkP x = clkR x := by
  unfold clkP clkR
  by_cases h24 : x = s24
  · rw [if_pos h24, if_pos h24]
  rw [if_neg h24, if_neg h24]
  by_cases h5 : x.length = 5 ∧ x[2]? = some 58
  · rw [if_pos h5]
    obtain ⟨h5, h2⟩ := h5
    match x, h5, h2 with
    | [a, b, c, d, e], _, h2 =>
      simp at h2
      subst h2
      show (match cutB (a :: b :: 58 :: d :: [e]) 58 with
        | none => -1
        | some p => if 0 ≤ pairI p.1 ∧ pairI p.1 ≤ 23 ∧ 0 ≤ pairI p.2 ∧ pairI p.2 ≤ 59 then 60 * pairI p.1 + pairI p.2 else -1) = if 0 ≤ pairI [a, b] ∧ pairI [a, b] ≤ 23 ∧ 0 ≤ pairI [d, e] ∧ pairI [d, e] ≤ 59 then 60 * pairI [a, b] + pairI [d, e] else -1
      by_cases ea : a = 58
      · subst ea
        have e1 : cutB (58 :: b :: 58 :: d :: [e]) 58 = some ([], b :: 58 :: d :: [e]) := by rw [cutB, if_pos rfl]
        have e2 : pairI [58, b] = -1 := by rw [pairI, if_neg (by simp [dg58])]
        rw [e1, e2]
        simp [pairI]
      · by_cases eb : b = 58
        · subst eb
          have e1 : cutB (a :: 58 :: 58 :: d :: [e]) 58 = some ([a], 58 :: d :: [e]) := cutB_of (l := [a]) (by simp; exact fun h => ea h.symm)
          have e2 : pairI [a, 58] = -1 := by rw [pairI, if_neg (by simp [dg58])]
          rw [e1, e2]
          simp [pairI]
        · have e1 : cutB (a :: b :: 58 :: d :: [e]) 58 = some ([a, b], [d, e]) := cutB_of (l := [a, b]) (by simp; exact ⟨fun h => ea h.symm, fun h => eb h.symm⟩)
          rw [e1]
  · rw [if_neg h5]
    cases hc : cutB x 58 with
    | none => rfl
    | some p =>
      obtain ⟨l, r⟩ := p
      dsimp only
      rw [if_neg]
      rintro ⟨h1, _, h3, _⟩
      obtain ⟨a, b, rfl, _, _⟩ := pairI_in h1
      obtain ⟨d, e, rfl, _, _⟩ := pairI_in h3
      obtain ⟨h6, _⟩ := cutB_some hc
      exact h5 (by rw [h6]; exact ⟨rfl, rfl⟩)
theorem clkR_in {x : Bs} (h : 0 ≤ clkR x) : x.length = 5 ∧ (45 : UInt8) ∉ x ∧ clkR x ≤ 1440 := by
  unfold clkR at h ⊢
  by_cases h24 : x = s24
  · subst h24
    exact ⟨rfl, by decide, by simp⟩
  rw [if_neg h24] at h ⊢
  by_cases h5 : x.length = 5 ∧ x[2]? = some 58
  · rw [if_pos h5] at h ⊢
    split at h
    · rename_i h1
      obtain ⟨a, b, ha, da, db⟩ := pairI_in h1.1
      obtain ⟨d, e, hd, dd, de⟩ := pairI_in h1.2.2.1
      rw [if_pos h1]
      refine ⟨h5.1, ?_, by omega⟩
      match x, h5, ha, hd with
      | [a', b', c', d', e'], h5, ha, hd =>
        simp at h5 ha hd
        obtain ⟨rfl, rfl⟩ := ha
        obtain ⟨rfl, rfl⟩ := hd
        subst h5
        simp
        exact ⟨fun h => dg_ne da dg45 h.symm, fun h => dg_ne db dg45 h.symm, fun h => dg_ne dd dg45 h.symm, fun h => dg_ne de dg45 h.symm⟩
    · omega
  · rw [if_neg h5] at h; omega
theorem clkR_nil : clkR [] = -1 := rfl
/-- a moment, as the program reads it -/
def momP (x : Bs) : Option Int := match cutB x 32 with
  | none => none
  | some p => if 0 ≤ dayI p.1 ∧ 0 ≤ clkR p.2 ∧ clkR p.2 ≠ 1440 then some (1440 * dayI p.1 + clkR p.2) else none
/-- a moment, as the reference reads it -/
def momR (x : Bs) : Option Int := if x.length = 9 ∧ x[3]? = some 32 then (if 0 ≤ dayI (x.take 3) ∧ 0 ≤ clkR (x.drop 4) ∧ clkR (x.drop 4) ≠ 1440 then some (1440 * dayI (x.take 3) + clkR (x.drop 4)) else none) else none
theorem mom_eq (x : Bs) : momP x = momR x := by
  unfold momP momR
  by_cases h9 : x.length = 9 ∧ x[3]? = some 32
  · rw [if_pos h9]
    obtain ⟨h9, h3⟩ := h9
    have hx : x = x.take 3 ++ 32 :: x.drop 4 := by
      match x, h9, h3 with
      | [a, b, c, d, e, f, g, h, i], _, h3 => simp at h3; subst h3; rfl
    by_cases hd : 0 ≤ dayI (x.take 3)
    · have e1 : cutB x 32 = some (x.take 3, x.drop 4) := by
        have := cutB_of (l := x.take 3) (r := x.drop 4) (c := 32) (dayI_in hd).2.2
        rwa [← hx] at this
      rw [e1]
    · rw [if_neg fun h => hd h.1]
      cases hc : cutB x 32 with
      | none => rfl
      | some p =>
        obtain ⟨l, r⟩ := p
        dsimp only
        rw [if_neg]
        rintro ⟨h1, _⟩
        obtain ⟨h4, h5⟩ := cutB_some hc
        have h6 : x.take 3 = l := by rw [h4, ← (dayI_in h1).1, List.take_left]
        exact hd (h6 ▸ h1)
  · rw [if_neg h9]
    cases hc : cutB x 32 with
    | none => rfl
    | some p =>
      obtain ⟨l, r⟩ := p
      dsimp only
      rw [if_neg]
      rintro ⟨h1, h2, _⟩
      obtain ⟨h4, h5⟩ := cutB_some hc
      have h6 := (dayI_in h1).1
      have h7 := (clkR_in h2).1
      refine h9 ⟨by rw [h4]; simp; omega, ?_⟩
      rw [h4, ← h6, List.getElem?_append_right (Nat.le_refl _), Nat.sub_self]; rfl
/-- the days of a word: from the first to the last one -/
def spanP (x : Bs) : Option (Int × Int) := match cutB x 45 with
  | none => if 0 ≤ dayI x then some (dayI x, dayI x) else none
  | some p => if 0 ≤ dayI p.1 ∧ dayI p.1 ≤ dayI p.2 then some (dayI p.1, dayI p.2) else none
def spanR (x : Bs) : Option (Int × Int) := match partsB x 45 with
  | [p] => if 0 ≤ dayI p then some (dayI p, dayI p) else none
  | [p, q] => if 0 ≤ dayI p ∧ dayI p ≤ dayI q then some (dayI p, dayI q) else none
  | _ => none
theorem span_eq (x : Bs) : spanP x = spanR x := by
  unfold spanP spanR
  cases hc : cutB x 45 with
  | none => rw [partsB_none hc]
  | some p =>
    obtain ⟨l, r⟩ := p
    rw [partsB_some hc]
    dsimp only
    cases hr : cutB r 45 with
    | none => rw [partsB_none hr]
    | some q =>
      obtain ⟨l2, r2⟩ := q
      rw [partsB_some hr]
      have hne := partsB_ne r2 45
      cases hp : partsB r2 45 with
      | nil => exact absurd hp hne
      | cons a9 l9 =>
        dsimp only
        rw [if_neg]
        rintro ⟨h1, h2⟩
        have h3 := (dayI_in (x := r) (by omega)).2.1
        exact h3 (by rw [(cutB_some hr).1]; simp)
/-- the minutes of a word -/
def timP (x : Bs) : Option (Int × Int) := match cutB x 45 with
  | none => none
  | some p => if 0 ≤ clkR p.1 ∧ clkR p.1 < clkR p.2 then some (clkR p.1, clkR p.2) else none
def timR (x : Bs) : Option (Int × Int) := match partsB x 45 with
  | [p, q] => if 0 ≤ clkR p ∧ clkR p < clkR q then some (clkR p, clkR q) else none
  | _ => none
theorem tim_eq (x : Bs) : timP x = timR x := by
  unfold timP timR
  cases hc : cutB x 45 with
  | none => rw [partsB_none hc]
  | some p =>
    obtain ⟨l, r⟩ := p
    rw [partsB_some hc]
    dsimp only
    cases hr : cutB r 45 with
    | none => rw [partsB_none hr]
    | some q =>
      obtain ⟨l2, r2⟩ := q
      rw [partsB_some hr]
      have hne := partsB_ne r2 45
      cases hp : partsB r2 45 with
      | nil => exact absurd hp hne
      | cons a9 l9 =>
        dsimp only
        rw [if_neg]
        rintro ⟨h1, h2⟩
        have h3 := (clkR_in (x := r) (by omega)).2.1
        exact h3 (by rw [(cutB_some hr).1]; simp)
end Go.Proofs.YtfhkmkbfgmbbaaaGreatDoor

/- The calendar's texts of minutes, and the items of lists of words: plain. -/
namespace Go.Proofs.YtfhkmkbfgmbbaaaGreatDoor
/-- two digits of a number -/
def tx2 (n : Nat) : Bs := [UInt8.ofNat (48 + n / 10), UInt8.ofNat (48 + n % 10)]
/-- the text of a minute of the day -/
def timeT (n : Nat) : Bs := tx2 (n / 60) ++ 58 :: tx2 (n % 60)
def dayT (d : Nat) : Bs := dayL.getD d []
/-- the text of a minute of the week -/
def momT (m : Nat) : Bs := dayT (m / 1440) ++ 32 :: timeT (m % 1440)
theorem dayT_bare : ∀ d, d < 7 → (45 : UInt8) ∉ dayT d ∧ (32 : UInt8) ∉ dayT d ∧ (dayT d).length = 3 := by decide +kernel
/-- the ranges of the days from a on, n of them -/
def itR (a : Int) (f u : Int) : Nat → List Rg
  | 0 => []
  | n + 1 => itR a f u n ++ [⟨1440 * (a + n) + f, 1440 * (a + n) + u - 1⟩]
/-- an item of a window: the ranges of its two words -/
def itemF (d t : Bs) : Option (List Rg) := match spanR d, timR t with
  | some (a, b), some (f, u) => some (itR a f u (b - a + 1).toNat)
  | _, _ => none
/-- the items of a list of words: their ranges, and how many -/
def itemsF : List Bs → Option (List Rg × Nat)
  | [d, t] => match itemF d t with
    | some l => some (l, 1)
    | none => none
  | d :: t :: c :: rest => if c = [44] then (match itemF d t, itemsF rest with
    | some l, some (m, n) => some (l ++ m, n + 1)
    | _, _ => none) else none
  | _ => none
theorem items_len : ∀ {ws : List Bs} {l : List Rg} {n : Nat}, itemsF ws = some (l, n) → ws.length + 1 = 3 * n
  | [], _, _, h => by cases h
  | [_], _, _, h => by cases h
  | [d, t], l, n, h => by
    rw [itemsF] at h
    split at h
    · cases h; rfl
    · cases h
  | d :: t :: c :: rest, l, n, h => by
    rw [itemsF] at h
    split at h
    · split at h
      · rename_i h2
        cases h
        have := items_len h2
        simp only [List.length_cons]; omega
      · cases h
    · cases h
/-- one step on: what is read so far, and what is left -/
theorem items_step {ws : List Bs} {i : Nat} (h : i + 2 < ws.length) : itemsF (ws.drop i) = if ws[i + 2] = [44] then (match itemF ws[i] ws[i + 1], itemsF (ws.drop (i + 3)) with
    | some l, some (m, n) => some (l ++ m, n + 1)
    | _, _ => none) else none := by
  rw [List.drop_eq_getElem_cons (by omega : i < ws.length), List.drop_eq_getElem_cons (by omega : i + 1 < ws.length), List.drop_eq_getElem_cons h, itemsF]
theorem items_last {ws : List Bs} {i : Nat} (h : i + 2 = ws.length) : itemsF (ws.drop i) = (match itemF (ws[i]'(by omega)) (ws[i + 1]'(by omega)) with
    | some l => some (l, 1)
    | none => none) := by
  rw [List.drop_eq_getElem_cons (by omega : i < ws.length), List.drop_eq_getElem_cons (by omega : i + 1 < ws.length), List.drop_of_length_le (by omega), itemsF]
theorem items_none {ws : List Bs} {i : Nat} (h : ws.length ≤ i + 1) : itemsF (ws.drop i) = none := by
  by_cases h2 : i < ws.length
  · rw [List.drop_eq_getElem_cons h2, List.drop_of_length_le (by omega)]; rfl
  · rw [List.drop_of_length_le (by omega)]; rfl
theorem itR_len (a f u : Int) : ∀ n, (itR a f u n).length = n
  | 0 => rfl
  | n + 1 => by rw [itR, List.length_append, itR_len a f u n]; rfl
theorem spanR_bd {x : Bs} {a b : Int} (h : spanR x = some (a, b)) : 0 ≤ a ∧ a ≤ b ∧ b ≤ 6 := by
  rw [← span_eq] at h
  unfold spanP at h
  split at h
  · split at h
    · cases h
      have := dayI_bd x; omega
    · cases h
  · split at h
    · rename_i p _ _
      cases h
      have := dayI_bd p.2; omega
    · cases h
theorem clkR_le (x : Bs) : clkR x ≤ 1440 := by
  by_cases h : 0 ≤ clkR x
  · exact (clkR_in h).2.2
  · omega
theorem timR_bd {x : Bs} {f u : Int} (h : timR x = some (f, u)) : 0 ≤ f ∧ f < u ∧ u ≤ 1440 := by
  rw [← tim_eq] at h
  unfold timP at h
  split at h
  · cases h
  · split at h
    · rename_i p _ _
      cases h
      have := clkR_le p.2; omega
    · cases h
end Go.Proofs.YtfhkmkbfgmbbaaaGreatDoor

/- Texts in memory: strings, lists of strings, the names of the days. -/
namespace Go.Proofs.YtfhkmkbfgmbbaaaGreatDoor
open Go.RowKit
set_option maxRecDepth 100000
/-- the cells of a list of texts -/
def scs (ws : List Bs) : List Value := ws.map fun x => .string ⟨x.toArray⟩
theorem scs_len (ws : List Bs) : (scs ws).length = ws.length := by simp [scs]
theorem scs_app (l m : List Bs) : scs (l ++ m) = scs l ++ scs m := by simp [scs]
theorem scs_at {ws : List Bs} {k : Nat} (h : k < ws.length) : (scs ws)[k]? = some (.string ⟨ws[k].toArray⟩) := by simp [scs, h]
theorem scs_nil {ws : List Bs} : ws.length = 0 → scs ws = [] := fun h => by rw [List.length_eq_zero_iff.1 h]; rfl
/-- a slice that reads as a list of texts -/
def IsTexts (w : World) (v : Value) (ws : List Bs) : Prop := IsCells w v ws.length (scs ws)
def RetTexts (w : World) (ws : List Bs) (e : Ending) (w' : World) : Prop := ∃ v, e = .returned v ∧ (IsTexts w' v ws ∧ NewFrom w v) ∧ Below w.heap.size w w'
theorem one_string : OneT Tryz.prog 9 := ⟨_, Tryz.underlying9, rfl, by kernel_rfl⟩
theorem zero_string : ZeroT Tryz.prog 9 [.string ByteArray.empty] := by unfold ZeroT; kernel_rfl
theorem slice_strings : SliceT Tryz.prog 31 9 1 16 := ⟨Tryz.underlying31, by omega, by
  obtain ⟨i, h1, h2, h3, h4⟩ := info_parts (show (Tryz.prog.info? 9).map (fun i => (i.zero, i.size, i.bytes)) = some (some (.string ByteArray.empty), 1, 16) by kernel_rfl)
  exact ⟨i, _, h1, h2, h3, h4, rfl⟩⟩
theorem row_Days : RowT Tryz.prog 49 7 := ⟨_, Tryz.underlying49, rfl, by kernel_rfl⟩
/-- the names of the days, as calendar lays them -/
def Nms (w : World) : Prop := ∀ k (h : k < dayL.length), w.cell? ⟨0, k, none⟩ = some (.string ⟨dayL[k].toArray⟩)
theorem Nms.lt {w : World} (h : Nms w) : 0 < w.heap.size := World.block_lt_of_cell? w _ (h 0 (by decide))
theorem Own.nms {w0 w : World} {X : List Chunk} {R : List Row} {S : List Ro} {M : List Nat} (hO : Own M w0 X R S w) (hw : Nms w0) (hM : 0 ∉ M) : Nms w := fun k hk => by
  rw [World.cell?_of_block (w := w0) (hO.keep.block _ hw.lt hM)]; exact hw k hk
theorem own_nms {w : World} (hw : Nms w) : Own [] w [] [] [⟨0, 0, scs dayL⟩] w :=
  (own_start [] w).addRo ⟨0, 0, scs dayL⟩ (fun j v hj => by
    have hl := (List.getElem?_eq_some_iff.1 hj).1
    have hl' : j < dayL.length := by rw [← scs_len]; exact hl
    have := hw j hl'
    dsimp only at hj
    rw [scs_at hl'] at hj
    cases hj
    simpa using this) (by simp [excl])
theorem Own.roCell0 {M : List Nat} {w0 w : World} {X : List Chunk} {R : List Row} {S : List Ro} (hO : Own M w0 X R S w) {g off : Nat} {xs : List Value} (hm : (⟨g, off, xs⟩ : Ro) ∈ S) {v : Value} (hv : xs[0]? = some v) : w.cell? ⟨g, off, none⟩ = some v := hO.roCell (j := 0) hm hv
section
variable {P : Program} {ops : Array Oper} {rest : List Oper} {o : Oper} {a : Act} {w w0 w' : World} {Q : Exit → Act → World → Prop} {M : List Nat} {X X' : List Chunk} {R : List Row} {S : List Ro}
theorem own_ldV (hw : Region.wanted o (yielded ops a.tmps) = true := by rfl) {t : TypeId} {x : Operand} (ho : o.op = .load t x := by rfl) {n off : Nat} (hx : a.eval x = .pointer (some ⟨n, off, none⟩) := by rfl) {v : Value}
    (hl : LoadsAt P w t n off v := by (first | (refine' ld_row ?ht (hO.range ?hm ?hv) ?hs; (case ht => (with_reducible (first | exact row_Box | exact row_Range | exact row_Header | exact row_Five | exact row_Tape | exact row_Prefix | exact row_Truths | exact row_Packet | exact row_Group | exact row_Days))); (case hm => (repeat (first | exact List.mem_cons_self | refine List.mem_cons_of_mem _ ?_))); (case hv => (first | assumption | exact tk_rg _ (by assumption) | exact tk_box _ (by assumption) | exact tk_all _)); (case hs => rfl)) | (refine' ld_one ?ht (hO.cellAt ?hm ?hv); (case ht => (with_reducible (first | exact one_u32 | exact one_int | exact one_u16 | exact one_u8 | exact one_ints | exact one_bool | exact one_bytes | exact one_u64 | exact one_set | exact one_boxes | exact one_string | exact one_rgs))); (case hm => (repeat (first | exact List.mem_cons_self | refine List.mem_cons_of_mem _ ?_))); (case hv => (first | assumption | exact scs_at (by assumption) | exact tcs5_at _ (by assumption) | exact ints_at (by assumption) | exact cb_lo _ (by assumption) (by assumption) | exact cb_hi _ (by assumption) (by assumption) | exact fcs_at _ (by assumption) | exact tops_get (by assumption) | exact bcs_lo _ (by assumption) | exact bcs_hi _ (by assumption) | rfl))) | (refine' ld_row ?ht (hO.roRange ?hm ?hv) ?hs; (case ht => (with_reducible (first | exact row_Box | exact row_Range | exact row_Header | exact row_Five | exact row_Tape | exact row_Prefix | exact row_Truths | exact row_Packet | exact row_Group | exact row_Days))); (case hm => (repeat (first | exact List.mem_cons_self | refine List.mem_cons_of_mem _ ?_))); (case hv => (first | assumption | exact tk_rg _ (by assumption) | exact tk_box _ (by assumption) | exact tk_all _)); (case hs => rfl)) | (refine' ld_one ?ht (hO.roCell ?hm ?hv); (case ht => (with_reducible (first | exact one_u32 | exact one_int | exact one_u16 | exact one_u8 | exact one_ints | exact one_bool | exact one_bytes | exact one_u64 | exact one_set | exact one_boxes | exact one_string | exact one_rgs))); (case hm => (repeat (first | exact List.mem_cons_self | refine List.mem_cons_of_mem _ ?_))); (case hv => (first | assumption | exact scs_at (by assumption) | exact tcs5_at _ (by assumption) | exact ints_at (by assumption) | exact cb_lo _ (by assumption) (by assumption) | exact cb_hi _ (by assumption) (by assumption) | exact fcs_at _ (by assumption) | exact tops_get (by assumption) | exact bcs_lo _ (by assumption) | exact bcs_hi _ (by assumption) | rfl))) | (refine' ld_row ?ht (hO.roRangeG ?hm ?hv) ?hs; (case ht => (with_reducible (first | exact row_Box | exact row_Range | exact row_Header | exact row_Five | exact row_Tape | exact row_Prefix | exact row_Truths | exact row_Packet | exact row_Group | exact row_Days))); (case hm => (repeat (first | exact List.mem_cons_self | refine List.mem_cons_of_mem _ ?_))); (case hv => (first | assumption | exact tk_rg _ (by assumption) | exact tk_box _ (by assumption) | exact tk_all _)); (case hs => rfl)) | (refine' ld_one ?ht (hO.roCellG ?hm ?hv); (case ht => (with_reducible (first | exact one_u32 | exact one_int | exact one_u16 | exact one_u8 | exact one_ints | exact one_bool | exact one_bytes | exact one_u64 | exact one_set | exact one_boxes | exact one_string | exact one_rgs))); (case hm => (repeat (first | exact List.mem_cons_self | refine List.mem_cons_of_mem _ ?_))); (case hv => (first | assumption | exact scs_at (by assumption) | exact tcs5_at _ (by assumption) | exact ints_at (by assumption) | exact cb_lo _ (by assumption) (by assumption) | exact cb_hi _ (by assumption) (by assumption) | exact fcs_at _ (by assumption) | exact tops_get (by assumption) | exact bcs_lo _ (by assumption) | exact bcs_hi _ (by assumption) | rfl))) | (refine' ld_row ?ht (hO.roRange3 ?hm ?hv) ?hs; (case ht => (with_reducible (first | exact row_Box | exact row_Range | exact row_Header | exact row_Five | exact row_Tape | exact row_Prefix | exact row_Truths | exact row_Packet | exact row_Group | exact row_Days))); (case hm => (repeat (first | exact List.mem_cons_self | refine List.mem_cons_of_mem _ ?_))); (case hv => (first | assumption | exact tk_rg _ (by assumption) | exact tk_box _ (by assumption) | exact tk_all _)); (case hs => rfl)) | (refine' ld_one ?ht (hO.roCell3 ?hm ?hv); (case ht => (with_reducible (first | exact one_u32 | exact one_int | exact one_u16 | exact one_u8 | exact one_ints | exact one_bool | exact one_bytes | exact one_u64 | exact one_set | exact one_boxes | exact one_string | exact one_rgs))); (case hm => (repeat (first | exact List.mem_cons_self | refine List.mem_cons_of_mem _ ?_))); (case hv => (first | assumption | exact scs_at (by assumption) | exact tcs5_at _ (by assumption) | exact ints_at (by assumption) | exact cb_lo _ (by assumption) (by assumption) | exact cb_hi _ (by assumption) (by assumption) | exact fcs_at _ (by assumption) | exact tops_get (by assumption) | exact bcs_lo _ (by assumption) | exact bcs_hi _ (by assumption) | rfl))) | (refine' ld_one ?ht (hO.roCell4 ?hm ?hv); (case ht => (with_reducible (first | exact one_u32 | exact one_int | exact one_u16 | exact one_u8 | exact one_ints | exact one_bool | exact one_bytes | exact one_u64 | exact one_set | exact one_boxes | exact one_string | exact one_rgs))); (case hm => (repeat (first | exact List.mem_cons_self | refine List.mem_cons_of_mem _ ?_))); (case hv => (first | assumption | exact scs_at (by assumption) | exact tcs5_at _ (by assumption) | exact ints_at (by assumption) | exact cb_lo _ (by assumption) (by assumption) | exact cb_hi _ (by assumption) (by assumption) | exact fcs_at _ (by assumption) | exact tops_get (by assumption) | exact bcs_lo _ (by assumption) | exact bcs_hi _ (by assumption) | rfl))) | (refine' ld_row ?ht (hO.rowRange ?hm ?hv) ?hs; (case ht => (with_reducible (first | exact row_Box | exact row_Range | exact row_Header | exact row_Five | exact row_Tape | exact row_Prefix | exact row_Truths | exact row_Packet | exact row_Group | exact row_Days))); (case hm => (repeat (first | exact List.mem_cons_self | refine List.mem_cons_of_mem _ ?_))); (case hv => (first | assumption | exact tk_rg _ (by assumption) | exact tk_box _ (by assumption) | exact tk_all _)); (case hs => rfl)) | (refine' ld_one ?ht (hO.rowCell ?hm ?hv); (case ht => (with_reducible (first | exact one_u32 | exact one_int | exact one_u16 | exact one_u8 | exact one_ints | exact one_bool | exact one_bytes | exact one_u64 | exact one_set | exact one_boxes | exact one_string | exact one_rgs))); (case hm => (repeat (first | exact List.mem_cons_self | refine List.mem_cons_of_mem _ ?_))); (case hv => (first | assumption | exact scs_at (by assumption) | exact tcs5_at _ (by assumption) | exact ints_at (by assumption) | exact cb_lo _ (by assumption) (by assumption) | exact cb_hi _ (by assumption) (by assumption) | exact fcs_at _ (by assumption) | exact tops_get (by assumption) | exact bcs_lo _ (by assumption) | exact bcs_hi _ (by assumption) | rfl))) | (refine' ld_one ?ht (hO.roCell0 ?hm ?hv); (case ht => (with_reducible (first | exact one_u32 | exact one_int | exact one_u16 | exact one_u8 | exact one_ints | exact one_bool | exact one_bytes | exact one_u64 | exact one_set | exact one_boxes | exact one_string | exact one_rgs))); (case hm => (repeat (first | exact List.mem_cons_self | refine List.mem_cons_of_mem _ ?_))); (case hv => (first | assumption | exact scs_at (by assumption) | exact tcs5_at _ (by assumption) | exact ints_at (by assumption) | exact cb_lo _ (by assumption) (by assumption) | exact cb_hi _ (by assumption) (by assumption) | exact fcs_at _ (by assumption) | exact tops_get (by assumption) | exact bcs_lo _ (by assumption) | exact bcs_hi _ (by assumption) | rfl)))))
    (h : wpList P ops Q rest (a.put o.dst v) w) : wpList P ops Q (o :: rest) a w :=
  wpList_val hw _ _ (rx_ld ho hx hl) h
theorem q_ldV {K : Act → Prop} {t : TypeId} {x : Operand} (ho : o.op = .load t x := by rfl) {n off : Nat} (hx : a.eval x = .pointer (some ⟨n, off, none⟩) := by rfl) {v : Value}
    (hl : ∀ wq, Own M w0 X R S wq → LoadsAt P wq t n off v := by (intro wq hO; (first | (refine' ld_row ?ht (hO.range ?hm ?hv) ?hs; (case ht => (with_reducible (first | exact row_Box | exact row_Range | exact row_Header | exact row_Five | exact row_Tape | exact row_Prefix | exact row_Truths | exact row_Packet | exact row_Group | exact row_Days))); (case hm => (repeat (first | exact List.mem_cons_self | refine List.mem_cons_of_mem _ ?_))); (case hv => (first | assumption | exact tk_rg _ (by assumption) | exact tk_box _ (by assumption) | exact tk_all _)); (case hs => rfl)) | (refine' ld_one ?ht (hO.cellAt ?hm ?hv); (case ht => (with_reducible (first | exact one_u32 | exact one_int | exact one_u16 | exact one_u8 | exact one_ints | exact one_bool | exact one_bytes | exact one_u64 | exact one_set | exact one_boxes | exact one_string | exact one_rgs))); (case hm => (repeat (first | exact List.mem_cons_self | refine List.mem_cons_of_mem _ ?_))); (case hv => (first | assumption | exact scs_at (by assumption) | exact tcs5_at _ (by assumption) | exact ints_at (by assumption) | exact cb_lo _ (by assumption) (by assumption) | exact cb_hi _ (by assumption) (by assumption) | exact fcs_at _ (by assumption) | exact tops_get (by assumption) | exact bcs_lo _ (by assumption) | exact bcs_hi _ (by assumption) | rfl))) | (refine' ld_row ?ht (hO.roRange ?hm ?hv) ?hs; (case ht => (with_reducible (first | exact row_Box | exact row_Range | exact row_Header | exact row_Five | exact row_Tape | exact row_Prefix | exact row_Truths | exact row_Packet | exact row_Group | exact row_Days))); (case hm => (repeat (first | exact List.mem_cons_self | refine List.mem_cons_of_mem _ ?_))); (case hv => (first | assumption | exact tk_rg _ (by assumption) | exact tk_box _ (by assumption) | exact tk_all _)); (case hs => rfl)) | (refine' ld_one ?ht (hO.roCell ?hm ?hv); (case ht => (with_reducible (first | exact one_u32 | exact one_int | exact one_u16 | exact one_u8 | exact one_ints | exact one_bool | exact one_bytes | exact one_u64 | exact one_set | exact one_boxes | exact one_string | exact one_rgs))); (case hm => (repeat (first | exact List.mem_cons_self | refine List.mem_cons_of_mem _ ?_))); (case hv => (first | assumption | exact scs_at (by assumption) | exact tcs5_at _ (by assumption) | exact ints_at (by assumption) | exact cb_lo _ (by assumption) (by assumption) | exact cb_hi _ (by assumption) (by assumption) | exact fcs_at _ (by assumption) | exact tops_get (by assumption) | exact bcs_lo _ (by assumption) | exact bcs_hi _ (by assumption) | rfl))) | (refine' ld_row ?ht (hO.roRangeG ?hm ?hv) ?hs; (case ht => (with_reducible (first | exact row_Box | exact row_Range | exact row_Header | exact row_Five | exact row_Tape | exact row_Prefix | exact row_Truths | exact row_Packet | exact row_Group | exact row_Days))); (case hm => (repeat (first | exact List.mem_cons_self | refine List.mem_cons_of_mem _ ?_))); (case hv => (first | assumption | exact tk_rg _ (by assumption) | exact tk_box _ (by assumption) | exact tk_all _)); (case hs => rfl)) | (refine' ld_one ?ht (hO.roCellG ?hm ?hv); (case ht => (with_reducible (first | exact one_u32 | exact one_int | exact one_u16 | exact one_u8 | exact one_ints | exact one_bool | exact one_bytes | exact one_u64 | exact one_set | exact one_boxes | exact one_string | exact one_rgs))); (case hm => (repeat (first | exact List.mem_cons_self | refine List.mem_cons_of_mem _ ?_))); (case hv => (first | assumption | exact scs_at (by assumption) | exact tcs5_at _ (by assumption) | exact ints_at (by assumption) | exact cb_lo _ (by assumption) (by assumption) | exact cb_hi _ (by assumption) (by assumption) | exact fcs_at _ (by assumption) | exact tops_get (by assumption) | exact bcs_lo _ (by assumption) | exact bcs_hi _ (by assumption) | rfl))) | (refine' ld_row ?ht (hO.roRange3 ?hm ?hv) ?hs; (case ht => (with_reducible (first | exact row_Box | exact row_Range | exact row_Header | exact row_Five | exact row_Tape | exact row_Prefix | exact row_Truths | exact row_Packet | exact row_Group | exact row_Days))); (case hm => (repeat (first | exact List.mem_cons_self | refine List.mem_cons_of_mem _ ?_))); (case hv => (first | assumption | exact tk_rg _ (by assumption) | exact tk_box _ (by assumption) | exact tk_all _)); (case hs => rfl)) | (refine' ld_one ?ht (hO.roCell3 ?hm ?hv); (case ht => (with_reducible (first | exact one_u32 | exact one_int | exact one_u16 | exact one_u8 | exact one_ints | exact one_bool | exact one_bytes | exact one_u64 | exact one_set | exact one_boxes | exact one_string | exact one_rgs))); (case hm => (repeat (first | exact List.mem_cons_self | refine List.mem_cons_of_mem _ ?_))); (case hv => (first | assumption | exact scs_at (by assumption) | exact tcs5_at _ (by assumption) | exact ints_at (by assumption) | exact cb_lo _ (by assumption) (by assumption) | exact cb_hi _ (by assumption) (by assumption) | exact fcs_at _ (by assumption) | exact tops_get (by assumption) | exact bcs_lo _ (by assumption) | exact bcs_hi _ (by assumption) | rfl))) | (refine' ld_one ?ht (hO.roCell4 ?hm ?hv); (case ht => (with_reducible (first | exact one_u32 | exact one_int | exact one_u16 | exact one_u8 | exact one_ints | exact one_bool | exact one_bytes | exact one_u64 | exact one_set | exact one_boxes | exact one_string | exact one_rgs))); (case hm => (repeat (first | exact List.mem_cons_self | refine List.mem_cons_of_mem _ ?_))); (case hv => (first | assumption | exact scs_at (by assumption) | exact tcs5_at _ (by assumption) | exact ints_at (by assumption) | exact cb_lo _ (by assumption) (by assumption) | exact cb_hi _ (by assumption) (by assumption) | exact fcs_at _ (by assumption) | exact tops_get (by assumption) | exact bcs_lo _ (by assumption) | exact bcs_hi _ (by assumption) | rfl))) | (refine' ld_row ?ht (hO.rowRange ?hm ?hv) ?hs; (case ht => (with_reducible (first | exact row_Box | exact row_Range | exact row_Header | exact row_Five | exact row_Tape | exact row_Prefix | exact row_Truths | exact row_Packet | exact row_Group | exact row_Days))); (case hm => (repeat (first | exact List.mem_cons_self | refine List.mem_cons_of_mem _ ?_))); (case hv => (first | assumption | exact tk_rg _ (by assumption) | exact tk_box _ (by assumption) | exact tk_all _)); (case hs => rfl)) | (refine' ld_one ?ht (hO.rowCell ?hm ?hv); (case ht => (with_reducible (first | exact one_u32 | exact one_int | exact one_u16 | exact one_u8 | exact one_ints | exact one_bool | exact one_bytes | exact one_u64 | exact one_set | exact one_boxes | exact one_string | exact one_rgs))); (case hm => (repeat (first | exact List.mem_cons_self | refine List.mem_cons_of_mem _ ?_))); (case hv => (first | assumption | exact scs_at (by assumption) | exact tcs5_at _ (by assumption) | exact ints_at (by assumption) | exact cb_lo _ (by assumption) (by assumption) | exact cb_hi _ (by assumption) (by assumption) | exact fcs_at _ (by assumption) | exact tops_get (by assumption) | exact bcs_lo _ (by assumption) | exact bcs_hi _ (by assumption) | rfl))) | (refine' ld_one ?ht (hO.roCell0 ?hm ?hv); (case ht => (with_reducible (first | exact one_u32 | exact one_int | exact one_u16 | exact one_u8 | exact one_ints | exact one_bool | exact one_bytes | exact one_u64 | exact one_set | exact one_boxes | exact one_string | exact one_rgs))); (case hm => (repeat (first | exact List.mem_cons_self | refine List.mem_cons_of_mem _ ?_))); (case hv => (first | assumption | exact scs_at (by assumption) | exact tcs5_at _ (by assumption) | exact ints_at (by assumption) | exact cb_lo _ (by assumption) (by assumption) | exact cb_hi _ (by assumption) (by assumption) | exact fcs_at _ (by assumption) | exact tops_get (by assumption) | exact bcs_lo _ (by assumption) | exact bcs_hi _ (by assumption) | rfl))))))
    (h : K (a.put o.dst v)) : o.quiet P a (Own M w0 X R S) K := q_val _ (fun _ hO => rx_ld ho hx (hl _ hO)) h
theorem own_stRV (hO : Own M w0 X R S w) (hw : Region.wanted o (yielded ops a.tmps) = true := by rfl) {t : TypeId} {x y : Operand} (ho : o.op = .store t x y := by rfl) {n off s : Nat} (hx : a.eval x = .pointer (some ⟨n, off, none⟩) := by rfl)
    {vs : List Value} (hy : a.eval y = .agg vs.toArray := by rfl) (ht : RowT P t s := by (with_reducible (first | exact row_Box | exact row_Range | exact row_Header | exact row_Five | exact row_Tape | exact row_Prefix | exact row_Truths | exact row_Packet | exact row_Group | exact row_Days))) (hs : vs.length = s := by rfl) {cs cs2 : List Value} {t' : TypeId} (hu : Upd X ⟨n, cs, t'⟩ ⟨n, cs2, t'⟩ X' := by (repeat (first | exact Upd.here | apply Upd.there))) (hn : putAt cs off vs = cs2 := by (first | exact bput_rg (by assumption) | exact putAt_all _ _ rfl | rfl)) (hl : off + s ≤ cs.length := by (first | (simp; done) | (show _ < 10; omega) | (show _ < 5; omega) | (show _ ≤ 10; omega) | omega)) (h1 : vs.all (·.oneCell') = true := by rfl)
    (h : ∀ w', Own M w0 X' R S w' → wpList P ops Q rest (a.put o.dst undef) w') : wpList P ops Q (o :: rest) a w := by
  subst hn
  exact own_store hO hw ho hx hy ht hs hu hl h1 h
theorem own_st1V (hO : Own M w0 X R S w) (hw : Region.wanted o (yielded ops a.tmps) = true := by rfl) {t : TypeId} {x y : Operand} (ho : o.op = .store t x y := by rfl) {n off : Nat} (hx : a.eval x = .pointer (some ⟨n, off, none⟩) := by rfl)
    {v : Value} (hy : a.eval y = v := by (first | exact (rfl : _ = Value.int _ _) | exact (rfl : _ = Value.bool _) | exact (rfl : _ = Value.slice _ _ _) | exact (rfl : _ = Value.pointer _) | exact (rfl : _ = Value.string _))) (ht : OneT P t := by (with_reducible (first | exact one_u32 | exact one_int | exact one_u16 | exact one_u8 | exact one_ints | exact one_bool | exact one_bytes | exact one_u64 | exact one_set | exact one_boxes | exact one_string | exact one_rgs))) {cs cs2 : List Value} {t' : TypeId} (hu : Upd X ⟨n, cs, t'⟩ ⟨n, cs2, t'⟩ X' := by (repeat (first | exact Upd.here | apply Upd.there))) (hn : cs.set off v = cs2 := by (first | exact bset_lo (by assumption) | exact bset_hi (by assumption) | exact fset (by assumption) | exact tset (by assumption) | (simp only [List.set_cons_zero, List.set_cons_succ]; done) | rfl)) (hl : off < cs.length := by (first | (simp; done) | (show _ < 10; omega) | (show _ < 5; omega) | (show _ ≤ 10; omega) | omega)) (h1 : v.oneCell' = true := by rfl)
    (h : ∀ w', Own M w0 X' R S w' → wpList P ops Q rest (a.put o.dst undef) w') : wpList P ops Q (o :: rest) a w := by
  subst hn
  exact own_store1 hO hw ho hx hy ht hu hl h1 h
theorem own_alV (hO : Own M w0 X R S w) (hw : Region.wanted o (yielded ops a.tmps) = true := by rfl) {t : TypeId} (ho : o.op = .alloc t := by rfl) {cs : List Value} (hz : ZeroT P t cs := by (with_reducible (first | exact zero_string | exact zero_Days | exact zero_Group | exact zero_Truths | exact zero_Packet | exact zero_Set | exact zero_Prefix | exact zero_Box | exact zero_Range | exact zero_Five | exact zero_Header)))
    (h : ∀ n w', Own M w0 (⟨n, cs, t⟩ :: X) R S w' → wpList P ops Q rest (a.put o.dst (.pointer (some ⟨n, 0, none⟩))) w') : wpList P ops Q (o :: rest) a w := own_alloc hO hw ho hz h
theorem own_apV (hO : Own M w0 X R S w) (hgd : o.guard = none := by rfl) {s x : Operand} {t e : TypeId} (ho : o.op = .call { callee := .builtin .append, args := #[s, x], argTypes := #[t, t] } := by rfl) {size bytes : Nat} (ht : SliceT P t e size bytes := by (with_reducible (first | exact slice_Boxes | exact slice_Set | exact slice_u8 | exact slice_u64 | exact slice_Groups | exact slice_Ranges | exact slice_strings)))
    {v : Value} (hs : a.eval s = v := by rfl) {b m c : Nat} (hx : a.eval x = .slice (some ⟨b, 0, none⟩) m c := by rfl) {news : List Value} {t' : TypeId} (hm : (⟨b, news, t'⟩ : Chunk) ∈ X := by (repeat (first | exact List.mem_cons_self | refine List.mem_cons_of_mem _ ?_))) (hl : news.length = m * size := by rfl) (hm0 : 0 < m := by omega) (h1 : news.all (·.oneCell') = true := by rfl)
    {k : Nat} {xs : List Value} {R1 : Nat → Nat → List Row} (hu : ∀ g cap, UpdR R ⟨v, k, xs, e, size⟩ ⟨.slice (some ⟨g, 0, none⟩) (k + m) cap, k + m, xs ++ news, e, size⟩ (R1 g cap) := by (intro _ _; (repeat (first | exact UpdR.here | apply UpdR.there)))) (hbytes : (k + m) * bytes ≤ 140737488355328 := by (first | omega | (simp; omega))) (hk : k + m ≤ maxLen := by (unfold maxLen; (first | omega | (simp; omega))))
    (h : ∀ g cap w', Own M w0 X (R1 g cap) S w' → wpList P ops Q rest (a.put o.dst (.slice (some ⟨g, 0, none⟩) (k + m) cap)) w') : wpList P ops Q (o :: rest) a w :=
  own_append hO hgd ho ht hs hx hm hl hm0 h1 hu hbytes hk h
end
end Go.Proofs.YtfhkmkbfgmbbaaaGreatDoor

/- strings.Cut and slices.Index: the kit's layings, as its tool writes them, turned to names. -/
namespace Go.Proofs.YtfhkmkbfgmbbaaaGreatDoor
open Go.Shelf
def indexLay_ren : Go.Shelf.Ren := ⟨fun | 219 => 89 | 217 => 99 | 225 => 100 | 224 => 101 | 267 => 102 | 266 => 106 | 314 => 107 | n => n, fun | 9 => 9 | 3 => 3 | 4 => 4 | 5 => 5 | 46 => 71 | 146 => 119 | 51 => 28 | n => n, fun | 1 => 1 | n => n⟩
theorem indexLay : Go.Proofs.Lays.n219 Tryz.prog indexLay_ren := {
  mixed := by kernel_rfl
  f217 := Tryz.func99.trans (congrArg some (by kernel_rfl))
  f219 := Tryz.func89.trans (congrArg some (by kernel_rfl))
  f224 := Tryz.func101.trans (congrArg some (by kernel_rfl))
  f225 := Tryz.func100.trans (congrArg some (by kernel_rfl))
  f266 := Tryz.func106.trans (congrArg some (by kernel_rfl))
  f267 := Tryz.func102.trans (congrArg some (by kernel_rfl))
  f314 := Tryz.func107.trans (congrArg some (by kernel_rfl))
  t3 := Tryz.underlying3
  a3 := Tryz.isAgg3
  z3 := Tryz.sizeOf3
  v3 := Tryz.zeroValue3
  t4 := Tryz.underlying4
  a4 := Tryz.isAgg4
  z4 := Tryz.sizeOf4
  v4 := Tryz.zeroValue4
  t5 := Tryz.underlying5
  a5 := Tryz.isAgg5
  z5 := Tryz.sizeOf5
  v5 := Tryz.zeroValue5
  t9 := Tryz.underlying9
  a9 := Tryz.isAgg9
  z9 := Tryz.sizeOf9
  v9 := Tryz.zeroValue9
  t46 := Tryz.underlying71
  a46 := Tryz.isAgg71
  z46 := Tryz.sizeOf71
  v46 := Tryz.zeroValue71
  t51 := Tryz.underlying28
  a51 := Tryz.isAgg28
  z51 := Tryz.sizeOf28
  v51 := Tryz.zeroValue28
  t146 := Tryz.underlying119
  a146 := Tryz.isAgg119
  z146 := Tryz.sizeOf119
  v146 := Tryz.zeroValue119
  g1 := by kernel_rfl }
def namesLay_ren : Go.Shelf.Ren := ⟨fun | 109 => 77 | n => n, fun | 31 => 31 | 9 => 9 | 3 => 3 | 0 => 0 | 4 => 4 | n => n, fun | n => n⟩
theorem namesLay : Go.Proofs.Lays.n109 Tryz.prog namesLay_ren := {
  mixed := by kernel_rfl
  f109 := Tryz.func77.trans (congrArg some (by kernel_rfl))
  t0 := Tryz.underlying0
  a0 := Tryz.isAgg0
  z0 := Tryz.sizeOf0
  v0 := Tryz.zeroValue0
  t3 := Tryz.underlying3
  a3 := Tryz.isAgg3
  z3 := Tryz.sizeOf3
  v3 := Tryz.zeroValue3
  t4 := Tryz.underlying4
  a4 := Tryz.isAgg4
  z4 := Tryz.sizeOf4
  v4 := Tryz.zeroValue4
  t9 := Tryz.underlying9
  a9 := Tryz.isAgg9
  z9 := Tryz.sizeOf9
  v9 := Tryz.zeroValue9
  t31 := Tryz.underlying31
  a31 := Tryz.isAgg31
  z31 := Tryz.sizeOf31
  v31 := Tryz.zeroValue31 }
end Go.Proofs.YtfhkmkbfgmbbaaaGreatDoor

/- The calendar's texts of minutes, as the program reads and writes them. -/
namespace Go.Proofs.YtfhkmkbfgmbbaaaGreatDoor
open Go.RowKit
set_option maxRecDepth 100000
theorem mk_inj {x y : Bs} : (⟨x.toArray⟩ : ByteArray) = ⟨y.toArray⟩ ↔ x = y := ⟨fun h => by
  have := congrArg (fun b : ByteArray => b.data.toList) h
  simpa using this, fun h => by rw [h]⟩
theorem idx_from : ∀ (zs : List Bs) (x : Bs) (i : Nat), Lib.idxFromS (zs.map fun y => (⟨y.toArray⟩ : ByteArray)) ⟨x.toArray⟩ i = idxB zs x i
  | [], _, _ => rfl
  | z :: zs, x, i => by
    rw [List.map_cons, Lib.idxFromS, idxB, idx_from zs x (i + 1)]
    by_cases e : z = x
    · rw [if_pos e, if_pos (mk_inj.2 e)]
    · rw [if_neg e, if_neg fun h => e (mk_inj.1 h)]
theorem idx_day (x : Bs) : Lib.idxOfS (dayL.map fun y => (⟨y.toArray⟩ : ByteArray)) ⟨x.toArray⟩ = dayI x := idx_from dayL x 0
/-- slices.Index at the names of the days -/
theorem names_any {g o c : Nat} (x : Bs) (w : World) (h : w.rangeAt g o (scs dayL)) :
    Calls Tryz.prog 77 #[.slice (some ⟨g, o, none⟩) 7 c, .string ⟨x.toArray⟩] w fun e w' => e = .returned (.int .i64 (dayI x)) ∧ w' = w := by
  have hc : ∀ j, j < (dayL.map fun y => (⟨y.toArray⟩ : ByteArray)).length → w.cell? ⟨g, o + j, none⟩ = some (.string ((dayL.map fun y => (⟨y.toArray⟩ : ByteArray)).getD j ByteArray.empty)) := fun j hj => by
    rw [List.length_map] at hj
    rw [h j _ (scs_at hj)]
    congr 2
    rw [List.getD_eq_getElem?_getD, List.getElem?_map, List.getElem?_eq_getElem hj]
    rfl
  have h1 := Any.slices_Index_string namesLay g o 7 c (dayL.map fun y => (⟨y.toArray⟩ : ByteArray)) ⟨x.toArray⟩ w (by decide) (by decide) hc
  rw [List.take_of_length_le (by decide), idx_day] at h1
  exact h1
/-- what strings.Cut hands back -/
def cutS (x : Bs) (c : UInt8) : Bs × Bs × Bool := match cutB x c with
  | none => (x, [], false)
  | some p => (p.1, p.2, true)
theorem ext_B (x : Bs) (i j : Nat) : (⟨x.toArray⟩ : ByteArray).extract i j = ⟨((x.take j).drop i).toArray⟩ := by
  apply ByteArray.ext
  apply Array.toList_inj.1
  rw [ByteArray.data_extract, Array.toList_extract]
  simp [List.extract_eq_take_drop, List.drop_take]
set_option maxHeartbeats 4000000 in
theorem cutL_any (x : Bs) (c : UInt8) (w : World) (hx : x.length ≤ 9223372036854775807) :
    Calls Tryz.prog 76 #[.string ⟨x.toArray⟩, .string ⟨#[c]⟩] w fun e w' => e = .returned (.tuple #[.string ⟨(cutS x c).1.toArray⟩, .string ⟨(cutS x c).2.1.toArray⟩, .bool (cutS x c).2.2]) ∧ Below w.heap.size w w' := by
  have hO := own_start [] w
  have hix : ∀ w, Calls Tryz.prog 89 #[.string ⟨x.toArray⟩, .string ⟨#[c]⟩] w fun e w' => e = .returned (.int .i64 (match cutB x c with | none => -1 | some p => (p.1.length : Int))) ∧ w' = w := fun w => by
    have h := Any.stringslite_Index_one indexLay ⟨x.toArray⟩ c w
    rw [← Lib.index_one, index_one] at h
    exact h
  unfold cutS
  cases hc : cutB x c with
  | none =>
    rw [hc] at hix
    dsimp only at hix
    go_enter Tryz.func76, Tryz.ntmps76
    go_wp2_with (go_at_call 89; (with_reducible refine (hix _).mono ?_); rintro e wv ⟨rfl, rfl⟩)
    go_ret3
    exact ⟨rfl, hO.keep.below⟩
  | some p =>
    obtain ⟨l, r⟩ := p
    obtain ⟨rfl, -⟩ := cutB_some hc
    rw [hc] at hix
    dsimp only at hix
    clear hc
    have hn : (l ++ c :: r).length = l.length + r.length + 1 := by simp; omega
    have e1 : (⟨(l ++ c :: r).toArray⟩ : ByteArray).extract 0 l.length = ⟨l.toArray⟩ := by rw [ext_B]; simp
    have e2 : (⟨(l ++ c :: r).toArray⟩ : ByteArray).extract (l.length + 1) (l ++ c :: r).length = ⟨r.toArray⟩ := by
      rw [ext_B, List.take_length, List.drop_append, List.drop_of_length_le (by omega), List.nil_append, show l.length + 1 - l.length = 1 by omega]; rfl
    have e3 : (⟨(l ++ c :: r).toArray⟩ : ByteArray).size = (l ++ c :: r).length := rfl
    rw [hn] at hx e2 e3
    generalize (⟨(l ++ c :: r).toArray⟩ : ByteArray) = sx at *
    have c1 : (0 : Int) ≤ (l.length : Int) := by omega
    have c2 : (l.length : Int) ≤ (sx.size : Int) := by omega
    have c3 : (0 : Int) ≤ (l.length : Int) + 1 := by omega
    have c4 : (l.length : Int) + 1 ≤ (sx.size : Int) := by omega
    have s4 : IntKind.i64.wrap ((l.length : Int) + 1) = (l.length : Int) + 1 := IntWalk.i64_in _ (by omega)
    have g1 : decide ((l.length : Int) ≥ 0) = true := decide_eq_true (by omega)
    go_enter Tryz.func76, Tryz.ntmps76
    go_wp2_with (go_at_call 89; (with_reducible refine (hix _).mono ?_); rintro e wv ⟨rfl, rfl⟩)
    (refine own_quiet hO (by kernel_rfl) (by kernel_rfl) ?_; clear hO; (repeat (go_big_quiet_want; (go_big_quiet_op; (first | go_big_quiet_on | ((refine ⟨_, fun _ _ => rfl, ?_⟩); go_big_quiet_on))))); (refine wpQuiet_nil ?_); intro wv hO)
    go_wp2_with fail
    go_ret3
    exact ⟨rfl, hO.keep.below⟩
set_option maxHeartbeats 4000000 in
theorem cut_any (x : Bs) (c : UInt8) (w : World) (hx : x.length ≤ 9223372036854775807) :
    Calls Tryz.prog 52 #[.string ⟨x.toArray⟩, .string ⟨#[c]⟩] w fun e w' => e = .returned (.tuple #[.string ⟨(cutS x c).1.toArray⟩, .string ⟨(cutS x c).2.1.toArray⟩, .bool (cutS x c).2.2]) ∧ Below w.heap.size w w' := by
  have hO := own_start [] w
  have h1 := fun w => cutL_any x c w hx
  generalize cutS x c = y at *
  obtain ⟨l, r, b⟩ := y
  go_enter Tryz.func52, Tryz.ntmps52
  go_wp2_with (go_at_call 76; refine (h1 _).mono ?_; rintro e wv ⟨rfl, hb⟩; replace hO := hO.call hb; clear hb)
  go_ret3
  exact ⟨rfl, hO.keep.below⟩
set_option maxHeartbeats 4000000 in
theorem index_any (x : Bs) (w : World) (hN : Nms w) :
    Calls Tryz.prog 53 #[.string ⟨x.toArray⟩] w fun e w' => e = .returned (.int .i64 (dayI x)) ∧ Below w.heap.size w w' := by
  have hO := own_nms hN
  have h1 := fun c w h => names_any (g := 0) (o := 0) (c := c) x w h
  go_enter Tryz.func53, Tryz.ntmps53
  go_wp2_with (go_at_call 77; (with_reducible refine (h1 _ _ (hO.ro ⟨0, 0, scs dayL⟩ List.mem_cons_self)).mono ?_); rintro e wv ⟨rfl, rfl⟩)
  go_ret
  exact ⟨rfl, hO.keep.below⟩
theorem pair_len {x : Bs} (h : x.length ≠ 2) : pairI x = -1 := by
  match x, h with
  | [a, b], h => exact absurd rfl h
  | [], _ => rfl
  | [_], _ => rfl
  | _ :: _ :: _ :: _, _ => rfl
theorem pair_no {a b : UInt8} (h : ¬ (48 ≤ a.toNat ∧ a.toNat ≤ 57 ∧ 48 ≤ b.toNat ∧ b.toNat ≤ 57)) : pairI [a, b] = -1 := by
  rw [pairI, if_neg]
  unfold dg
  simp only [Bool.and_eq_true, decide_eq_true_eq]
  omega
theorem pair_yes {a b : UInt8} (h1 : 48 ≤ a.toNat) (h2 : a.toNat ≤ 57) (h3 : 48 ≤ b.toNat) (h4 : b.toNat ≤ 57) : pairI [a, b] = 10 * ((a.toNat : Int) - 48) + ((b.toNat : Int) - 48) := by
  rw [pairI, if_pos]
  unfold dg
  simp only [Bool.and_eq_true, decide_eq_true_eq]
  omega
set_option maxHeartbeats 4000000 in
theorem pair_any (x : Bs) (w : World) (hx : x.length ≤ 9223372036854775807) :
    Calls Tryz.prog 78 #[.string ⟨x.toArray⟩] w fun e w' => e = .returned (.int .i64 (pairI x)) ∧ Below w.heap.size w w' := by
  have hO := own_start [] w
  by_cases hl : x.length = 2
  · obtain ⟨a, b, rfl⟩ : ∃ a b, x = [a, b] := by
      match x, hl with
      | [a, b], _ => exact ⟨a, b, rfl⟩
    clear hl hx
    have e0 : (⟨#[a, b]⟩ : ByteArray)[0]'(by show 0 < 2; omega) = a := rfl
    have e1 : (⟨#[a, b]⟩ : ByteArray)[1]'(by show 1 < 2; omega) = b := rfl
    go_enter Tryz.func78, Tryz.ntmps78
    by_cases h1 : a.toNat < 48
    · have g1 : decide ((a.toNat : Int) < 48) = true := decide_eq_true (by omega)
      rw [pair_no (by omega)]
      go_wp2_with fail
      go_ret
      exact ⟨rfl, hO.keep.below⟩
    have g1 : decide ((a.toNat : Int) < 48) = false := decide_eq_false (by omega)
    by_cases h2 : 57 < a.toNat
    · have g2 : decide ((a.toNat : Int) > 57) = true := decide_eq_true (by omega)
      rw [pair_no (by omega)]
      go_wp2_with fail
      go_ret
      exact ⟨rfl, hO.keep.below⟩
    have g2 : decide ((a.toNat : Int) > 57) = false := decide_eq_false (by omega)
    by_cases h3 : b.toNat < 48
    · have g3 : decide ((b.toNat : Int) < 48) = true := decide_eq_true (by omega)
      rw [pair_no (by omega)]
      go_wp2_with fail
      go_ret
      exact ⟨rfl, hO.keep.below⟩
    have g3 : decide ((b.toNat : Int) < 48) = false := decide_eq_false (by omega)
    by_cases h4 : 57 < b.toNat
    · have g4 : decide ((b.toNat : Int) > 57) = true := decide_eq_true (by omega)
      rw [pair_no (by omega)]
      go_wp2_with fail
      go_ret
      exact ⟨rfl, hO.keep.below⟩
    have g4 : decide ((b.toNat : Int) > 57) = false := decide_eq_false (by omega)
    rw [pair_yes (by omega) (by omega) (by omega) (by omega)]
    have s1 : IntKind.u8.wrap ((a.toNat : Int) - 48) = (a.toNat : Int) - 48 := by rw [IntKind.wrap_u8]; omega
    have s2 : IntKind.u8.wrap ((b.toNat : Int) - 48) = (b.toNat : Int) - 48 := by rw [IntKind.wrap_u8]; omega
    have s3 : IntKind.i64.wrap ((a.toNat : Int) - 48) = (a.toNat : Int) - 48 := IntWalk.i64_in _ (by omega)
    have s4 : IntKind.i64.wrap ((b.toNat : Int) - 48) = (b.toNat : Int) - 48 := IntWalk.i64_in _ (by omega)
    have s5 : IntKind.i64.wrap (10 * ((a.toNat : Int) - 48)) = 10 * ((a.toNat : Int) - 48) := IntWalk.i64_in _ (by omega)
    have s6 : IntKind.i64.wrap (10 * ((a.toNat : Int) - 48) + ((b.toNat : Int) - 48)) = 10 * ((a.toNat : Int) - 48) + ((b.toNat : Int) - 48) := IntWalk.i64_in _ (by omega)
    go_wp2_with fail
    (refine own_quiet hO (by kernel_rfl) (by kernel_rfl) ?_; clear hO; (repeat (go_big_quiet_want; (go_big_quiet_op; (first | go_big_quiet_on | ((refine ⟨_, fun _ _ => rfl, ?_⟩); go_big_quiet_on))))); (refine wpQuiet_nil ?_); intro wv hO)
    go_wp2_with fail
    go_ret
    exact ⟨rfl, hO.keep.below⟩
  · have g1 : ((x.length : Int) != 2) = true := by rw [bne_iff_ne]; omega
    rw [pair_len hl]
    go_enter Tryz.func78, Tryz.ntmps78
    go_wp2_with fail
    go_ret
    exact ⟨rfl, hO.keep.below⟩
theorem cutS_len (x : Bs) (c : UInt8) : (cutS x c).1.length ≤ x.length ∧ (cutS x c).2.1.length ≤ x.length := by
  unfold cutS
  cases h : cutB x c with
  | none => simp
  | some p =>
    obtain ⟨l, r⟩ := p
    obtain ⟨h1, _⟩ := cutB_some h
    rw [h1]
    dsimp only
    simp only [List.length_append, List.length_cons]
    omega
theorem clk_cut {x : Bs} (h : x ≠ s24) : clkR x = if (cutS x 58).2.2 = true ∧ 0 ≤ pairI (cutS x 58).1 ∧ pairI (cutS x 58).1 ≤ 23 ∧ 0 ≤ pairI (cutS x 58).2.1 ∧ pairI (cutS x 58).2.1 ≤ 59 then 60 * pairI (cutS x 58).1 + pairI (cutS x 58).2.1 else -1 := by
  rw [← clk_eq]
  unfold clkP cutS
  rw [if_neg h]
  cases cutB x 58 with
  | none => simp
  | some p => simp
set_option maxHeartbeats 4000000 in
theorem clock_any (x : Bs) (w : World) (hx : x.length ≤ 9223372036854775807) :
    Calls Tryz.prog 54 #[.string ⟨x.toArray⟩] w fun e w' => e = .returned (.int .i64 (clkR x)) ∧ Below w.heap.size w w' := by
  have hO := own_start [] w
  by_cases h24 : x = s24
  · subst h24
    rw [show clkR s24 = 1440 from rfl]
    unfold s24
    go_enter Tryz.func54, Tryz.ntmps54
    go_wp2_with fail
    go_ret
    exact ⟨rfl, hO.keep.below⟩
  have g1 : (x == [50, 52, 58, 48, 48]) = false := beq_eq_false_iff_ne.2 h24
  have hC := clk_cut h24
  have hcut := fun w => cut_any x 58 w hx
  obtain ⟨n1, n2⟩ := cutS_len x 58
  generalize cutS x 58 = y at *
  obtain ⟨l, r, b⟩ := y
  dsimp only at hC hcut n1 n2
  have hp1 := fun w => pair_any l w (by omega)
  have hp2 := fun w => pair_any r w (by omega)
  have b1 := pairI_bd l
  have b2 := pairI_bd r
  rw [hC]
  generalize pairI l = p at *
  generalize pairI r = q at *
  clear hC n1 n2 h24
  have s1 : IntKind.i64.wrap (60 * p) = 60 * p := IntWalk.i64_in _ (by omega)
  have s2 : IntKind.i64.wrap (60 * p + q) = 60 * p + q := IntWalk.i64_in _ (by omega)
  go_enter Tryz.func54, Tryz.ntmps54
  cases b
  · rw [if_neg fun h => Bool.noConfusion h.1]
    go_wp2_with (first | (go_at_call 52; (with_reducible refine (hcut _).mono ?_); rintro e wv ⟨rfl, hb⟩; replace hO := hO.call hb; clear hb) | (go_at_call 78; (with_reducible refine (hp1 _).mono ?_); rintro e wv ⟨rfl, hb⟩; replace hO := hO.call hb; clear hb) | (go_at_call 78; (with_reducible refine (hp2 _).mono ?_); rintro e wv ⟨rfl, hb⟩; replace hO := hO.call hb; clear hb))
    go_ret
    exact ⟨rfl, hO.keep.below⟩
  · by_cases h1 : p < 0
    · have g2 : decide (p < 0) = true := decide_eq_true h1
      rw [if_neg (by omega)]
      go_wp2_with (first | (go_at_call 52; (with_reducible refine (hcut _).mono ?_); rintro e wv ⟨rfl, hb⟩; replace hO := hO.call hb; clear hb) | (go_at_call 78; (with_reducible refine (hp1 _).mono ?_); rintro e wv ⟨rfl, hb⟩; replace hO := hO.call hb; clear hb) | (go_at_call 78; (with_reducible refine (hp2 _).mono ?_); rintro e wv ⟨rfl, hb⟩; replace hO := hO.call hb; clear hb))
      go_ret
      exact ⟨rfl, hO.keep.below⟩
    have g2 : decide (p < 0) = false := decide_eq_false h1
    by_cases h2 : 23 < p
    · have g3 : decide (p > 23) = true := decide_eq_true h2
      rw [if_neg (by omega)]
      go_wp2_with (first | (go_at_call 52; (with_reducible refine (hcut _).mono ?_); rintro e wv ⟨rfl, hb⟩; replace hO := hO.call hb; clear hb) | (go_at_call 78; (with_reducible refine (hp1 _).mono ?_); rintro e wv ⟨rfl, hb⟩; replace hO := hO.call hb; clear hb) | (go_at_call 78; (with_reducible refine (hp2 _).mono ?_); rintro e wv ⟨rfl, hb⟩; replace hO := hO.call hb; clear hb))
      go_ret
      exact ⟨rfl, hO.keep.below⟩
    have g3 : decide (p > 23) = false := decide_eq_false h2
    by_cases h3 : q < 0
    · have g4 : decide (q < 0) = true := decide_eq_true h3
      rw [if_neg (by omega)]
      go_wp2_with (first | (go_at_call 52; (with_reducible refine (hcut _).mono ?_); rintro e wv ⟨rfl, hb⟩; replace hO := hO.call hb; clear hb) | (go_at_call 78; (with_reducible refine (hp1 _).mono ?_); rintro e wv ⟨rfl, hb⟩; replace hO := hO.call hb; clear hb) | (go_at_call 78; (with_reducible refine (hp2 _).mono ?_); rintro e wv ⟨rfl, hb⟩; replace hO := hO.call hb; clear hb))
      go_ret
      exact ⟨rfl, hO.keep.below⟩
    have g4 : decide (q < 0) = false := decide_eq_false h3
    by_cases h4 : 59 < q
    · have g5 : decide (q > 59) = true := decide_eq_true h4
      rw [if_neg (by omega)]
      go_wp2_with (first | (go_at_call 52; (with_reducible refine (hcut _).mono ?_); rintro e wv ⟨rfl, hb⟩; replace hO := hO.call hb; clear hb) | (go_at_call 78; (with_reducible refine (hp1 _).mono ?_); rintro e wv ⟨rfl, hb⟩; replace hO := hO.call hb; clear hb) | (go_at_call 78; (with_reducible refine (hp2 _).mono ?_); rintro e wv ⟨rfl, hb⟩; replace hO := hO.call hb; clear hb))
      go_ret
      exact ⟨rfl, hO.keep.below⟩
    have g5 : decide (q > 59) = false := decide_eq_false h4
    rw [if_pos (by refine ⟨rfl, ?_⟩; omega)]
    go_wp2_with (first | (go_at_call 52; (with_reducible refine (hcut _).mono ?_); rintro e wv ⟨rfl, hb⟩; replace hO := hO.call hb; clear hb) | (go_at_call 78; (with_reducible refine (hp1 _).mono ?_); rintro e wv ⟨rfl, hb⟩; replace hO := hO.call hb; clear hb) | (go_at_call 78; (with_reducible refine (hp2 _).mono ?_); rintro e wv ⟨rfl, hb⟩; replace hO := hO.call hb; clear hb))
    go_ret
    exact ⟨rfl, hO.keep.below⟩
end Go.Proofs.YtfhkmkbfgmbbaaaGreatDoor

/- The calendar's digits, times, moments. -/
namespace Go.Proofs.YtfhkmkbfgmbbaaaGreatDoor
open Go.RowKit
set_option maxRecDepth 100000
def bcK (l : List Int) : List Value := l.map (Value.int .u8)
/-- the text of some bytes -/
def bsK (l : List Int) : Bs := l.map fun n => UInt8.ofNat n.toNat
theorem fold_push : ∀ (l : List Int) (b : ByteArray), l.foldl (fun r n => r.push (UInt8.ofNat n.toNat)) b = ⟨(b.data.toList ++ bsK l).toArray⟩
  | [], b => by
    cases b
    simp [bsK]
  | n :: l, b => by
    rw [List.foldl_cons, fold_push l]
    cases b
    simp [bsK, ByteArray.push]
theorem run_convK (w : World) {g o cap : Nat} {l : List Int} (h3 : w.rangeAt g o (bcK l)) : (convert 82 9 (.slice (some ⟨g, o, none⟩) l.length cap)).run Tryz.prog w = .ok (.string ⟨(bsK l).toArray⟩) w := by
  have hb : (Conv.bytesToString (.slice (some ⟨g, o, none⟩) l.length cap)).run Tryz.prog w = .ok (.string ⟨(bsK l).toArray⟩) w := by
    have h := run_loadCells_list (P := Tryz.prog) w ⟨g, o, none⟩ (bcK l) (fun j v hj => by
      have e : (⟨g, o, none⟩ : Addr).add j = ⟨g, o + j, none⟩ := by
        unfold Addr.add
        by_cases h0 : j = 0
        · rw [if_pos h0, h0]; rfl
        · rw [if_neg h0]
      rw [e]; exact h3 j v hj)
    rw [show (bcK l).length = l.length by simp [bcK]] at h
    rw [run_bytesToString w ⟨g, o, none⟩ l.length cap l h, fold_push]
    rfl
  unfold convert
  simp only [Sem.run_bind, run_underlying Tryz.underlying82, run_underlying Tryz.underlying9, run_underlying Tryz.underlying5, Result.andThen_ok, hb]
section
variable {ops : Array Oper} {rest : List Oper} {o : Oper} {a : Act} {Q : Exit → Act → World → Prop} {w : World}
theorem is_convK {d ty pos af g x} (h : wpList Tryz.prog ops Q (⟨d, .convert 82 9 x, ty, pos, af, g⟩ :: rest) a w) : wpList Tryz.prog ops Q (⟨d, .convert 82 9 x, ty, pos, af, g⟩ :: rest) a w := h
theorem own_convK (hw : Region.wanted o (yielded ops a.tmps) = true) {x : Operand} (ho : o.op = .convert 82 9 x) {g f cap n : Nat} (hx : a.eval x = .slice (some ⟨g, f, none⟩) n cap) {l : List Int} (hv : w.rangeAt g f (bcK l)) (hn : n = l.length)
    (h : wpList Tryz.prog ops Q rest (a.put o.dst (.string ⟨(bsK l).toArray⟩)) w) : wpList Tryz.prog ops Q (o :: rest) a w := by
  subst hn
  exact wpList_val hw _ _ (by unfold execOp; simp only [ho, hx, Sem.run_bind, run_convK w hv, Sem.run_pure, Result.andThen_ok]) h
end
theorem own_chunkAt {M : List Nat} {w0 w : World} {X : List Chunk} {R : List Row} {S : List Ro} (hO : Own M w0 X R S w) {n : Nat} {cs : List Value} {t : TypeId} (hm : (⟨n, cs, t⟩ : Chunk) ∈ X) : w.rangeAt n 0 cs := fun j u hj => by
  rw [(hO.chunk _ hm).cell (0 + j)]; simpa using hj
set_option maxHeartbeats 4000000 in
theorem digits_any (n : Nat) (w : World) (hn : n < 100) :
    Calls Tryz.prog 41 #[.int .i64 n] w fun e w' => e = .returned (.string ⟨(tx2 n).toArray⟩) ∧ Below w.heap.size w w' := by
  have hO := own_start [] w
  have s1 : Int.tdiv (n : Int) 10 = ((n / 10 : Nat) : Int) := rfl
  have s2 : Int.tmod (n : Int) 10 = ((n % 10 : Nat) : Int) := rfl
  have hT : tx2 n = bsK [48 + ((n / 10 : Nat) : Int), 48 + ((n % 10 : Nat) : Int)] := rfl
  rw [hT]
  have b1 : n / 10 < 10 := by omega
  have b2 : n % 10 < 10 := by omega
  generalize n / 10 = p at *
  generalize n % 10 = q at *
  have t1 : IntKind.i64.wrap (p : Int) = (p : Int) := IntWalk.i64_in _ (by omega)
  have t2 : IntKind.i64.wrap (q : Int) = (q : Int) := IntWalk.i64_in _ (by omega)
  have t3 : IntKind.u8.wrap (p : Int) = (p : Int) := by rw [IntKind.wrap_u8]; omega
  have t4 : IntKind.u8.wrap (q : Int) = (q : Int) := by rw [IntKind.wrap_u8]; omega
  have t5 : IntKind.u8.wrap (48 + (p : Int)) = 48 + (p : Int) := by rw [IntKind.wrap_u8]; omega
  have t6 : IntKind.u8.wrap (48 + (q : Int)) = 48 + (q : Int) := by rw [IntKind.wrap_u8]; omega
  go_enter Tryz.func41, Tryz.ntmps41
  go_wp2_with (first | ((with_reducible refine is_build ?_); (refine' own_buildP (o := ⟨some 11, _, _, _, _, _⟩) [.int .u8 (48 + (p : Int)), .int .u8 (48 + (q : Int))] hO (by rfl) rfl slice_u8 rfl rfl (by rfl) (by decide) (by decide) ?_); clear hO; intro n11 wv hO) | ((with_reducible refine is_convK ?_); (refine own_convK (l := [48 + (p : Int), 48 + (q : Int)]) (by rfl) rfl rfl (own_chunkAt hO List.mem_cons_self) rfl ?_)))
  go_ret
  exact ⟨rfl, hO.keep.below⟩
theorem cat_B (x y : Bs) : (⟨x.toArray⟩ : ByteArray) ++ (⟨y.toArray⟩ : ByteArray) = ⟨(x ++ y).toArray⟩ := by
  apply ByteArray.ext
  rw [ByteArray.data_append]
  simp
theorem cat3 (x y z : Bs) : (⟨x.toArray⟩ : ByteArray) ++ ⟨y.toArray⟩ ++ ⟨z.toArray⟩ = ⟨(x ++ (y ++ z)).toArray⟩ := by rw [cat_B, cat_B, List.append_assoc]
set_option maxHeartbeats 4000000 in
theorem time_any (n : Nat) (w : World) (hn : n ≤ 1440) :
    Calls Tryz.prog 22 #[.int .i64 n] w fun e w' => e = .returned (.string ⟨(timeT n).toArray⟩) ∧ Below w.heap.size w w' := by
  have hO := own_start [] w
  have s1 : Int.tdiv (n : Int) 60 = ((n / 60 : Nat) : Int) := rfl
  have s2 : Int.tmod (n : Int) 60 = ((n % 60 : Nat) : Int) := rfl
  have h1 := fun w => digits_any (n / 60) w (by omega)
  have h2 := fun w => digits_any (n % 60) w (by omega)
  have hT : timeT n = tx2 (n / 60) ++ 58 :: tx2 (n % 60) := rfl
  rw [hT]
  have l1 : (tx2 (n / 60)).length = 2 := rfl
  have l2 : (tx2 (n % 60)).length = 2 := rfl
  have b1 : n / 60 < 100 := by omega
  have b2 : n % 60 < 100 := by omega
  generalize tx2 (n / 60) = x at *
  generalize tx2 (n % 60) = y at *
  generalize n / 60 = p at *
  generalize n % 60 = q at *
  have t1 : IntKind.i64.wrap (p : Int) = (p : Int) := IntWalk.i64_in _ (by omega)
  have t2 : IntKind.i64.wrap (q : Int) = (q : Int) := IntWalk.i64_in _ (by omega)
  have k1 : ¬ 9223372036854775807 < x.length + 1 := by omega
  have k2 : ¬ 9223372036854775807 < x.length + 1 + y.length := by omega
  clear l1 l2
  go_enter Tryz.func22, Tryz.ntmps22
  go_wp2_with (first | (go_at_call 41; (with_reducible refine (h1 _).mono ?_); rintro e wv ⟨rfl, hb⟩; replace hO := hO.call hb; clear hb) | (go_at_call 41; (with_reducible refine (h2 _).mono ?_); rintro e wv ⟨rfl, hb⟩; replace hO := hO.call hb; clear hb))
  go_ret
  exact ⟨by rw [cat3]; rfl, hO.keep.below⟩
theorem mom_cut (x : Bs) : momR x = if (cutS x 32).2.2 = true ∧ 0 ≤ dayI (cutS x 32).1 ∧ 0 ≤ clkR (cutS x 32).2.1 ∧ clkR (cutS x 32).2.1 ≠ 1440 then some (dayI (cutS x 32).1 * 1440 + clkR (cutS x 32).2.1) else none := by
  rw [← mom_eq]
  unfold momP cutS
  cases cutB x 32 with
  | none => simp
  | some p => simp [Int.mul_comm]
theorem clkR_bd (x : Bs) : -1 ≤ clkR x ∧ clkR x ≤ 1440 := by
  refine ⟨?_, clkR_le x⟩
  unfold clkR
  split
  · omega
  · split
    · split
      · omega
      · omega
    · omega
set_option maxHeartbeats 4000000 in
theorem parseMoment_any (x : Bs) (w : World) (hx : x.length ≤ 9223372036854775807) (hN : Nms w) :
    Calls Tryz.prog 33 #[.string ⟨x.toArray⟩] w fun e w' => e = .returned (.tuple #[.int .i64 ((momR x).getD 0), .bool (momR x).isSome]) ∧ Below w.heap.size w w' := by
  have hO := own_nms hN
  have hC := mom_cut x
  have hcut := fun w => cut_any x 32 w hx
  obtain ⟨n1, n2⟩ := cutS_len x 32
  generalize cutS x 32 = y at *
  obtain ⟨l, r, b⟩ := y
  dsimp only at hC hcut n1 n2
  have hp1 := fun w h => index_any l w h
  have hp2 := fun w => clock_any r w (by omega)
  have b1 := dayI_bd l
  have b2 := clkR_bd r
  rw [hC]
  generalize dayI l = p at *
  generalize clkR r = q at *
  clear hC n1 n2
  have s1 : IntKind.i64.wrap (p * 1440) = p * 1440 := IntWalk.i64_in _ (by omega)
  have s2 : IntKind.i64.wrap (p * 1440 + q) = p * 1440 + q := IntWalk.i64_in _ (by omega)
  go_enter Tryz.func33, Tryz.ntmps33
  cases b
  · rw [if_neg fun h => Bool.noConfusion h.1]
    go_wp2_with (first | (go_at_call 52; (with_reducible refine (hcut _).mono ?_); rintro e wv ⟨rfl, hb⟩; replace hO := hO.call hb; clear hb) | (go_at_call 53; (with_reducible refine (hp1 _ (hO.nms hN (by simp))).mono ?_); rintro e wv ⟨rfl, hb⟩; replace hO := hO.call hb; clear hb) | (go_at_call 54; (with_reducible refine (hp2 _).mono ?_); rintro e wv ⟨rfl, hb⟩; replace hO := hO.call hb; clear hb))
    go_ret2
    exact ⟨rfl, hO.keep.below⟩
  · by_cases h1 : p < 0
    · have g2 : decide (p < 0) = true := decide_eq_true h1
      rw [if_neg (by omega)]
      go_wp2_with (first | (go_at_call 52; (with_reducible refine (hcut _).mono ?_); rintro e wv ⟨rfl, hb⟩; replace hO := hO.call hb; clear hb) | (go_at_call 53; (with_reducible refine (hp1 _ (hO.nms hN (by simp))).mono ?_); rintro e wv ⟨rfl, hb⟩; replace hO := hO.call hb; clear hb) | (go_at_call 54; (with_reducible refine (hp2 _).mono ?_); rintro e wv ⟨rfl, hb⟩; replace hO := hO.call hb; clear hb))
      go_ret2
      exact ⟨rfl, hO.keep.below⟩
    have g2 : decide (p < 0) = false := decide_eq_false h1
    by_cases h3 : q < 0
    · have g4 : decide (q < 0) = true := decide_eq_true h3
      rw [if_neg (by omega)]
      go_wp2_with (first | (go_at_call 52; (with_reducible refine (hcut _).mono ?_); rintro e wv ⟨rfl, hb⟩; replace hO := hO.call hb; clear hb) | (go_at_call 53; (with_reducible refine (hp1 _ (hO.nms hN (by simp))).mono ?_); rintro e wv ⟨rfl, hb⟩; replace hO := hO.call hb; clear hb) | (go_at_call 54; (with_reducible refine (hp2 _).mono ?_); rintro e wv ⟨rfl, hb⟩; replace hO := hO.call hb; clear hb))
      go_ret2
      exact ⟨rfl, hO.keep.below⟩
    have g4 : decide (q < 0) = false := decide_eq_false h3
    by_cases h4 : q = 1440
    · have g5 : (q == 1440) = true := beq_iff_eq.2 h4
      rw [if_neg (by omega)]
      clear h4
      go_wp2_with (first | (go_at_call 52; (with_reducible refine (hcut _).mono ?_); rintro e wv ⟨rfl, hb⟩; replace hO := hO.call hb; clear hb) | (go_at_call 53; (with_reducible refine (hp1 _ (hO.nms hN (by simp))).mono ?_); rintro e wv ⟨rfl, hb⟩; replace hO := hO.call hb; clear hb) | (go_at_call 54; (with_reducible refine (hp2 _).mono ?_); rintro e wv ⟨rfl, hb⟩; replace hO := hO.call hb; clear hb))
      go_ret2
      exact ⟨rfl, hO.keep.below⟩
    have g5 : (q == 1440) = false := beq_eq_false_iff_ne.2 h4
    rw [if_pos (by refine ⟨rfl, ?_⟩; omega)]
    go_wp2_with (first | (go_at_call 52; (with_reducible refine (hcut _).mono ?_); rintro e wv ⟨rfl, hb⟩; replace hO := hO.call hb; clear hb) | (go_at_call 53; (with_reducible refine (hp1 _ (hO.nms hN (by simp))).mono ?_); rintro e wv ⟨rfl, hb⟩; replace hO := hO.call hb; clear hb) | (go_at_call 54; (with_reducible refine (hp2 _).mono ?_); rintro e wv ⟨rfl, hb⟩; replace hO := hO.call hb; clear hb))
    go_ret2
    exact ⟨rfl, hO.keep.below⟩
theorem dayT_at {k : Nat} (h : k < dayL.length) : dayT k = dayL[k] := by
  unfold dayT; rw [List.getD_eq_getElem?_getD, List.getElem?_eq_getElem h]; rfl
theorem timeT_len (n : Nat) : (timeT n).length = 5 := rfl
/-- the text of a number: a moment's, or none -/
def momI (m : Int) : Bs := if 0 ≤ m ∧ m < 10080 then momT m.toNat else []
set_option maxHeartbeats 4000000 in
theorem moment_any (m : Int) (w : World) (hN : Nms w) :
    Calls Tryz.prog 34 #[.int .i64 m] w fun e w' => e = .returned (.string ⟨(momI m).toArray⟩) ∧ Below w.heap.size w w' := by
  have hO := own_nms hN
  unfold momI
  by_cases h1 : m < 0
  · have g1 : decide (m < 0) = true := decide_eq_true h1
    rw [if_neg (by omega)]
    go_enter Tryz.func34, Tryz.ntmps34
    go_wp2_with fail
    go_ret
    exact ⟨rfl, hO.keep.below⟩
  have g1 : decide (m < 0) = false := decide_eq_false h1
  by_cases h2 : 10080 ≤ m
  · have g2 : decide (m ≥ 10080) = true := decide_eq_true h2
    rw [if_neg (by omega)]
    go_enter Tryz.func34, Tryz.ntmps34
    go_wp2_with fail
    go_ret
    exact ⟨rfl, hO.keep.below⟩
  have g2 : decide (m ≥ 10080) = false := decide_eq_false h2
  rw [if_pos (by omega)]
  obtain ⟨n, rfl⟩ : ∃ n : Nat, m = (n : Int) := ⟨m.toNat, by omega⟩
  rw [Int.toNat_natCast]
  have s1 : Int.tdiv (n : Int) 1440 = ((n / 1440 : Nat) : Int) := rfl
  have s2 : Int.tmod (n : Int) 1440 = ((n % 1440 : Nat) : Int) := rfl
  have hk : n / 1440 < dayL.length := by show n / 1440 < 7; omega
  have hT : momT n = dayL[n / 1440] ++ ([32] ++ timeT (n % 1440)) := by unfold momT; rw [dayT_at hk]; rfl
  have h3 := fun w => time_any (n % 1440) w (by omega)
  have l1 : dayL[n / 1440].length = 3 := by rw [← dayT_at hk]; exact (dayT_bare _ hk).2.2
  have l2 := timeT_len (n % 1440)
  have u1 := scs_at hk
  have b1 : n / 1440 < 7 := hk
  have b2 : n % 1440 < 1440 := by omega
  rw [hT]
  clear hT
  generalize dayL[n / 1440] = x at *
  generalize timeT (n % 1440) = y at *
  generalize n / 1440 = p at *
  generalize n % 1440 = q at *
  have t1 : IntKind.i64.wrap (p : Int) = (p : Int) := IntWalk.i64_in _ (by omega)
  have t2 : IntKind.i64.wrap (q : Int) = (q : Int) := IntWalk.i64_in _ (by omega)
  have k1 : ¬ 9223372036854775807 < x.length + 1 := by omega
  have k2 : ¬ 9223372036854775807 < x.length + 1 + y.length := by omega
  have c1 : (p : Int) < 7 := by omega
  have c2 : (0 : Int) ≤ (p : Int) := by omega
  clear l1 l2
  go_enter Tryz.func34, Tryz.ntmps34
  go_wp2_with fail
  (refine own_quiet hO (by kernel_rfl) (by kernel_rfl) ?_; clear hO; (repeat (go_big_quiet_want; (first | ((with_reducible refine is_loadQ ?_); (refine q_ldV (h := ?_)); (try simp only [Act.put]); (try simp only [List.setIfInBounds_toArray, List.set_cons_zero, List.set_cons_succ]); go_big_quiet_on) | (go_big_quiet_op; (first | go_big_quiet_on | ((refine ⟨_, fun _ _ => rfl, ?_⟩); go_big_quiet_on) | go_big_quiet_call ((intro hq; go_at_call 22; exact q_call (h3 _) hq))))))); (refine wpQuiet_nil ?_); intro wv hO)
  go_wp2_with fail
  go_ret
  exact ⟨by rw [cat3]; rfl, hO.keep.below⟩
end Go.Proofs.YtfhkmkbfgmbbaaaGreatDoor
