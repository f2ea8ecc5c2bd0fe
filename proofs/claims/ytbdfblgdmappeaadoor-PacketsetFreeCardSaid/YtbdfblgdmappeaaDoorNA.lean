/- The reference of intervals: Insert, Starts. -/
import Derived.Test.YtbdfblgdmappeaaDoorMC
import Derived.Test.YtbdfblgdmappeaaDoorMD
import Derived.Test.YtbdfblgdmappeaaDoorMB
import Derived.Test.YtbdfblgdmappeaaDoorMN
import Derived.Test.YtbdfblgdmappeaaDoorMQ
namespace Go.Proofs.YtbdfblgdmappeaaDoor
open Go.RowKit
set_option maxRecDepth 100000
def rcs : List Rg → List Value
 | [] => []
 | r :: l => .int .u32 r.lo :: .int .u32 r.hi :: rcs l
theorem rcs_at : ∀ {l : List Rg} {i : Nat} (h : i < l.length), (rcs l)[i * 2]? = some (.int .u32 l[i].lo) ∧ (rcs l)[i * 2 + 1]? = some (.int .u32 l[i].hi)
 | r :: l, 0, _ => ⟨rfl, rfl⟩
 | r :: l, i + 1, h => by
  have := rcs_at (l := l) (i := i) (by simpa using h)
  rw [show (i + 1) * 2 = i * 2 + 1 + 1 by omega]
  exact this
theorem starts_take {top : Int} {l : List Rg} {i : Nat} (h : i < l.length) : ptsR top (l.take (i + 1)) = if l[i].lo ≤ l[i].hi then insT top (l[i].hi + 1) (insT top l[i].lo (ptsR top (l.take i))) else ptsR top (l.take i) := by
 unfold ptsR
 rw [List.take_succ_eq_append_getElem h, List.foldl_append]
 rfl
theorem insU_len (v : Int) : ∀ l, (insU v l).length ≤ l.length + 1
 | [] => by simp [insU]
 | x :: l => by
  have := insU_len v l
  unfold insU
  split
  ·simp
  ·split <;> simp <;> omega
theorem insT_len (top v : Int) (l : List Int) : (insT top v l).length ≤ l.length + 1 := by
 unfold insT
 split
 ·omega
 ·exact insU_len v l
theorem ptsR_len (top : Int) (rs : List Rg) : ∀ i, i ≤ rs.length → (ptsR top (rs.take i)).length ≤ 1 + 2 * i
 | 0, _ => by simp [ptsR]
 | i + 1, h => by
  have := ptsR_len top rs i (by omega)
  rw [starts_take (by omega)]
  split
  ·have h1 := insT_len top rs[i].lo (ptsR top (rs.take i))
   have h2 := insT_len top (rs[i].hi + 1) (insT top rs[i].lo (ptsR top (rs.take i)))
   omega
  ·omega
def JoinOk (gs : List Grp) (L : List Bx) (p : Int) : Prop := (L ≠ [] → ∃ lo gs', gs = ⟨⟨lo, p - 1⟩, L⟩ :: gs') ∧ (L = [] → ∀ g ∈ gs.head?, g.r.hi + 1 < p)
theorem JoinOk.zero (p : Int) : JoinOk [] [] p := ⟨fun h => absurd rfl h, fun _ g hg => by cases hg⟩
theorem JoinOk.skip {gs : List Grp} {L : List Bx} {s : Rg} (h : JoinOk gs L s.lo) (hs : s.lo ≤ s.hi) : addG s [] gs = gs ∧ JoinOk (addG s [] gs) [] (s.hi + 1) := by
 rw [addG_nil]
 refine ⟨rfl, fun h => absurd rfl h, fun _ g hg => ?_⟩
 by_cases hL : L = []
 ·have := h.2 hL g hg; omega
 ·obtain ⟨lo, gs', rfl⟩ := h.1 hL
  cases hg
  dsimp only; omega
theorem JoinOk.new {gs : List Grp} {L T : List Bx} {s : Rg} (h : JoinOk gs L s.lo) (hT : T ≠ []) (hn : T ≠ L) : addG s T gs = ⟨s, T⟩ :: gs ∧ JoinOk (addG s T gs) T (s.hi + 1) := by
 have e : addG s T gs = ⟨s, T⟩ :: gs := by
  cases gs with
  | nil => rw [addG, if_neg hT]
  | cons g gs =>
   rw [addG, if_neg hT, if_neg]
   rintro ⟨h1, h2⟩
   by_cases hL : L = []
   ·have := h.2 hL g rfl; omega
   ·obtain ⟨lo, gs', h3⟩ := h.1 hL
    rw [List.cons.injEq] at h3
    rw [h3.1] at h2
    exact hn h2.symm
 refine ⟨e, ?_⟩
 rw [e]
 exact ⟨fun _ => ⟨s.lo, gs, by rw [show s.hi + 1 - 1 = s.hi by omega]⟩, fun h => absurd h hT⟩
theorem slice_Ranges : SliceT Tryd.prog 40 43 2 8 := ⟨Tryd.underlying40, by omega, by
 obtain ⟨i, h1, h2, h3, h4⟩ := info_parts (show (Tryd.prog.info? 43).map (fun i => (i.zero, i.size, i.bytes)) = some (some (.agg #[.int .u32 0, .int .u32 0]), 2, 8) by kernel_rfl)
 exact ⟨i, _, h1, h2, h3, h4, rfl⟩⟩
theorem und_Ranges : (Tryd.prog).underlying 40 = some (.slice 43) := Tryd.underlying40
theorem rcs_append : ∀ l m : List Rg, rcs (l ++ m) = rcs l ++ rcs m
 | [], _ => rfl
 | r :: l, m => by simp [rcs, rcs_append l m]
theorem rcs_length : ∀ l : List Rg, (rcs l).length = l.length * 2
 | [] => rfl
 | r :: l => by simp [rcs, rcs_length l]; omega
def rgs (f : Nat) (l : List Bx) : List Rg := l.map (·.at f)
theorem rgs_take {f : Nat} {l : List Bx} {k : Nat} (h : k < l.length) : rgs f (l.take (k + 1)) = rgs f (l.take k) ++ [l[k].at f] := by
 unfold rgs
 rw [List.take_succ_eq_append_getElem h, List.map_append]
 rfl
def RetRgs (w : World) (l : List Rg) (e : Ending) (w' : World) : Prop := ∃ v, e = .returned v ∧ (IsCells w' v l.length (rcs l) ∧ NewFrom w v) ∧ Below w.heap.size w w'
theorem own_rgs {M : List Nat} {w0 w : World} {X : List Chunk} {R : List Row} {S : List Ro} (hO : Own M w0 X R S w) {v : Value} {k : Nat} {l : List Rg} (hm : (⟨v, k, rcs l, 43, 2⟩ : Row) ∈ R) : IsCells w v l.length (rcs l) := by
 obtain ⟨h1, h2⟩ := hO.row _ hm
 dsimp only at h1 h2
 have hk : l.length = k := by rw [rcs_length] at h1; omega
 rcases h2 with ⟨hv, h0⟩ | ⟨g, cap, cur, hv, _, hg, hc, _, _, ht⟩
 ·left
  obtain rfl : l = [] := List.length_eq_zero_iff.1 (by omega)
  exact ⟨hv, rfl, rfl⟩
 ·right
  refine ⟨g, 0, cap, by rw [hv, hk], by rw [hk]; exact hc, fun j u hj => ?_⟩
  rw [cell_of_row w g (0 + j) cur _ _ hg]
  rw [← ht, List.getElem?_take] at hj
  split at hj
  ·simpa using hj
  ·cases hj
theorem rgs_length (f : Nat) (l : List Bx) : (rgs f l).length = l.length := by simp [rgs]
end Go.Proofs.YtbdfblgdmappeaaDoor
