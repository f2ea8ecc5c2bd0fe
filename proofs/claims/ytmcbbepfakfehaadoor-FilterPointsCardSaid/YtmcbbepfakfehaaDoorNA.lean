/- The reference of intervals: Insert, Starts. -/
import Derived.Test.YtmcbbepfakfehaaDoorMC
import Derived.Test.YtmcbbepfakfehaaDoorMD
import Derived.Test.YtmcbbepfakfehaaDoorMB
import Derived.Test.YtmcbbepfakfehaaDoorMN
import Derived.Test.YtmcbbepfakfehaaDoorMQ
namespace Go.Proofs.YtmcbbepfakfehaaDoor
open Go.RowKit
set_option maxRecDepth 100000
end Go.Proofs.YtmcbbepfakfehaaDoor

/- The groups of a canonical form as the reference builds them: the boxes grow, the last ones are joined in place. No program in sight. -/
namespace Go.Proofs.YtmcbbepfakfehaaDoor
open Go.RowKit
/-- what is known of the groups so far when the last rest is L and the next range begins at p -/
def JoinOk (gs : List Grp) (L : List Bx) (p : Int) : Prop := (L ≠ [] → ∃ lo gs', gs = ⟨⟨lo, p - 1⟩, L⟩ :: gs') ∧ (L = [] → ∀ g ∈ gs.head?, g.r.hi + 1 < p)
theorem JoinOk.zero (p : Int) : JoinOk [] [] p := ⟨fun h => absurd rfl h, fun _ g hg => by cases hg⟩
theorem JoinOk.skip {gs : List Grp} {L : List Bx} {s : Rg} (h : JoinOk gs L s.lo) (hs : s.lo ≤ s.hi) : addG s [] gs = gs ∧ JoinOk (addG s [] gs) [] (s.hi + 1) := by
  rw [addG_nil]
  refine ⟨rfl, fun h => absurd rfl h, fun _ g hg => ?_⟩
  by_cases hL : L = []
  · have := h.2 hL g hg; omega
  · obtain ⟨lo, gs', rfl⟩ := h.1 hL
    cases hg
    dsimp only; omega
theorem JoinOk.new {gs : List Grp} {L T : List Bx} {s : Rg} (h : JoinOk gs L s.lo) (hT : T ≠ []) (hn : T ≠ L) : addG s T gs = ⟨s, T⟩ :: gs ∧ JoinOk (addG s T gs) T (s.hi + 1) := by
  have e : addG s T gs = ⟨s, T⟩ :: gs := by
    cases gs with
    | nil => rw [addG, if_neg hT]
    | cons g gs =>
      rw [addG, if_neg hT, if_neg]
      rintro ⟨h1, h2⟩
      by_cases hL : L = []
      · have := h.2 hL g rfl; omega
      · obtain ⟨lo, gs', h3⟩ := h.1 hL
        rw [List.cons.injEq] at h3
        rw [h3.1] at h2
        exact hn h2.symm
  refine ⟨e, ?_⟩
  rw [e]
  exact ⟨fun _ => ⟨s.lo, gs, by rw [show s.hi + 1 - 1 = s.hi by omega]⟩, fun h => absurd h hT⟩
end Go.Proofs.YtmcbbepfakfehaaDoor

/- The reference of packet sets: at, ranges, holds, none. -/
namespace Go.Proofs.YtmcbbepfakfehaaDoor
open Go.RowKit
set_option maxRecDepth 100000
theorem slice_Ranges : SliceT Tryd.prog 111 62 2 8 := ⟨Tryd.underlying111, by omega, by
  obtain ⟨i, h1, h2, h3, h4⟩ := info_parts (show (Tryd.prog.info? 62).map (fun i => (i.zero, i.size, i.bytes)) = some (some (.agg #[.int .u32 0, .int .u32 0]), 2, 8) by kernel_rfl)
  exact ⟨i, _, h1, h2, h3, h4, rfl⟩⟩
theorem und_Ranges : (Tryd.prog).underlying 111 = some (.slice 62) := Tryd.underlying111
end Go.Proofs.YtmcbbepfakfehaaDoor
