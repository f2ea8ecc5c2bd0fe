/- What the program and the reference rewrite is the same: 'rewrites'; valid packets that are kept. -/
import Derived.Test.YtjfiipbjphabeaaDoorMQ
namespace Go.Proofs.YtjfiipbjphabeaaDoor
open Go.RowKit
set_option maxRecDepth 100000

theorem Own.addB {M : List Nat} {w0 w : World} {X : List Chunk} {R : List Row} {S : List Ro} (hO : Own M w0 X R S w) {g o c : Nat} {l : List Int} (hv : IsB w (.slice (some ⟨g, o, none⟩) l.length c) l) (hx : g ∉ excl X R) : Own M w0 X R (⟨g, o, bc l⟩ :: S) w := by
  rcases hv with ⟨h, _⟩ | ⟨g', o', c', h1, _, h2⟩
  · cases h
  · cases h1
    exact hO.addRo ⟨g, o, bc l⟩ h2 fun _ => hx
theorem Own.roB {M : List Nat} {w0 w : World} {X : List Chunk} {R : List Row} {S : List Ro} (hO : Own M w0 X R S w) {g o c : Nat} {l : List Int} (hm : (⟨g, o, bc l⟩ : Ro) ∈ S) (hc : l.length ≤ c) : IsB w (.slice (some ⟨g, o, none⟩) l.length c) l := hO.roIs hm hc
set_option maxHeartbeats 8000000 in
theorem prewrites_any {v : Value} {l : List Int} (h : Hd) (w : World) (hw0 : IsB w v l) (hb : BOk l) (hl : l.length ≤ 140737488355328) (ho : h.ok) :
    Calls Tryd.prog 40 #[v, hv h] w fun e w' => e = .returned (.bool true) ∧ Below w.heap.size w w' := by
  have h1 : ∀ w, IsB w v l → Calls Tryd.prog 42 #[v, hv h] w (EncPost (rwE l h) (rwF l h) w) := fun w hv => rewrite_any (v := v) (l := l) h w hv hb hl ho
  have h2 : ∀ w, IsB w v l → Calls Tryd.prog 43 #[v, hv h] w (EncPost (rwE l h) (rwF l h) w) := fun w hv => rrewrite_any (v := v) (l := l) h w hv hb hl ho
  generalize rwE l h = E at *
  generalize rwF l h = F at *
  have e1 : (E == E) = true := by simp
  obtain ⟨c1, c2, c3, c4, c5⟩ := h
  have hO := own_start [] w
  go_enter Tryd.func40, Tryd.ntmps40
  go_wp2_with (first | ((with_reducible refine is_load ?_); (first | (refine own_ldP hO (h := ?_)) | (refine own_ld (h := ?_)))) | ((with_reducible refine is_store ?_); (first | (refine own_stRp (hO := hO) (h := ?_); clear hO; intro wv hO) | (refine own_st1p (hO := hO) (h := ?_); clear hO; intro wv hO) | (refine own_stR (hO := hO) (h := ?_); clear hO; intro wv hO) | (refine own_st1 (hO := hO) (h := ?_); clear hO; intro wv hO))) | ((with_reducible refine is_box ?_); (first | (refine own_bx (o := ⟨some 3, _, _, _, _, _⟩) (hO := hO) (h := ?_); clear hO; intro n3 wv hO))) | (go_at_call 42; (with_reducible refine (h1 _ ?_).mono ?_); (focus exact hw0.below hO.keep.below); rintro e wv ⟨v3, rfl, hrow, hb9⟩; replace hO := hO.gainRow hb9 hrow; clear h1; clear hb9 hrow) | (go_at_call 43; (with_reducible refine (h2 _ ?_).mono ?_); (focus exact hw0.below hO.keep.below); rintro e wv ⟨v3, rfl, hrow, hb9⟩; replace hO := hO.gainRow hb9 hrow; clear h2; clear hb9 hrow) | ((with_reducible refine is_conv ?_); (refine own_conv (by rfl) rfl rfl (hO.rowIs (by (repeat (first | exact List.mem_cons_self | refine List.mem_cons_of_mem _ ?_)))) ?_)) | ((with_reducible refine is_load ?_); (refine own_ldW (hO := hO) (h := ?_))) | ((with_reducible refine is_store ?_); (refine own_stW (hO := hO) (h := ?_); clear hO; intro wv hO)))
  go_ret
  exact ⟨rfl, hO.keep.below⟩
end Go.Proofs.YtjfiipbjphabeaaDoor
