/- Differ, of the program and of the reference; the reference's lows, First, Order. -/
import Derived.Test.YtdfihajngmgigaaDoorMW
import Derived.Test.YtdfihajngmgigaaDoorMX
import Derived.Test.YtdfihajngmgigaaDoorNC
import Derived.Test.YtdfihajngmgigaaDoorMV
import Derived.Test.YtdfihajngmgigaaDoorMS
import Derived.Test.YtdfihajngmgigaaDoorMB
namespace Go.Proofs.YtdfihajngmgigaaDoor
open Go.RowKit
set_option maxRecDepth 100000
theorem canon_self {D : List Bx} (h : Cn 0 5 D) : canonF orB 0 5 D [] = D := by
  have hv := h.valid rfl
  refine Cn.extq (canonF_cn orB 5 0 rfl hv (fun b hb => by cases hb)) h fun p hp => ?_
  rw [inq_canon hp hv (fun b hb => by cases hb), inq_nil]
  simp [orB]
set_option maxHeartbeats 2000000 in
theorem rcanonG_any {vl : Value} {l : List Bx} (w : World) (hv : IsBoxes w vl l) (kl : okL l) (hl : l.length ≤ 10000000000) (hc : (canonF orB 0 5 (valF l) []).length ≤ 100000000000) :
    Calls Tryd.prog 50 #[vl] w (RetBoxes w (canonF orB 0 5 (valF l) [])) := by
  have hO := own_start [] w
  have h0 := fun w hv => rvals_any (vl := vl) (l := l) w hv (by omega)
  have nV := valF_le l
  have h1 : ∀ (v : Value) (w : World), IsBoxes w v (valF l) → Calls Tryd.prog 70 #[v, .slice none 0 0, .int .i64 0, .int .i64 0] w (RetBoxes w (canonF orB 0 5 (valF l) [])) := fun v w hv => rrests_any opr_or 5 0 rfl v (.slice none 0 0) (valF l) [] w hv (.inl ⟨rfl, rfl⟩) (valF_vL kl) (fun b hb => by cases hb) (by omega) (by simp) hc
  generalize canonF orB 0 5 (valF l) [] = D at *
  go_enter Tryd.func50, Tryd.ntmps50
  go_wp2_with (first | ((with_reducible refine is_load ?_); refine own_ld (h := ?_)) | ((with_reducible refine is_store ?_); (first | refine own_stR (hO := hO) (h := ?_) | refine own_st1 (hO := hO) (h := ?_)); clear hO; intro wv hO) | (go_at_call 71; (with_reducible refine (h0 _ (hv.keep0 hO)).mono ?_); rintro e wv ⟨v9, rfl, ⟨hv9, hn9⟩, hb9⟩; have hof := hv9.form; replace hO := hO.gainB hb9 hv9 hn9; clear hb9 hv9 hn9) | (go_at_call 70; (with_reducible refine (h1 v9 _ (hO.isB hof (fun q hq => List.mem_append_left _ hq))).mono ?_); rintro e wv ⟨v3, rfl, ⟨hv9, hn9⟩, hb9⟩; have hs9 := hO.keep.size; have hof3 := hv9.form; replace hO := hO.gainB hb9 hv9 hn9; clear hb9 hv9))
  go_ret
  exact ⟨v3, rfl, ⟨hO.isB hof3 (fun q hq => List.mem_append_left _ hq), fun g hg => Nat.le_trans hs9 (hn9 g hg)⟩, hO.keep.below⟩
end Go.Proofs.YtdfihajngmgigaaDoor

/- The reference's Differ and Order; what they say. -/
namespace Go.Proofs.YtdfihajngmgigaaDoor
open Go.RowKit
set_option maxRecDepth 100000
theorem canon_small10 {op : Bool → Bool → Bool} {N M : Nat} {a b : List Bx} (ha : Ends N a) (hb : Ends M b) (h : N + M ≤ 90) : (canonF op 0 5 a b).length ≤ 10000000000 :=
  Nat.le_trans (canon_len ha hb (f := 0) rfl) (Nat.le_trans (Nat.pow_le_pow_left (show N + M + 2 ≤ 92 by omega) 5) (by decide))
end Go.Proofs.YtdfihajngmgigaaDoor
