/- The reference of packet sets: valid, Canon, limited, Make. -/
import Derived.Test.YtdfihajngmgigaaDoorNB
import Derived.Test.YtdfihajngmgigaaDoorMP
import Derived.Test.YtdfihajngmgigaaDoorMS
import Derived.Test.YtdfihajngmgigaaDoorMB
namespace Go.Proofs.YtdfihajngmgigaaDoor
open Go.RowKit
set_option maxRecDepth 100000
set_option maxHeartbeats 2000000 in
theorem rvals_any {vl : Value} {l : List Bx} (w : World) (hv : IsBoxes w vl l) (hl : l.length ≤ 1000000000000) :
    Calls Tryd.prog 71 #[vl] w (RetBoxes w (valF l)) := by
  have hO := own_arg hv
  obtain ⟨a, c, rfl, ha⟩ := hv.view
  clear hv
  go_enter Tryd.func71, Tryd.ntmps71
  go_wp2_with (first | ((with_reducible refine is_load ?_); refine own_ld (h := ?_)) | ((with_reducible refine is_store ?_); (first | refine own_stR (hO := hO) (h := ?_) | refine own_st1 (hO := hO) (h := ?_)); clear hO; intro wv hO) | ((with_reducible refine is_build ?_); (first | (refine' own_build1 (o := ⟨some 21, _, _, _, _, _⟩) hO (by rfl) rfl rfl ?hu ?hf ?_; (case hu => (first | exact Tryd.underlying29 | exact und_Set | exact und_Groups | exact und_Ranges)); (case hf => kernel_rfl); clear hO; intro n21 wv hO))) | ((with_reducible refine is_append ?_); (first | (refine own_ap (o := ⟨some 22, _, _, _, _, _⟩) (hO := hO) (h := ?_); clear hO; intro g22 c22 wv hO))))
  replace hO := hO.nilRow 66 10
  go_loopw [3, 4] (fun r i wr => ∃ k : Nat, k ≤ l.length ∧ i = .int .i64 k ∧ Own [] w [] [⟨r, (valF (l.take k)).length, cellsB (valF (l.take k)), 66, 10⟩] (roS (.slice a l.length c) (cellsB l)) wr) (fun _ i _ => l.length - (intOf i).toNat)
  case atStart => exact ⟨0, by omega, rfl, hO⟩
  case round =>
    clear hO
    obtain ⟨k, hk, rfl, hO⟩ := hrel
    by_cases hlt : k < l.length
    · obtain ⟨g, o, rfl⟩ := ha (by omega)
      simp only [roS] at hO
      have hT : valF (l.take (k + 1)) = valF (l.take k) ++ if vld l[k] then [l[k]] else [] := filter_take (p := vld) hlt
      have hle : (valF (l.take k)).length ≤ k := filter_take_le _ _ _
      have hvv := fun w => rvalid_any l[k] w
      have t1 := tk_box l hlt
      generalize valF (l.take k) = m at *
      cases hb : vld l[k]
      · rw [hb] at hvv
        have HT := Lib.hid (show valF (l.take (k + 1)) = m by rw [hT, hb]; simp)
        clear hT hb
        go_wp2_with (first | ((with_reducible refine is_load ?_); refine own_ld (h := ?_)) | ((with_reducible refine is_store ?_); (first | refine own_stR (hO := hO) (h := ?_) | refine own_st1 (hO := hO) (h := ?_)); clear hO; intro wv hO) | ((with_reducible refine is_build ?_); (first | (refine' own_build1 (o := ⟨some 21, _, _, _, _, _⟩) hO (by rfl) rfl rfl ?hu ?hf ?_; (case hu => (first | exact Tryd.underlying29 | exact und_Set | exact und_Groups | exact und_Ranges)); (case hf => kernel_rfl); clear hO; intro n21 wv hO))) | ((with_reducible refine is_append ?_); (first | (refine own_ap (o := ⟨some 22, _, _, _, _, _⟩) (hO := hO) (h := ?_); clear hO; intro g22 c22 wv hO))) | (go_at_call 40; refine (hvv _).mono ?_; rintro e wv ⟨rfl, hb⟩; replace hO := hO.call hb; clear hb))
        go_roundw
        case rel =>
          refine ⟨k + 1, by omega, by go_num, ?_⟩
          rw [HT.out]
          exact hO.sub (.refl _) (.refl _) (fun _ h => h)
        case measure => simp [intOf]; omega
      · rw [hb] at hvv
        have HT := Lib.hid (show valF (l.take (k + 1)) = m ++ [l[k]] by rw [hT, hb]; simp)
        clear hT hb
        go_wp2_with (first | ((with_reducible refine is_load ?_); refine own_ld (h := ?_)) | ((with_reducible refine is_store ?_); (first | refine own_stR (hO := hO) (h := ?_) | refine own_st1 (hO := hO) (h := ?_)); clear hO; intro wv hO) | ((with_reducible refine is_build ?_); (first | (refine' own_build1 (o := ⟨some 21, _, _, _, _, _⟩) hO (by rfl) rfl rfl ?hu ?hf ?_; (case hu => (first | exact Tryd.underlying29 | exact und_Set | exact und_Groups | exact und_Ranges)); (case hf => kernel_rfl); clear hO; intro n21 wv hO))) | ((with_reducible refine is_append ?_); (first | (refine own_ap (o := ⟨some 22, _, _, _, _, _⟩) (hO := hO) (h := ?_); clear hO; intro g22 c22 wv hO))) | (go_at_call 40; refine (hvv _).mono ?_; rintro e wv ⟨rfl, hb⟩; replace hO := hO.call hb; clear hb))
        go_roundw
        case rel =>
          refine ⟨k + 1, by omega, by go_num, ?_⟩
          rw [HT.out, List.length_append, cellsB_append, cellsB_one]
          exact hO.sub (.cons _ (.refl _)) (.refl _) (fun _ h => h)
        case measure => simp [intOf]; omega
    · obtain rfl : k = l.length := by omega
      rw [List.take_length] at hO
      go_wp2_with (first | ((with_reducible refine is_load ?_); refine own_ld (h := ?_)) | ((with_reducible refine is_store ?_); (first | refine own_stR (hO := hO) (h := ?_) | refine own_st1 (hO := hO) (h := ?_)); clear hO; intro wv hO) | ((with_reducible refine is_build ?_); (first | (refine' own_build1 (o := ⟨some 21, _, _, _, _, _⟩) hO (by rfl) rfl rfl ?hu ?hf ?_; (case hu => (first | exact Tryd.underlying29 | exact und_Set | exact und_Groups | exact und_Ranges)); (case hf => kernel_rfl); clear hO; intro n21 wv hO))) | ((with_reducible refine is_append ?_); (first | (refine own_ap (o := ⟨some 22, _, _, _, _, _⟩) (hO := hO) (h := ?_); clear hO; intro g22 c22 wv hO))))
      go_ret
      exact ⟨_, rfl, ⟨own_boxes hO List.mem_cons_self, own_new hO List.mem_cons_self⟩, hO.keep.below⟩
/-- a canonical form of few boxes is small -/
theorem canon_small {op : Bool → Bool → Bool} {N M : Nat} {a b : List Bx} (ha : Ends N a) (hb : Ends M b) (h : N + M ≤ 140) : (canonF op 0 5 a b).length ≤ 100000000000 :=
  Nat.le_trans (canon_len ha hb (f := 0) rfl) (Nat.le_trans (Nat.pow_le_pow_left (show N + M + 2 ≤ 142 by omega) 5) (by decide))
set_option maxHeartbeats 2000000 in
theorem rcanon_any {vl : Value} {l : List Bx} (w : World) (hv : IsBoxes w vl l) (kl : okL l) (hl : l.length ≤ 60) :
    Calls Tryd.prog 50 #[vl] w (RetBoxes w (canonF orB 0 5 (valF l) [])) := by
  have hO := own_start [] w
  have h0 := fun w hv => rvals_any (vl := vl) (l := l) w hv (by omega)
  have nV := valF_le l
  have h1 : ∀ (v : Value) (w : World), IsBoxes w v (valF l) → Calls Tryd.prog 70 #[v, .slice none 0 0, .int .i64 0, .int .i64 0] w (RetBoxes w (canonF orB 0 5 (valF l) [])) := fun v w hv => rrests_any opr_or 5 0 rfl v (.slice none 0 0) (valF l) [] w hv (.inl ⟨rfl, rfl⟩) (valF_vL kl) (fun b hb => by cases hb) (by omega) (by simp) (canon_small (ends_len _) (ends_len []) (by simp; omega))
  generalize canonF orB 0 5 (valF l) [] = D at *
  go_enter Tryd.func50, Tryd.ntmps50
  go_wp2_with (first | ((with_reducible refine is_load ?_); refine own_ld (h := ?_)) | ((with_reducible refine is_store ?_); (first | refine own_stR (hO := hO) (h := ?_) | refine own_st1 (hO := hO) (h := ?_)); clear hO; intro wv hO) | (go_at_call 71; (with_reducible refine (h0 _ (hv.keep0 hO)).mono ?_); rintro e wv ⟨v9, rfl, ⟨hv9, hn9⟩, hb9⟩; have hof := hv9.form; replace hO := hO.gainB hb9 hv9 hn9; clear hb9 hv9 hn9) | (go_at_call 70; (with_reducible refine (h1 v9 _ (hO.isB hof (fun q hq => List.mem_append_left _ hq))).mono ?_); rintro e wv ⟨v3, rfl, ⟨hv9, hn9⟩, hb9⟩; have hs9 := hO.keep.size; have hof3 := hv9.form; replace hO := hO.gainB hb9 hv9 hn9; clear hb9 hv9))
  go_ret
  exact ⟨v3, rfl, ⟨hO.isB hof3 (fun q hq => List.mem_append_left _ hq), fun g hg => Nat.le_trans hs9 (hn9 g hg)⟩, hO.keep.below⟩
theorem IsBoxes.one {w : World} {g o c k : Nat} {l : List Bx} (h : IsBoxes w (.slice (some ⟨g, o, none⟩) l.length c) l) (hk : k < l.length) (c' : Nat) (hc : 1 ≤ c') : IsBoxes w (.slice (some ⟨g, o + k * 10, none⟩) 1 c') [l[k]] := by
  have := h.part k 1 c' (by omega) hc
  rwa [List.drop_eq_getElem_cons hk, List.take_succ_cons, List.take_zero] at this
theorem IsBoxes.cap {w : World} {a : Option Addr} {c : Nat} {l : List Bx} (h : IsBoxes w (.slice a l.length c) l) : l.length ≤ c := by
  rcases h with ⟨_, rfl⟩ | ⟨g, o, c', h1, h2, _⟩
  · exact Nat.zero_le _
  · cases h1; exact h2
end Go.Proofs.YtdfihajngmgigaaDoor

/- The tape: Set. -/
namespace Go.Proofs.YtdfihajngmgigaaDoor
open Go.RowKit
set_option maxRecDepth 100000
end Go.Proofs.YtdfihajngmgigaaDoor
