/- The reference of packet sets: valid, Canon, limited, Make. -/
import Derived.Test.YtjoionnnpjajmaaDoorNB
import Derived.Test.YtjoionnnpjajmaaDoorMP
import Derived.Test.YtjoionnnpjajmaaDoorMS
import Derived.Test.YtjoionnnpjajmaaDoorMB
namespace Go.Proofs.YtjoionnnpjajmaaDoor
open Go.RowKit
set_option maxRecDepth 100000
set_option maxHeartbeats 2000000 in
theorem rvals_any {vl : Value} {l : List Bx} (w : World) (hv : IsBoxes w vl l) (hl : l.length ≤ 1000000000000) :
  Calls Tryd.prog 36 #[vl] w (RetBoxes w (valF l)) := by
 have hO := own_arg hv
 obtain ⟨a, c, rfl, ha⟩ := hv.view
 clear hv
 go_enter Tryd.func36, Tryd.ntmps36
 go_wp2_with (first | refine ldN ?_ | ((first | refine stN hO ?_ | refine st1N hO ?_); clear hO; intro wv hO) | (refine bl9 21 hO ?_; clear hO; intro n21 wv hO) | (refine ap9 22 hO ?_; clear hO; intro g22 c22 wv hO))
 replace hO := hO.nilRow 40 10
 go_loopw [3, 4] (fun r i wr => ∃ k : Nat, k ≤ l.length ∧ i = .int .i64 k ∧ Own [] w [] [⟨r, (valF (l.take k)).length, cellsB (valF (l.take k)), 40, 10⟩] (roS (.slice a l.length c) (cellsB l)) wr) (fun _ i _ => l.length - (intOf i).toNat)
 case atStart => exact ⟨0, by omega, rfl, hO⟩
 case round =>
  clear hO
  obtain ⟨k, hk, rfl, hO⟩ := hrel
  by_cases hlt : k < l.length
  ·obtain ⟨g, o, rfl⟩ := ha (by omega)
   simp only [roS] at hO
   have hT : valF (l.take (k + 1)) = valF (l.take k) ++ if vld l[k] then [l[k]] else [] := filter_take (p := vld) hlt
   have hle : (valF (l.take k)).length ≤ k := filter_take_le _ _ _
   have hvv := fun w => rvalid_any l[k] w
   have t1 := tk_box l hlt
   generalize valF (l.take k) = m at *
   cases hb : vld l[k]
   ·rw [hb] at hvv
    have HT := Lib.hid (show valF (l.take (k + 1)) = m by rw [hT, hb]; simp)
    clear hT hb
    go_wp2_with (first | refine ldN ?_ | ((first | refine stN hO ?_ | refine st1N hO ?_); clear hO; intro wv hO) | (refine bl9 21 hO ?_; clear hO; intro n21 wv hO) | (refine ap9 22 hO ?_; clear hO; intro g22 c22 wv hO) | (go_at_call 47; refine (hvv _).mono ?_; rintro e wv ⟨rfl, hb⟩; replace hO := hO.call hb; clear hb))
    go_roundw
    case rel =>
     refine ⟨k + 1, by omega, by go_num, ?_⟩
     rw [HT.out]
     exact hO.sub (.refl _) (.refl _) (fun _ h => h)
    case measure => simp [intOf]; omega
   ·rw [hb] at hvv
    have HT := Lib.hid (show valF (l.take (k + 1)) = m ++ [l[k]] by rw [hT, hb]; simp)
    clear hT hb
    go_wp2_with (first | refine ldN ?_ | ((first | refine stN hO ?_ | refine st1N hO ?_); clear hO; intro wv hO) | (refine bl9 21 hO ?_; clear hO; intro n21 wv hO) | (refine ap9 22 hO ?_; clear hO; intro g22 c22 wv hO) | (go_at_call 47; refine (hvv _).mono ?_; rintro e wv ⟨rfl, hb⟩; replace hO := hO.call hb; clear hb))
    go_roundw
    case rel =>
     refine ⟨k + 1, by omega, by go_num, ?_⟩
     rw [HT.out, List.length_append, cellsB_append, cellsB_one]
     exact hO.sub (.cons _ (.refl _)) (.refl _) (fun _ h => h)
    case measure => simp [intOf]; omega
  ·obtain rfl : k = l.length := by omega
   rw [List.take_length] at hO
   go_wp2_with (first | refine ldN ?_ | ((first | refine stN hO ?_ | refine st1N hO ?_); clear hO; intro wv hO) | (refine bl9 21 hO ?_; clear hO; intro n21 wv hO) | (refine ap9 22 hO ?_; clear hO; intro g22 c22 wv hO))
   go_ret
   exact ⟨_, rfl, ⟨own_boxes hO List.mem_cons_self, own_new hO List.mem_cons_self⟩, hO.keep.below⟩
theorem IsBoxes.one {w : World} {g o c k : Nat} {l : List Bx} (h : IsBoxes w (.slice (some ⟨g, o, none⟩) l.length c) l) (hk : k < l.length) (c' : Nat) (hc : 1 ≤ c') : IsBoxes w (.slice (some ⟨g, o + k * 10, none⟩) 1 c') [l[k]] := by
 have := h.part k 1 c' (by omega) hc
 rwa [List.drop_eq_getElem_cons hk, List.take_succ_cons, List.take_zero] at this
theorem IsBoxes.cap {w : World} {a : Option Addr} {c : Nat} {l : List Bx} (h : IsBoxes w (.slice a l.length c) l) : l.length ≤ c := by
 rcases h with ⟨_, rfl⟩ | ⟨g, o, c', h1, h2, _⟩
 ·exact Nat.zero_le _
 ·cases h1; exact h2
end Go.Proofs.YtjoionnnpjajmaaDoor
