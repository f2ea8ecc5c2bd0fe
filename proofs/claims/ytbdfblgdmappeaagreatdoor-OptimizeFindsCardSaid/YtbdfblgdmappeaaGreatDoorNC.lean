/- The reference of packet sets: valid, Canon, limited, Make. -/
import Derived.Test.YtbdfblgdmappeaaGreatDoorNB
import Derived.Test.YtbdfblgdmappeaaGreatDoorMP
import Derived.Test.YtbdfblgdmappeaaGreatDoorMS
import Derived.Test.YtbdfblgdmappeaaGreatDoorMB
import Derived.Test.YtbdfblgdmappeaaGreatDoorMV
namespace Go.Proofs.YtbdfblgdmappeaaGreatDoor
open Go.RowKit
set_option maxRecDepth 100000
set_option maxHeartbeats 2000000 in
theorem rvals_any {vl : Value} {l : List Bx} (w : World) (hv : IsBoxes w vl l) (hl : l.length ≤ 1000000000000) :
  Calls Tryz.prog 142 #[vl] w (RetBoxes w (valF l)) := by
 have hO := own_arg hv
 obtain ⟨a, c, rfl, ha⟩ := hv.view
 clear hv
 go_enter Tryz.func142, Tryz.ntmps142
 go_wp2_with fail
 replace hO := hO.nilRow 98 10
 go_loopw [3, 4] (fun r i wr => ∃ k : Nat, k ≤ l.length ∧ i = .int .i64 k ∧ Own [] w [] [⟨r, (valF (l.take k)).length, cellsB (valF (l.take k)), 98, 10⟩] (roS (.slice a l.length c) (cellsB l)) wr) (fun _ i _ => l.length - (intOf i).toNat)
 case atStart => exact ⟨0, by omega, rfl, hO⟩
 case round =>
  clear hO
  obtain ⟨k, hk, rfl, hO⟩ := hrel
  by_cases hlt : k < l.length
  ·obtain ⟨g, o, rfl⟩ := ha (by omega)
   simp only [roS] at hO
   have hT : valF (l.take (k + 1)) = valF (l.take k) ++ if vld l[k] then [l[k]] else [] := filter_take (p := vld) hlt
   have hle : (valF (l.take k)).length ≤ k := filter_take_le _ _ _
   have hvv := fun w => rvalid_any l[k] w
   have t1 := tk_box l hlt
   generalize valF (l.take k) = m at *
   cases hb : vld l[k]
   ·rw [hb] at hvv
    have HT := Lib.hid (show valF (l.take (k + 1)) = m by rw [hT, hb]; simp)
    clear hT hb
    go_wp2_with (first | refine ldN ?_ | (go_at_call 105; refine (hvv _).mono ?_; rintro e wv ⟨rfl, hb⟩; replace hO := hO.call hb; clear hb))
    go_roundw
    case rel =>
     refine ⟨k + 1, by omega, by go_num, ?_⟩
     rw [HT.out]
     exact hO.sub (.refl _) (.refl _) (fun _ h => h)
    case measure => simp [intOf]; omega
   ·rw [hb] at hvv
    have HT := Lib.hid (show valF (l.take (k + 1)) = m ++ [l[k]] by rw [hT, hb]; simp)
    clear hT hb
    go_wp2_with (first | refine ldN ?_ | (refine bl9 21 hO ?_; clear hO; intro n21 wv hO) | (refine ap9 22 hO ?_; clear hO; intro g22 c22 wv hO) | (go_at_call 105; refine (hvv _).mono ?_; rintro e wv ⟨rfl, hb⟩; replace hO := hO.call hb; clear hb))
    go_roundw
    case rel =>
     refine ⟨k + 1, by omega, by go_num, ?_⟩
     rw [HT.out, List.length_append, cellsB_append, cellsB_one]
     exact hO.sub (.cons _ (.refl _)) (.refl _) (fun _ h => h)
    case measure => simp [intOf]; omega
  ·obtain rfl : k = l.length := by omega
   rw [List.take_length] at hO
   go_wp2_with fail
   go_ret
   exact ⟨_, rfl, ⟨own_boxes hO List.mem_cons_self, own_new hO List.mem_cons_self⟩, hO.keep.below⟩
theorem canon_small {op : Bool → Bool → Bool} {N M : Nat} {a b : List Bx} (ha : Ends N a) (hb : Ends M b) (h : N + M ≤ 140) : (canonF op 0 5 a b).length ≤ 100000000000 :=
 Nat.le_trans (canon_len ha hb (f := 0) rfl) (Nat.le_trans (Nat.pow_le_pow_left (show N + M + 2 ≤ 142 by omega) 5) (by decide))
theorem limited_yes {vl : Value} {l : List Bx} (w : World) (hv : FormB vl l) (hl : l.length ≤ 4096) : Calls Tryz.prog 134 #[vl] w fun e w' => e = .returned (.tuple #[vl, .int .i64 0]) ∧ w = w' := by
 obtain ⟨a, c, rfl, -⟩ := hv.view
 have g1 : decide (4096 < l.length) = false := decide_eq_false (by omega)
 go_enter Tryz.func134, Tryz.ntmps134
 go_wp2_with fail
 go_ret2
 exact ⟨rfl, rfl⟩
theorem limited_no {vl : Value} {l : List Bx} (w : World) (hv : FormB vl l) (hl : ¬ l.length ≤ 4096) : Calls Tryz.prog 134 #[vl] w fun e w' => e = .returned (.tuple #[.slice none 0 0, .int .i64 3]) ∧ w = w' := by
 obtain ⟨a, c, rfl, -⟩ := hv.view
 have g1 : decide (4096 < l.length) = true := decide_eq_true (by omega)
 go_enter Tryz.func134, Tryz.ntmps134
 go_wp2_with fail
 go_ret2
 exact ⟨rfl, rfl⟩
theorem IsBoxes.one {w : World} {g o c k : Nat} {l : List Bx} (h : IsBoxes w (.slice (some ⟨g, o, none⟩) l.length c) l) (hk : k < l.length) (c' : Nat) (hc : 1 ≤ c') : IsBoxes w (.slice (some ⟨g, o + k * 10, none⟩) 1 c') [l[k]] := by
 have := h.part k 1 c' (by omega) hc
 rwa [List.drop_eq_getElem_cons hk, List.take_succ_cons, List.take_zero] at this
theorem IsBoxes.cap {w : World} {a : Option Addr} {c : Nat} {l : List Bx} (h : IsBoxes w (.slice a l.length c) l) : l.length ≤ c := by
 rcases h with ⟨_, rfl⟩ | ⟨g, o, c', h1, h2, _⟩
 ·exact Nat.zero_le _
 ·cases h1; exact h2
set_option maxHeartbeats 8000000 in
theorem rmake_any {vl : Value} {l : List Bx} (w : World) (hv : IsBoxes w vl l) (kl : okL l) (hl : l.length ≤ 60) :
  Calls Tryz.prog 73 #[vl] w (SetPost w (makeF l)) := by
 have hO := own_arg hv
 obtain ⟨a, c, rfl, ha⟩ := hv.view
 have hcap : l.length ≤ c := hv.cap
 have HFl := Lib.hid hv.form
 clear hv
 unfold makeF
 go_enter Tryz.func73, Tryz.ntmps73
 go_wp2_with fail
 go_loopw [4, 5] (fun q4 q5 wr => ∃ (k : Nat) (s : List Bx), k ≤ l.length ∧ q5 = .int .i64 k ∧ Hid (makeGo [] (valF l) = makeGo s (valF (l.drop k))) ∧ Hid (vL s) ∧ Hid (Ends (2 * k) s) ∧ s.length ≤ 4096 ∧ Hid (FormB q4 s) ∧ Hid (NewFrom w q4) ∧ Own [] w [] [] (roS q4 (cellsB s) ++ roS (.slice a l.length c) (cellsB l)) wr) (fun _ q5 _ => l.length - (intOf q5).toNat)
 case atStart => exact ⟨0, [], by omega, rfl, Lib.hid (by rw [List.drop_zero]), Lib.hid (fun b hb => by cases hb), Lib.hid (ends_len []), by simp, Lib.hid (.inl ⟨rfl, rfl⟩), Lib.hid (fun g hg => by cases hg), hO.sub (.refl _) (.refl _) (fun q hq => by simpa [roS] using hq)⟩
 case round =>
  clear hO
  obtain ⟨k, s, hk, rfl, HE, HV, HN2, hs, HFm, HN, hO⟩ := hrel
  by_cases hlt : k < l.length
  ·obtain ⟨g, o, rfl⟩ := ha (by omega)
   have hO2 := hO.sub (S' := ⟨g, o, cellsB l⟩ :: roS u4 (cellsB s)) (.refl _) (.refl _) (fun q hq => (List.mem_cons.1 hq).elim (fun h => List.mem_append_right _ (by rw [h]; exact List.mem_cons_self)) (fun h => List.mem_append_left _ h))
   replace hO := hO2
   clear hO2
   have HOne := Lib.hid (fun (w : World) (c' : Nat) (hc : 1 ≤ c') (h : IsBoxes w (.slice (some ⟨g, o, none⟩) l.length c) l) => h.one hlt c' hc)
   have hdr : l.drop k = l[k] :: l.drop (k + 1) := List.drop_eq_getElem_cons hlt
   have t1 := tk_box l hlt
   have hvv := fun w => rvalid_any l[k] w
   have hok := kl l[k] (List.getElem_mem hlt)
   generalize l[k] = b at *
   cases hb : vld b
   ·rw [hb] at hvv
    have HE2 := Lib.hid (show makeGo [] (valF l) = makeGo s (valF (l.drop (k + 1))) by rw [HE.out, hdr]; unfold valF; rw [List.filter_cons, hb]; rfl)
    have HN3 := Lib.hid (HN2.out.mono (show 2 * k ≤ 2 * (k + 1) by omega))
    clear hdr hb HE HN2
    go_wp2_with (first | refine ldN ?_ | (go_at_call 105; refine (hvv _).mono ?_; rintro e wv ⟨rfl, hb⟩; replace hO := hO.call hb; clear hb))
    go_roundw
    case rel => exact ⟨k + 1, s, by omega, by go_num, HE2, HV, HN3, hs, HFm, HN, hO.sub (.refl _) (.refl _) (fun q hq => (List.mem_append.1 hq).elim (fun h => List.mem_cons_of_mem _ h) (fun h => by obtain rfl := List.mem_singleton.1 h; exact List.mem_cons_self))⟩
    case measure => simp [intOf]; omega
   ·rw [hb] at hvv
    have hE2 : makeGo [] (valF l) = makeGo s (b :: valF (l.drop (k + 1))) := by
     rw [HE.out, hdr]; unfold valF; rw [List.filter_cons, hb]; rfl
    have hvb := vL_one (vB_of hok hb)
    have hcv := (canonF_cn orB 5 0 rfl HV.out hvb).valid rfl
    have hen : Ends (2 * (k + 1)) (canonF orB 0 5 s [b]) := (ends_canon HN2.out (ends_len [b])).mono (by simp; omega)
    have h1 : ∀ (v2 : Value) (w : World), IsBoxes w u4 s → IsBoxes w v2 [b] → Calls Tryz.prog 135 #[u4, v2, .int .i64 0, .int .i64 0] w (RetBoxes w (canonF orB 0 5 s [b])) := fun v2 w h1 h2 => rrests_any opr_or 5 0 rfl u4 v2 s [b] w h1 h2 HV.out hvb (by omega) (by simp) (canon_small HN2.out (ends_len [b]) (by simp; omega))
    rw [makeGo] at hE2
    generalize canonF orB 0 5 s [b] = D at *
    have s3 : IntKind.i64.wrap ((k : Int) + 1) = (k : Int) + 1 := IntWalk.i64_in _ (by omega)
    have HC := Lib.hid hcv
    have HN3 := Lib.hid hen
    clear hdr hb HE HN2 hcv hen hvb
    by_cases hD : D.length ≤ 4096
    ·have hlim : limF D = some D := if_pos hD
     rw [hlim] at hE2
     have HE2 := Lib.hid hE2
     clear hlim hE2
     go_wp2_with (first | refine ldN ?_ | (go_at_call 105; refine (hvv _).mono ?_; rintro e wv ⟨rfl, hb⟩; replace hO := hO.call hb; clear hb) | (go_at_call 135; (with_reducible refine (h1 _ _ (hO.isB HFm.out (fun q hq => List.mem_cons_of_mem _ hq)) (HOne.out _ _ (by omega) (hO.isB HFl.out (fun q hq => by obtain rfl := List.mem_singleton.1 hq; exact List.mem_cons_self)))).mono ?_); rintro e wv ⟨v3, rfl, ⟨hv9, hn9⟩, hb9⟩; have hf3 := hv9.form; have hs9 := hO.keep.size; replace hO := hO.gainB hb9 hv9 hn9; clear hb9 hv9) | (go_at_call 134; refine (limited_yes _ hf3 hD).mono ?_; rintro e _ ⟨rfl, rfl⟩))
     go_roundw
     case rel => exact ⟨k + 1, D, by omega, by go_num, HE2, HC, HN3, hD, Lib.hid hf3, Lib.hid (fun g hg => Nat.le_trans hs9 (hn9 g hg)), hO.sub (.refl _) (.refl _) (fun q hq => (List.mem_append.1 hq).elim (fun h => List.mem_append_left _ h) (fun h => List.mem_append_right _ (by obtain rfl := List.mem_singleton.1 h; exact List.mem_cons_self)))⟩
     case measure => simp [intOf]; omega
    ·have hlim : limF D = none := if_neg hD
     rw [hlim] at hE2
     have HE2 := Lib.hid hE2
     clear hlim hE2
     go_wp2_with (first | refine ldN ?_ | (go_at_call 105; refine (hvv _).mono ?_; rintro e wv ⟨rfl, hb⟩; replace hO := hO.call hb; clear hb) | (go_at_call 135; (with_reducible refine (h1 _ _ (hO.isB HFm.out (fun q hq => List.mem_cons_of_mem _ hq)) (HOne.out _ _ (by omega) (hO.isB HFl.out (fun q hq => by obtain rfl := List.mem_singleton.1 hq; exact List.mem_cons_self)))).mono ?_); rintro e wv ⟨v3, rfl, ⟨hv9, hn9⟩, hb9⟩; have hf3 := hv9.form; replace hO := hO.gainB hb9 hv9 hn9; clear hb9 hv9) | (go_at_call 134; refine (limited_no _ hf3 hD).mono ?_; rintro e _ ⟨rfl, rfl⟩))
     go_ret2
     exact ⟨.slice none 0 0, hO.keep.below, .inr ⟨HE2.out, rfl⟩⟩
  ·obtain rfl : k = l.length := by omega
   have HE2 := Lib.hid (show makeGo [] (valF l) = some s by rw [HE.out, List.drop_length]; rfl)
   clear HE
   go_wp2_with fail
   go_ret2
   exact ⟨_, hO.keep.below, .inl ⟨s, HE2.out, rfl, hO.isB HFm.out (fun q hq => List.mem_append_left _ hq), HN.out⟩⟩
theorem canon_small10 {op : Bool → Bool → Bool} {N M : Nat} {a b : List Bx} (ha : Ends N a) (hb : Ends M b) (h : N + M ≤ 90) : (canonF op 0 5 a b).length ≤ 10000000000 :=
 Nat.le_trans (canon_len ha hb (f := 0) rfl) (Nat.le_trans (Nat.pow_le_pow_left (show N + M + 2 ≤ 92 by omega) 5) (by decide))
end Go.Proofs.YtbdfblgdmappeaaGreatDoor
