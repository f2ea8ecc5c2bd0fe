/- The reference of packet sets: valid, Canon, limited, Make. -/
import Derived.Test.YtbdfblgdmappeaaGreatDoorNB
import Derived.Test.YtbdfblgdmappeaaGreatDoorMP
import Derived.Test.YtbdfblgdmappeaaGreatDoorMS
import Derived.Test.YtbdfblgdmappeaaGreatDoorMB
import Derived.Test.YtbdfblgdmappeaaGreatDoorMV
namespace Go.Proofs.YtbdfblgdmappeaaGreatDoor
open Go.RowKit
set_option maxRecDepth 100000
set_option maxHeartbeats 2000000 in
theorem rvals_any {vl : Value} {l : List Bx} (w : World) (hv : IsBoxes w vl l) (hl : l.length ≤ 1000000000000) :
  Calls Tryz.prog 142 #[vl] w (RetBoxes w (valF l)) := by
 have hO := own_arg hv
 obtain ⟨a, c, rfl, ha⟩ := hv.view
 clear hv
 go_enter Tryz.func142, Tryz.ntmps142
 go_wp2_with fail
 replace hO := hO.nilRow 98 10
 go_loopw [3, 4] (fun r i wr => ∃ k : Nat, k ≤ l.length ∧ i = .int .i64 k ∧ Own [] w [] [⟨r, (valF (l.take k)).length, cellsB (valF (l.take k)), 98, 10⟩] (roS (.slice a l.length c) (cellsB l)) wr) (fun _ i _ => l.length - (intOf i).toNat)
 case atStart => exact ⟨0, by omega, rfl, hO⟩
 case round =>
  clear hO
  obtain ⟨k, hk, rfl, hO⟩ := hrel
  by_cases hlt : k < l.length
  ·obtain ⟨g, o, rfl⟩ := ha (by omega)
   simp only [roS] at hO
   have hT : valF (l.take (k + 1)) = valF (l.take k) ++ if vld l[k] then [l[k]] else [] := filter_take (p := vld) hlt
   have hle : (valF (l.take k)).length ≤ k := filter_take_le _ _ _
   have hvv := fun w => rvalid_any l[k] w
   have t1 := tk_box l hlt
   generalize valF (l.take k) = m at *
   cases hb : vld l[k]
   ·rw [hb] at hvv
    have HT := Lib.hid (show valF (l.take (k + 1)) = m by rw [hT, hb]; simp)
    clear hT hb
    go_wp2_with (first | refine ldN ?_ | (go_at_call 105; refine (hvv _).mono ?_; rintro e wv ⟨rfl, hb⟩; replace hO := hO.call hb; clear hb))
    go_roundw
    case rel =>
     refine ⟨k + 1, by omega, by go_num, ?_⟩
     rw [HT.out]
     exact hO.sub (.refl _) (.refl _) (fun _ h => h)
    case measure => simp [intOf]; omega
   ·rw [hb] at hvv
    have HT := Lib.hid (show valF (l.take (k + 1)) = m ++ [l[k]] by rw [hT, hb]; simp)
    clear hT hb
    go_wp2_with (first | refine ldN ?_ | (refine bl9 21 hO ?_; clear hO; intro n21 wv hO) | (refine ap9 22 hO ?_; clear hO; intro g22 c22 wv hO) | (go_at_call 105; refine (hvv _).mono ?_; rintro e wv ⟨rfl, hb⟩; replace hO := hO.call hb; clear hb))
    go_roundw
    case rel =>
     refine ⟨k + 1, by omega, by go_num, ?_⟩
     rw [HT.out, List.length_append, cellsB_append, cellsB_one]
     exact hO.sub (.cons _ (.refl _)) (.refl _) (fun _ h => h)
    case measure => simp [intOf]; omega
  ·obtain rfl : k = l.length := by omega
   rw [List.take_length] at hO
   go_wp2_with fail
   go_ret
   exact ⟨_, rfl, ⟨own_boxes hO List.mem_cons_self, own_new hO List.mem_cons_self⟩, hO.keep.below⟩
theorem canon_small {op : Bool → Bool → Bool} {N M : Nat} {a b : List Bx} (ha : Ends N a) (hb : Ends M b) (h : N + M ≤ 140) : (canonF op 0 5 a b).length ≤ 100000000000 :=
 Nat.le_trans (canon_len ha hb (f := 0) rfl) (Nat.le_trans (Nat.pow_le_pow_left (show N + M + 2 ≤ 142 by omega) 5) (by decide))
theorem limited_yes {vl : Value} {l : List Bx} (w : World) (hv : FormB vl l) (hl : l.length ≤ 4096) : Calls Tryz.prog 134 #[vl] w fun e w' => e = .returned (.tuple #[vl, .int .i64 0]) ∧ w = w' := by
 obtain ⟨a, c, rfl, -⟩ := hv.view
 have g1 : decide (4096 < l.length) = false := decide_eq_false (by omega)
 go_enter Tryz.func134, Tryz.ntmps134
 go_wp2_with fail
 go_ret2
 exact ⟨rfl, rfl⟩
theorem limited_no {vl : Value} {l : List Bx} (w : World) (hv : FormB vl l) (hl : ¬ l.length ≤ 4096) : Calls Tryz.prog 134 #[vl] w fun e w' => e = .returned (.tuple #[.slice none 0 0, .int .i64 3]) ∧ w = w' := by
 obtain ⟨a, c, rfl, -⟩ := hv.view
 have g1 : decide (4096 < l.length) = true := decide_eq_true (by omega)
 go_enter Tryz.func134, Tryz.ntmps134
 go_wp2_with fail
 go_ret2
 exact ⟨rfl, rfl⟩
theorem IsBoxes.one {w : World} {g o c k : Nat} {l : List Bx} (h : IsBoxes w (.slice (some ⟨g, o, none⟩) l.length c) l) (hk : k < l.length) (c' : Nat) (hc : 1 ≤ c') : IsBoxes w (.slice (some ⟨g, o + k * 10, none⟩) 1 c') [l[k]] := by
 have := h.part k 1 c' (by omega) hc
 rwa [List.drop_eq_getElem_cons hk, List.take_succ_cons, List.take_zero] at this
theorem IsBoxes.cap {w : World} {a : Option Addr} {c : Nat} {l : List Bx} (h : IsBoxes w (.slice a l.length c) l) : l.length ≤ c := by
 rcases h with ⟨_, rfl⟩ | ⟨g, o, c', h1, h2, _⟩
 ·exact Nat.zero_le _
 ·cases h1; exact h2
set_option maxHeartbeats 8000000 in
theorem rmake_any {vl : Value} {l : List Bx} (w : World) (hv : IsBoxes w vl l) (kl : okL l) (hl : l.length ≤ 60) :
  Calls Tryz.prog 73 #[vl] w (SetPost w (makeF l)) := by
 have hO := own_arg hv
 obtain ⟨a, c, rfl, ha⟩ := hv.view
 have hcap : l.length ≤ c := hv.cap
 have HFl := Lib.hid hv.form
 clear hv
 unfold makeF
 go_enter Tryz.func73, Tryz.ntmps73
 go_wp2_with fail
 go_loopw [4, 5] (fun q4 q5 wr => ∃ (k : Nat) (s : List Bx), k ≤ l.length ∧ q5 = .int .i64 k ∧ Hid (makeGo [] (valF l) = makeGo s (valF (l.drop k))) ∧ Hid (vL s) ∧ Hid (Ends (2 * k) s) ∧ s.length ≤ 4096 ∧ Hid (FormB q4 s) ∧ Hid (NewFrom w q4) ∧ Own [] w [] [] (roS q4 (cellsB s) ++ roS (.slice a l.length c) (cellsB l)) wr) (fun _ q5 _ => l.length - (intOf q5).toNat)
 case atStart => exact ⟨0, [], by omega, rfl, Lib.hid (by rw [List.drop_zero]), Lib.hid (fun b hb => by cases hb), Lib.hid (ends_len []), by simp, Lib.hid (.inl ⟨rfl, rfl⟩), Lib.hid (fun g hg => by cases hg), hO.sub (.refl _) (.refl _) (fun q hq => by simpa [roS] using hq)⟩
 case round =>
  clear hO
  obtain ⟨k, s, hk, rfl, HE, HV, HN2, hs, HFm, HN, hO⟩ := hrel
  by_cases hlt : k < l.length
  ·obtain ⟨g, o, rfl⟩ := ha (by omega)
   have hO2 := hO.sub (S' := ⟨g, o, cellsB l⟩ :: roS u4 (cellsB s)) (.refl _) (.refl _) (fun q hq => (List.mem_cons.1 hq).elim (fun h => List.mem_append_right _ (by rw [h]; exact List.mem_cons_self)) (fun h => List.mem_append_left _ h))
   replace hO := hO2
   clear hO2
   have HOne := Lib.hid (fun (w : World) (c' : Nat) (hc : 1 ≤ c') (h : IsBoxes w (.slice (some ⟨g, o, none⟩) l.length c) l) => h.one hlt c' hc)
   have hdr : l.drop k = l[k] :: l.drop (k + 1) := List.drop_eq_getElem_cons hlt
   have t1 := tk_box l hlt
   have hvv := fun w => rvalid_any l[k] w
   have hok := kl l[k] (List.getElem_mem hlt)
   generalize l[k] = b at *
   cases hb : vld b
   ·rw [hb] at hvv
    have HE2 := Lib.hid (show makeGo [] (valF l) = makeGo s (valF (l.drop (k + 1))) by rw [HE.out, hdr]; unfold valF; rw [List.filter_cons, hb]; rfl)
    have HN3 := Lib.hid (HN2.out.mono (show 2 * k ≤ 2 * (k + 1) by omega))
    clear hdr hb HE HN2
    go_wp2_with (first | refine ldN ?_ | (go_at_call 105; refine (hvv _).mono ?_; rintro e wv ⟨rfl, hb⟩; replace hO := hO.call hb; clear hb))
    go_roundw
    case rel => exact ⟨k + 1, s, by omega, by go_num, HE2, HV, HN3, hs, HFm, HN, hO.sub (.refl _) (.refl _) (fun q hq => (List.mem_append.1 hq).elim (fun h => List.mem_cons_of_mem _ h) (fun h => by obtain rfl := List.mem_singleton.1 h; exact List.mem_cons_self))⟩
    case measure => simp [intOf]; omega
   ·rw [hb] at hvv
    have hE2 : makeGo [] (valF l) = makeGo s (b :: valF (l.drop (k + 1))) := by
     rw [HE.out, hdr]; unfold valF; rw [List.filter_cons, hb]; rfl
    have hvb := vL_one (vB_of hok hb)
    have hcv := (canonF_cn orB 5 0 rfl HV.out hvb).valid rfl
    have hen : Ends (2 * (k + 1)) (canonF orB 0 5 s [b]) := (ends_canon HN2.out (ends_len [b])).mono (by simp; omega)
    have h1 : ∀ (v2 : Value) (w : World), IsBoxes w u4 s → IsBoxes w v2 [b] → Calls Tryz.prog 135 #[u4, v2, .int .i64 0, .int .i64 0] w (RetBoxes w (canonF orB 0 5 s [b])) := fun v2 w h1 h2 => rrests_any opr_or 5 0 rfl u4 v2 s [b] w h1 h2 HV.out hvb (by omega) (by simp) (canon_small HN2.out (ends_len [b]) (by simp; omega))
    rw [makeGo] at hE2
    generalize canonF orB 0 5 s [b] = D at *
    have s3 : IntKind.i64.wrap ((k : Int) + 1) = (k : Int) + 1 := IntWalk.i64_in _ (by omega)
    have HC := Lib.hid hcv
    have HN3 := Lib.hid hen
    clear hdr hb HE HN2 hcv hen hvb
    by_cases hD : D.length ≤ 4096
    ·have hlim : limF D = some D := if_pos hD
     rw [hlim] at hE2
     have HE2 := Lib.hid hE2
     clear hlim hE2
     go_wp2_with (first | refine ldN ?_ | (go_at_call 105; refine (hvv _).mono ?_; rintro e wv ⟨rfl, hb⟩; replace hO := hO.call hb; clear hb) | (go_at_call 135; (with_reducible refine (h1 _ _ (hO.isB HFm.out (fun q hq => List.mem_cons_of_mem _ hq)) (HOne.out _ _ (by omega) (hO.isB HFl.out (fun q hq => by obtain rfl := List.mem_singleton.1 hq; exact List.mem_cons_self)))).mono ?_); rintro e wv ⟨v3, rfl, ⟨hv9, hn9⟩, hb9⟩; have hf3 := hv9.form; have hs9 := hO.keep.size; replace hO := hO.gainB hb9 hv9 hn9; clear hb9 hv9) | (go_at_call 134; refine (limited_yes _ hf3 hD).mono ?_; rintro e _ ⟨rfl, rfl⟩))
     go_roundw
     case rel => exact ⟨k + 1, D, by omega, by go_num, HE2, HC, HN3, hD, Lib.hid hf3, Lib.hid (fun g hg => Nat.le_trans hs9 (hn9 g hg)), hO.sub (.refl _) (.refl _) (fun q hq => (List.mem_append.1 hq).elim (fun h => List.mem_append_left _ h) (fun h => List.mem_append_right _ (by obtain rfl := List.mem_singleton.1 h; exact List.mem_cons_self)))⟩
     case measure => simp [intOf]; omega
    ·have hlim : limF D = none := if_neg hD
     rw [hlim] at hE2
     have HE2 := Lib.hid hE2
     clear hlim hE2
     go_wp2_with (first | refine ldN ?_ | (go_at_call 105; refine (hvv _).mono ?_; rintro e wv ⟨rfl, hb⟩; replace hO := hO.call hb; clear hb) | (go_at_call 135; (with_reducible refine (h1 _ _ (hO.isB HFm.out (fun q hq => List.mem_cons_of_mem _ hq)) (HOne.out _ _ (by omega) (hO.isB HFl.out (fun q hq => by obtain rfl := List.mem_singleton.1 hq; exact List.mem_cons_self)))).mono ?_); rintro e wv ⟨v3, rfl, ⟨hv9, hn9⟩, hb9⟩; have hf3 := hv9.form; replace hO := hO.gainB hb9 hv9 hn9; clear hb9 hv9) | (go_at_call 134; refine (limited_no _ hf3 hD).mono ?_; rintro e _ ⟨rfl, rfl⟩))
     go_ret2
     exact ⟨.slice none 0 0, hO.keep.below, .inr ⟨HE2.out, rfl⟩⟩
  ·obtain rfl : k = l.length := by omega
   have HE2 := Lib.hid (show makeGo [] (valF l) = some s by rw [HE.out, List.drop_length]; rfl)
   clear HE
   go_wp2_with fail
   go_ret2
   exact ⟨_, hO.keep.below, .inl ⟨s, HE2.out, rfl, hO.isB HFm.out (fun q hq => List.mem_append_left _ hq), HN.out⟩⟩
set_option maxHeartbeats 4000000 in
theorem tset_any {w : World} {n : Nat} {sl : Value} {zs : List Int} {i : Nat} (m : Int) (hZ : ZsOk sl zs) (hT : TapeIn w n sl zs i) (h0 : 0 ≤ m) (hm : m ≤ 50) :
  Calls Tryz.prog 33 #[.pointer (some ⟨n, 0, none⟩), .int .i64 m] w (TPost w n sl zs (fun v w' => ∃ l : List Bx, okL l ∧ l.length ≤ m ∧ IsBoxes w' v ((makeF l).getD []) ∧ NewFrom w v)) := by
 have hO := own_tape hT
 go_enter Tryz.func33, Tryz.ntmps33
 go_wp2_with (first | (go_at_call 35; (with_reducible refine (tboxes_any m false hZ (hO.tapeIn List.mem_cons_self (fun _ h => h) hT.le) h0 (by omega)).mono ?_); rintro e wv ⟨va, i1, rfl, ⟨la, hv9, hn9, ka, na, -⟩, hk, hT1⟩; have hoff9 := off_of_new hO hn9; replace hO := hO.after (by (repeat (exact Upd.here))) hk hT1.blk; replace hT := hT1; clear hT1 hk; have hfa := hv9.form; obtain ⟨aa, ca, rfl, hla, hO⟩ := own_offS hO ⟨hv9, hoff9⟩; clear hv9 hn9 hoff9; have kz : okL la := ka) | (go_at_call 73; (with_reducible refine (rmake_any _ (hO.isB hfa (by intro q hq; repeat (exact List.mem_append_left _ hq))) kz (by omega)).mono ?_); rintro e wv hpo; obtain ⟨v3, rfl, hv9, hn9, hb9⟩ := hpo.uni; have hf3 := hv9.form; have hs9 := hO.keep.size; replace hO := hO.gainB hb9 hv9 hn9; clear hb9 hv9 hpo))
 go_ret
 exact tpost hO List.mem_cons_self (by (intro s hs; repeat (first | exact hs | apply List.mem_append_right))) hT.le ⟨la, ka, na, hO.isB hf3 (fun q hq => List.mem_append_left _ hq), fun g hg => Nat.le_trans hs9 (hn9 g hg)⟩
theorem psDiffer_any {va vb : Value} {la lb : List Bx} (w : World) (ht : Tops w) (hva : IsBoxes w va la) (hvb : IsBoxes w vb lb) (ka : okL la) (kb : okL lb) (na : la.length ≤ 1000000000000) (nb : lb.length ≤ 1000000000000) :
  Calls Tryz.prog 57 #[va, vb] w fun e w' => e = .returned (.tuple #[hv (firstH (canonF xorB 0 5 (valF la) (valF lb))), .bool (!(canonF xorB 0 5 (valF la) (valF lb)).isEmpty)]) ∧ Below w.heap.size w w' := by
 have hO := own_start [] w
 have h1 := fun w ht hva hvb => first_any op_different (va := va) (vb := vb) (la := la) (lb := lb) w ht hva hvb ka kb na nb
 generalize firstH (canonF xorB 0 5 (valF la) (valF lb)) = fh at *
 generalize (!(canonF xorB 0 5 (valF la) (valF lb)).isEmpty) = b at *
 go_enter Tryz.func57, Tryz.ntmps57
 go_wp2_with (first | (refine stN hO ?_; clear hO; intro wv hO) | (refine al9 4 hO ?_; clear hO; intro n4 wv hO) | (go_at_call 112; refine (h1 _ (hO.tops ht (by simp)) (hva.keep0 hO) (hvb.keep0 hO)).mono ?_; rintro e wv ⟨rfl, hb⟩; replace hO := hO.call hb; clear hb))
 exact bodyPost_ret (own_res_cell_tmp hO Tryz.results57 rfl List.mem_cons_self (by (exact row_len (by (with_reducible (exact row_Header))) (by rfl))) rfl rfl) rfl ⟨rfl, hO.keep.below⟩
theorem rlows_any (b : Bx) (w : World) : Calls Tryz.prog 155 #[bv b] w fun e w' => e = .returned (pv fun k => (b.at k).lo) ∧ Below w.heap.size w w' := by
 have hO := own_start [] w
 go_enter Tryz.func155, Tryz.ntmps155
 go_wp2_with (first | (refine bx9 1 hO ?_; clear hO; intro n1 wv hO) | (refine al9 2 hO ?_; clear hO; intro n2 wv hO) | (refine al9 3 hO ?_; clear hO; intro n3 wv hO))
 go_loopw [4] (fun q4 wr => ∃ (k : Nat) (p : Nat → Int), k ≤ 5 ∧ q4 = .int .i64 k ∧ Hid (∀ i, i < k → p i = (b.at i).lo) ∧ Own [] w [⟨n3, fcs p, 158⟩, ⟨n2, fcs fun _ => 0, 158⟩, ⟨n1, bcs b, 98⟩] [] [] wr) (fun q4 _ => 5 - (intOf q4).toNat)
 case atStart => exact ⟨0, _, by omega, rfl, Lib.hid (fun i h => by omega), hO⟩
 case round =>
  clear hO
  obtain ⟨k, p, hk, rfl, HP, hO⟩ := hrel
  have s2 : IntKind.i64.wrap ((k : Int) + 1) = (k : Int) + 1 := IntWalk.i64_in _ (by omega)
  by_cases hlt : k < 5
  ·have g1 : decide ((k : Int) < 5) = true := decide_eq_true (by omega)
   have y1 : (0 : Int) ≤ (k : Int) := by omega
   have y2 : (k : Int) < 5 := by omega
   have c5 := bcs_lo b hlt
   go_wp2_with (first | refine ldN ?_ | (refine st1N hO ?_; clear hO; intro wv hO))
   go_roundw
   case rel =>
    refine ⟨k + 1, _, by omega, by go_num, Lib.hid (fun i hi => ?_), hO⟩
    unfold fupd
    by_cases e : i = k
    ·subst e; rw [if_pos rfl]
    ·rw [if_neg e]; exact HP.out i (by omega)
   case measure => simp [intOf]; omega
  ·obtain rfl : k = 5 := by omega
   have g1 : decide (((5 : Nat) : Int) < 5) = false := by decide
   have he : fcs p = fcs fun k => (b.at k).lo := fcs_congr fun k hk => HP.out k hk
   rw [he] at hO
   clear he HP
   go_wp2_with (first | refine ldN ?_ | (refine stN hO ?_; clear hO; intro wv hO))
   exact bodyPost_ret (own_res_cell hO Tryz.results155 rfl (by (repeat (first | exact List.mem_cons_self | refine List.mem_cons_of_mem _ ?_))) (by (exact row_len (by (with_reducible (exact row_Five))) (by rfl))) rfl) rfl ⟨rfl, hO.keep.below⟩
set_option maxHeartbeats 2000000 in
theorem rcanonG_any {vl : Value} {l : List Bx} (w : World) (hv : IsBoxes w vl l) (kl : okL l) (hl : l.length ≤ 10000000000) (hc : (canonF orB 0 5 (valF l) []).length ≤ 100000000000) :
  Calls Tryz.prog 154 #[vl] w (RetBoxes w (canonF orB 0 5 (valF l) [])) := by
 have hO := own_start [] w
 have h0 := fun w hv => rvals_any (vl := vl) (l := l) w hv (by omega)
 have nV := valF_le l
 have h1 : ∀ (v : Value) (w : World), IsBoxes w v (valF l) → Calls Tryz.prog 135 #[v, .slice none 0 0, .int .i64 0, .int .i64 0] w (RetBoxes w (canonF orB 0 5 (valF l) [])) := fun v w hv => rrests_any opr_or 5 0 rfl v (.slice none 0 0) (valF l) [] w hv (.inl ⟨rfl, rfl⟩) (valF_vL kl) (fun b hb => by cases hb) (by omega) (by simp) hc
 generalize canonF orB 0 5 (valF l) [] = D at *
 go_enter Tryz.func154, Tryz.ntmps154
 go_wp2_with (first | (go_at_call 142; (with_reducible refine (h0 _ (hv.keep0 hO)).mono ?_); rintro e wv ⟨v9, rfl, ⟨hv9, hn9⟩, hb9⟩; have hof := hv9.form; replace hO := hO.gainB hb9 hv9 hn9; clear hb9 hv9 hn9) | (go_at_call 135; (with_reducible refine (h1 v9 _ (hO.isB hof (fun q hq => List.mem_append_left _ hq))).mono ?_); rintro e wv ⟨v3, rfl, ⟨hv9, hn9⟩, hb9⟩; have hs9 := hO.keep.size; have hof3 := hv9.form; replace hO := hO.gainB hb9 hv9 hn9; clear hb9 hv9))
 go_ret
 exact ⟨v3, rfl, ⟨hO.isB hof3 (fun q hq => List.mem_append_left _ hq), fun g hg => Nat.le_trans hs9 (hn9 g hg)⟩, hO.keep.below⟩
theorem canon_small10 {op : Bool → Bool → Bool} {N M : Nat} {a b : List Bx} (ha : Ends N a) (hb : Ends M b) (h : N + M ≤ 90) : (canonF op 0 5 a b).length ≤ 10000000000 :=
 Nat.le_trans (canon_len ha hb (f := 0) rfl) (Nat.le_trans (Nat.pow_le_pow_left (show N + M + 2 ≤ 92 by omega) 5) (by decide))
theorem xor_none {a b : List Bx} (ka : vL a) (kb : vL b) : (canonF xorB 0 5 a b).isEmpty = ((canonF exB 0 5 a b).isEmpty && (canonF exB 0 5 b a).isEmpty) := by
 have hv := (canonF_cn xorB 5 0 rfl ka kb).valid rfl
 rw [Bool.eq_iff_iff, Bool.and_eq_true, sub_iff ka kb, sub_iff kb ka]
 constructor
 ·intro h0
  have key : ∀ h, okP h → inq a h = inq b h := fun h hok => by
   have h2 := inq_canon (op := xorB) hok ka kb
   rw [List.isEmpty_iff.1 h0, inq_nil] at h2
   unfold xorB at h2
   revert h2; cases inq a h <;> cases inq b h <;> decide
  exact ⟨fun h hok h1 => by rw [← key h hok]; exact h1, fun h hok h1 => by rw [key h hok]; exact h1⟩
 ·rintro ⟨h1, h2⟩
  cases hD : canonF xorB 0 5 a b with
  | nil => rfl
  | cons x xs =>
   exfalso
   rw [hD] at hv
   have hx := hv x (by simp)
   have hok : okP fun k => (x.at k).lo := fun k hk => by have := hx k hk; dsimp only; omega
   have h3 := inq_canon (op := xorB) hok ka kb
   rw [hD, inq_iff.2 (inL_lows hx)] at h3
   have h4 := h1 _ hok
   have h5 := h2 _ hok
   unfold xorB at h3
   revert h3 h4 h5
   cases inq a fun k => (x.at k).lo <;> cases inq b fun k => (x.at k).lo <;> simp
end Go.Proofs.YtbdfblgdmappeaaGreatDoor
