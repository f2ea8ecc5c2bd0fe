/- Opens and Hop. -/
import Derived.Test.YtjfiipbjphabeaaDoorMG
namespace Go.Proofs.YtjfiipbjphabeaaDoor
open Go.RowKit
set_option maxRecDepth 100000

theorem Own.rowCap {M : List Nat} {w0 w : World} {X : List Chunk} {R : List Row} {S : List Ro} (hO : Own M w0 X R S w) {g k cap size : Nat} {xs : List Value} {e : TypeId} (hm : (⟨.slice (some ⟨g, 0, none⟩) k cap, k, xs, e, size⟩ : Row) ∈ R) : k ≤ cap := by
  rcases (hO.row _ hm).2 with ⟨h, _⟩ | ⟨g', cap', cur, h, _, _, h2, _⟩
  · cases h
  · cases h
    exact h2
theorem dec_at {l : List Int} {w w' : World} {e : Ending} (h : DecPost l w e w') {s d p sp dp t f k : Int} {pl : List Int} (hK : decF l = ⟨⟨s, d, p, sp, dp⟩, t, f, pl⟩) (hk : errF l = k) :
    ∃ v, e = .returned (.tuple #[.agg (pcs ⟨s, d, p, sp, dp⟩ t f v).toArray, .int .i64 k]) ∧ IsB w' v pl ∧ NewFrom w v ∧ Below w.heap.size w w' := by
  obtain ⟨v, h1, h2, h3, h4⟩ := h
  rw [hK] at h1 h2
  rw [hk] at h1
  exact ⟨v, h1, h2, h3, h4⟩
theorem echo_eq {l : List Int} (hE : errF l = 0) (hp : gt l 9 = 1) : (dpF l == 8) = (gt l 20 == 8) := by
  obtain ⟨-, -, -, -, -, -, hB, -⟩ := errF_ok.1 hE
  obtain ⟨-, -, b1⟩ := bodyR_len hB
  obtain ⟨-, h2, -, h4⟩ := b1 hp
  have : dpF l = if gt l 20 == 0 then g16 l 24 else 8 := by unfold dpF; rw [hp]; rfl
  rw [this]
  rcases h2 with h | h
  · rw [h]; rfl
  · rw [h]
    simpa using h4
theorem opens_err {l : List Int} (hE : errF l ≠ 0) : opensF l = false := by unfold opensF; rw [if_neg (by simpa using hE)]
theorem opens_ok {l : List Int} (hE : errF l = 0) : opensF l = if gt l 9 == 6 then flF l == 2 else if gt l 9 == 1 then gt l 20 == 8 else true := by unfold opensF; rw [if_pos (by simpa using hE)]
set_option maxHeartbeats 4000000 in
theorem opens_any {v : Value} {l : List Int} (w : World) (hw0 : IsB w v l) (hb : BOk l) (hl : l.length ≤ 140737488355328) :
    Calls Tryd.prog 35 #[v] w fun e w' => e = .returned (.bool (opensF l)) ∧ Below w.heap.size w w' := by
  have hdec := fun w hv => decode_any (v := v) (l := l) w hv hb hl
  by_cases hE : errF l = 0
  case neg =>
    have HF := Lib.hid (opens_err hE)
    obtain ⟨k, hk⟩ : ∃ k, errF l = k := ⟨_, rfl⟩
    have q : (k != 0) = true := by rw [← hk]; simpa using hE
    have hd := fun w hv => (hdec w hv).mono fun e w' h => dec_at h (decF_err hE) hk
    clear hdec hb hk hE
    have hO := own_start [] w
    go_enter Tryd.func35, Tryd.ntmps35
    go_wp2_with (first | ((with_reducible refine is_load ?_); (first | (refine own_ldP hO (h := ?_)) | (refine own_ld (h := ?_)))) | ((with_reducible refine is_store ?_); (first | (refine own_stRp (hO := hO) (h := ?_); clear hO; intro wv hO) | (refine own_st1p (hO := hO) (h := ?_); clear hO; intro wv hO) | (refine own_stR (hO := hO) (h := ?_); clear hO; intro wv hO) | (refine own_st1 (hO := hO) (h := ?_); clear hO; intro wv hO))) | ((with_reducible refine is_alloc ?_); (first | (refine own_al (o := ⟨some 3, _, _, _, _, _⟩) (hO := hO) (h := ?_); clear hO; intro n3 wv hO))) | (go_at_call 28; (refine (hd _ (IsCells.below hw0 hO.keep.below)).mono ?_); rintro e wv ⟨v1, rfl, hv1, hn1, hb1⟩; replace hO := hO.call hb1; clear hb1; obtain ⟨a1, k1, rfl, -⟩ := IsCells.view hv1; clear hv1 hn1) | ((with_reducible refine is_load ?_); (refine own_ldW (hO := hO) (h := ?_))) | ((with_reducible refine is_store ?_); (refine own_stW (hO := hO) (h := ?_); clear hO; intro wv hO)))
    go_ret
    exact ⟨ret_bool HF.out.symm, hO.keep.below⟩
  have hF := opens_ok hE
  have hec := echo_eq hE
  obtain ⟨⟨⟨s, d, p, sp, dp⟩, t, f, pl⟩, hK⟩ : ∃ K, decOk l = K := ⟨_, rfl⟩
  have e1 : gt l 9 = p := congrArg (fun k => k.h.proto) hK
  have e2 : flF l = f := congrArg (fun k => k.f) hK
  have e3 : dpF l = dp := congrArg (fun k => k.h.dport) hK
  have hd := fun w hv => (hdec w hv).mono fun e w' h => dec_at h ((decF_ok hE).trans hK) hE
  rw [e1, e3] at hec
  rw [e1, e2] at hF
  have HF := Lib.hid (show opensF l = (if p == 6 then f == 2 else if p == 1 then dp == 8 else true) by
    rw [hF]
    by_cases h1 : p = 1
    · rw [hec h1]
    · simp [h1])
  clear hdec hb hK hE hec hF e1 e2 e3
  have hO := own_start [] w
  go_enter Tryd.func35, Tryd.ntmps35
  go_wp2_with (first | ((with_reducible refine is_load ?_); (first | (refine own_ldP hO (h := ?_)) | (refine own_ld (h := ?_)))) | ((with_reducible refine is_store ?_); (first | (refine own_stRp (hO := hO) (h := ?_); clear hO; intro wv hO) | (refine own_st1p (hO := hO) (h := ?_); clear hO; intro wv hO) | (refine own_stR (hO := hO) (h := ?_); clear hO; intro wv hO) | (refine own_st1 (hO := hO) (h := ?_); clear hO; intro wv hO))) | ((with_reducible refine is_alloc ?_); (first | (refine own_al (o := ⟨some 3, _, _, _, _, _⟩) (hO := hO) (h := ?_); clear hO; intro n3 wv hO))) | (go_at_call 28; (refine (hd _ (IsCells.below hw0 hO.keep.below)).mono ?_); rintro e wv ⟨v1, rfl, hv1, hn1, hb1⟩; replace hO := hO.call hb1; clear hb1; obtain ⟨a1, k1, rfl, -⟩ := IsCells.view hv1; clear hv1 hn1) | ((with_reducible refine is_load ?_); (refine own_ldW (hO := hO) (h := ?_))) | ((with_reducible refine is_store ?_); (refine own_stW (hO := hO) (h := ?_); clear hO; intro wv hO)))
  all_goals
    go_ret
    exact ⟨ret_bool (by rw [HF.out]; (repeat (first | rfl | rw [if_pos (by assumption)] | rw [if_neg (ne_true (by assumption))] | rw [if_pos (Eq.refl true)] | rw [if_neg Bool.false_ne_true]))), hO.keep.below⟩
set_option maxHeartbeats 4000000 in
theorem ropens_any {v : Value} {l : List Int} (w : World) (hw0 : IsB w v l) (hb : BOk l) (hl : l.length ≤ 140737488355328) :
    Calls Tryd.prog 44 #[v] w fun e w' => e = .returned (.bool (opensF l)) ∧ Below w.heap.size w w' := by
  have hdec := fun w hv => rdecode_any (v := v) (l := l) w hv hb hl
  by_cases hE : errF l = 0
  case neg =>
    have HF := Lib.hid (opens_err hE)
    obtain ⟨k, hk⟩ : ∃ k, errF l = k := ⟨_, rfl⟩
    have q : (k != 0) = true := by rw [← hk]; simpa using hE
    have hd := fun w hv => (hdec w hv).mono fun e w' h => dec_at h (decF_err hE) hk
    clear hdec hb hk hE
    have hO := own_start [] w
    go_enter Tryd.func44, Tryd.ntmps44
    go_wp2_with (first | ((with_reducible refine is_load ?_); (first | (refine own_ldP hO (h := ?_)) | (refine own_ld (h := ?_)))) | ((with_reducible refine is_store ?_); (first | (refine own_stRp (hO := hO) (h := ?_); clear hO; intro wv hO) | (refine own_st1p (hO := hO) (h := ?_); clear hO; intro wv hO) | (refine own_stR (hO := hO) (h := ?_); clear hO; intro wv hO) | (refine own_st1 (hO := hO) (h := ?_); clear hO; intro wv hO))) | ((with_reducible refine is_alloc ?_); (first | (refine own_al (o := ⟨some 3, _, _, _, _, _⟩) (hO := hO) (h := ?_); clear hO; intro n3 wv hO))) | (go_at_call 41; (refine (hd _ (IsCells.below hw0 hO.keep.below)).mono ?_); rintro e wv ⟨v1, rfl, hv1, hn1, hb1⟩; replace hO := hO.call hb1; clear hb1; obtain ⟨a1, k1, rfl, -⟩ := IsCells.view hv1; clear hv1 hn1) | ((with_reducible refine is_load ?_); (refine own_ldW (hO := hO) (h := ?_))) | ((with_reducible refine is_store ?_); (refine own_stW (hO := hO) (h := ?_); clear hO; intro wv hO)))
    go_ret
    exact ⟨ret_bool HF.out.symm, hO.keep.below⟩
  have hF := opens_ok hE
  obtain ⟨h20, h576, -, -, -, -, hB, -⟩ := errF_ok.1 hE
  obtain ⟨-, -, b1⟩ := bodyR_len hB
  obtain ⟨⟨⟨s, d, p, sp, dp⟩, t, f, pl⟩, hK⟩ : ∃ K, decOk l = K := ⟨_, rfl⟩
  have e1 : gt l 9 = p := congrArg (fun k => k.h.proto) hK
  have e2 : flF l = f := congrArg (fun k => k.f) hK
  have hd := fun w hv => (hdec w hv).mono fun e w' h => dec_at h ((decF_ok hE).trans hK) hE
  rw [e1, e2] at hF
  rw [e1] at b1
  have HF := Lib.hid hF
  obtain ⟨g, o, c, rfl, hc, hO⟩ := hw0.pos (by omega)
  by_cases hp : p = 1
  · have h28 : 28 ≤ l.length := by have := b1 hp; omega
    have c20 := bc_at (show 20 < l.length by omega)
    generalize gt l 20 = r at *
    clear hdec hb hK hE hF e1 e2 b1 hB
    go_enter Tryd.func44, Tryd.ntmps44
    go_wp2_with (first | ((with_reducible refine is_load ?_); (first | (refine own_ldP hO (h := ?_)) | (refine own_ld (h := ?_)))) | ((with_reducible refine is_store ?_); (first | (refine own_stRp (hO := hO) (h := ?_); clear hO; intro wv hO) | (refine own_st1p (hO := hO) (h := ?_); clear hO; intro wv hO) | (refine own_stR (hO := hO) (h := ?_); clear hO; intro wv hO) | (refine own_st1 (hO := hO) (h := ?_); clear hO; intro wv hO))) | ((with_reducible refine is_alloc ?_); (first | (refine own_al (o := ⟨some 3, _, _, _, _, _⟩) (hO := hO) (h := ?_); clear hO; intro n3 wv hO))) | (go_at_call 41; (refine (hd _ (IsCells.below hw0 hO.keep.below)).mono ?_); rintro e wv ⟨v1, rfl, hv1, hn1, hb1⟩; replace hO := hO.call hb1; clear hb1; obtain ⟨a1, k1, rfl, -⟩ := IsCells.view hv1; clear hv1 hn1) | ((with_reducible refine is_load ?_); (refine own_ldW (hO := hO) (h := ?_))) | ((with_reducible refine is_store ?_); (refine own_stW (hO := hO) (h := ?_); clear hO; intro wv hO)))
    go_ret
    exact ⟨ret_bool (by rw [HF.out, hp]; rfl), hO.keep.below⟩
  · have q1 : (p == 1) = false := by simpa using hp
    clear hdec hb hK hE hF e1 e2 b1 hB hp
    go_enter Tryd.func44, Tryd.ntmps44
    go_wp2_with (first | ((with_reducible refine is_load ?_); (first | (refine own_ldP hO (h := ?_)) | (refine own_ld (h := ?_)))) | ((with_reducible refine is_store ?_); (first | (refine own_stRp (hO := hO) (h := ?_); clear hO; intro wv hO) | (refine own_st1p (hO := hO) (h := ?_); clear hO; intro wv hO) | (refine own_stR (hO := hO) (h := ?_); clear hO; intro wv hO) | (refine own_st1 (hO := hO) (h := ?_); clear hO; intro wv hO))) | ((with_reducible refine is_alloc ?_); (first | (refine own_al (o := ⟨some 3, _, _, _, _, _⟩) (hO := hO) (h := ?_); clear hO; intro n3 wv hO))) | (go_at_call 41; (refine (hd _ (IsCells.below hw0 hO.keep.below)).mono ?_); rintro e wv ⟨v1, rfl, hv1, hn1, hb1⟩; replace hO := hO.call hb1; clear hb1; obtain ⟨a1, k1, rfl, -⟩ := IsCells.view hv1; clear hv1 hn1) | ((with_reducible refine is_load ?_); (refine own_ldW (hO := hO) (h := ?_))) | ((with_reducible refine is_store ?_); (refine own_stW (hO := hO) (h := ?_); clear hO; intro wv hO)))
    all_goals
      go_ret
      exact ⟨ret_bool (by rw [HF.out, q1]; (repeat (first | rfl | rw [if_pos (by assumption)] | rw [if_neg (ne_true (by assumption))] | rw [if_pos (Eq.refl true)] | rw [if_neg Bool.false_ne_true]))), hO.keep.below⟩
/-! ### Hop -/
theorem hopE_err {l : List Int} (h : errF l ≠ 0) : hopE l = errF l ∧ hopF l = [] := by
  have h1 : hopE l = errF l := by unfold hopE; rw [if_neg (by simpa using h)]
  exact ⟨h1, by unfold hopF; rw [h1, if_neg (by simpa using h)]⟩
theorem hopE_low {l : List Int} (h : errF l = 0) (h2 : gt l 8 < 2) : hopE l = 2 ∧ hopF l = [] := by
  have h1 : hopE l = 2 := by unfold hopE; rw [if_pos (by simpa using h), if_pos h2]
  exact ⟨h1, by unfold hopF; rw [h1]; rfl⟩
theorem hopE_ok {l : List Int} (h : errF l = 0) (h2 : ¬ gt l 8 < 2) : hopE l = 0 ∧ hopF l = hopB l := by
  have h1 : hopE l = 0 := by unfold hopE; rw [if_pos (by simpa using h), if_neg h2]
  exact ⟨h1, by unfold hopF; rw [h1]; rfl⟩
set_option maxHeartbeats 4000000 in
theorem hop_any {v : Value} {l : List Int} (w : World) (hw0 : IsB w v l) (hb : BOk l) (hl : l.length ≤ 140737488355328) :
    Calls Tryd.prog 37 #[v] w (EncPost (hopE l) (hopF l) w) := by
  have hdec := fun w hv => decode_any (v := v) (l := l) w hv hb hl
  by_cases hE : errF l = 0
  case neg =>
    obtain ⟨HE, HF⟩ := hopE_err hE
    rw [HE, HF]
    clear HE HF
    have hO := own_start [] w
    obtain ⟨k, hk⟩ : ∃ k, errF l = k := ⟨_, rfl⟩
    have q : (k != 0) = true := by rw [← hk]; simpa using hE
    have hd := fun w hv => (hdec w hv).mono fun e w' h => dec_at h (decF_err hE) hk
    rw [hk]
    clear hdec hb hk hE
    go_enter Tryd.func37, Tryd.ntmps37
    go_wp2_with (first | ((with_reducible refine is_load ?_); (first | (refine own_ldP hO (h := ?_)) | (refine own_ld (h := ?_)))) | ((with_reducible refine is_store ?_); (first | (refine own_stRp (hO := hO) (h := ?_); clear hO; intro wv hO) | (refine own_st1p (hO := hO) (h := ?_); clear hO; intro wv hO) | (refine own_stR (hO := hO) (h := ?_); clear hO; intro wv hO) | (refine own_st1 (hO := hO) (h := ?_); clear hO; intro wv hO))) | ((with_reducible refine is_alloc ?_); (first | (refine own_al (o := ⟨some 4, _, _, _, _, _⟩) (hO := hO) (h := ?_); clear hO; intro n4 wv hO))) | ((with_reducible refine is_append ?_); (first | (refine own_ap (o := ⟨some 19, _, _, _, _, _⟩) (hO := hO) (h := ?_); clear hO; intro g19 c19 wv hO))) | (go_at_call 28; (refine (hd _ (IsCells.below hw0 hO.keep.below)).mono ?_); rintro e wv ⟨v1, rfl, hv1, hn1, hb1⟩; replace hO := hO.call hb1; clear hb1; obtain ⟨a1, k1, rfl, -⟩ := IsCells.view hv1; clear hv1 hn1) | ((with_reducible refine is_load ?_); (refine own_ldW (hO := hO) (h := ?_))) | ((with_reducible refine is_store ?_); (refine own_stW (hO := hO) (h := ?_); clear hO; intro wv hO)))
    go_ret2
    exact enc_nil hO.keep.below
  obtain ⟨h20, h576, -⟩ := errF_ok.1 hE
  obtain ⟨⟨⟨s, d, p, sp, dp⟩, t, f, pl⟩, hK⟩ : ∃ K, decOk l = K := ⟨_, rfl⟩
  have e1 : gt l 8 = t := congrArg (fun k => k.t) hK
  have hd := fun w hv => (hdec w hv).mono fun e w' h => dec_at h ((decF_ok hE).trans hK) hE
  by_cases h2 : gt l 8 < 2
  · obtain ⟨HE, HF⟩ := hopE_low hE h2
    rw [HE, HF]
    have hO := own_start [] w
    rw [e1] at h2
    clear HE HF hdec hb hK hE e1
    go_enter Tryd.func37, Tryd.ntmps37
    go_wp2_with (first | ((with_reducible refine is_load ?_); (first | (refine own_ldP hO (h := ?_)) | (refine own_ld (h := ?_)))) | ((with_reducible refine is_store ?_); (first | (refine own_stRp (hO := hO) (h := ?_); clear hO; intro wv hO) | (refine own_st1p (hO := hO) (h := ?_); clear hO; intro wv hO) | (refine own_stR (hO := hO) (h := ?_); clear hO; intro wv hO) | (refine own_st1 (hO := hO) (h := ?_); clear hO; intro wv hO))) | ((with_reducible refine is_alloc ?_); (first | (refine own_al (o := ⟨some 4, _, _, _, _, _⟩) (hO := hO) (h := ?_); clear hO; intro n4 wv hO))) | ((with_reducible refine is_append ?_); (first | (refine own_ap (o := ⟨some 19, _, _, _, _, _⟩) (hO := hO) (h := ?_); clear hO; intro g19 c19 wv hO))) | (go_at_call 28; (refine (hd _ (IsCells.below hw0 hO.keep.below)).mono ?_); rintro e wv ⟨v1, rfl, hv1, hn1, hb1⟩; replace hO := hO.call hb1; clear hb1; obtain ⟨a1, k1, rfl, -⟩ := IsCells.view hv1; clear hv1 hn1) | ((with_reducible refine is_load ?_); (refine own_ldW (hO := hO) (h := ?_))) | ((with_reducible refine is_store ?_); (refine own_stW (hO := hO) (h := ?_); clear hO; intro wv hO)))
    go_ret2
    exact enc_nil hO.keep.below
  · obtain ⟨HE, HF⟩ := hopE_ok hE h2
    rw [HE, HF]
    obtain ⟨g, o, c, rfl, hc, hO⟩ := hw0.pos (by omega)
    replace hO := hO.nilRow 5 1
    obtain ⟨x0, x1⟩ := gt_bd hb 8
    have c8 := bc_at (show 8 < l.length by omega)
    unfold hopB
    rw [e1] at h2 x0 x1 c8 ⊢
    have hn1 : (l.set 8 (t - 1)).length = l.length := by simp
    have hb1 : BOk (l.set 8 (t - 1)) := hb.set 8 (by omega) (by omega)
    clear HE HF hdec hK hE e1 hb
    have hL1 : l.set 8 (t - 1) = l.set 8 (t - 1) := rfl
    generalize hL1' : l.set 8 (t - 1) = L1 at hn1 hb1 ⊢
    have h1 := fun v w hw => setHead_any (v := v) (l := L1) w hw hb1 (by omega) (by omega)
    have HN2 := Lib.hid (show (hdSum L1).length = l.length by rw [hdSum_length, hn1])
    have HN1 := Lib.hid hn1
    have HL1 := Lib.hid hL1'
    clear hn1 hb1 hL1 hL1'
    generalize hdSum L1 = L2 at *
    go_enter Tryd.func37, Tryd.ntmps37
    go_wp2_with (first | ((with_reducible refine is_load ?_); (first | (refine own_ldP hO (h := ?_)) | (refine own_ld (h := ?_)))) | ((with_reducible refine is_store ?_); (first | (refine own_stRp (hO := hO) (h := ?_); clear hO; intro wv hO) | (refine own_st1p (hO := hO) (h := ?_); clear hO; intro wv hO) | (refine own_stR (hO := hO) (h := ?_); clear hO; intro wv hO) | (refine own_st1 (hO := hO) (h := ?_); clear hO; intro wv hO))) | ((with_reducible refine is_alloc ?_); (first | (refine own_al (o := ⟨some 4, _, _, _, _, _⟩) (hO := hO) (h := ?_); clear hO; intro n4 wv hO))) | ((with_reducible refine is_append ?_); (first | (refine own_ap (o := ⟨some 19, _, _, _, _, _⟩) (hO := hO) (h := ?_); clear hO; intro g19 c19 wv hO))) | (go_at_call 28; (refine (hd _ (IsCells.below hw0 hO.keep.below)).mono ?_); rintro e wv ⟨v1, rfl, hv1, hn1, hb1⟩; replace hO := hO.call hb1; clear hb1; obtain ⟨a1, k1, rfl, -⟩ := IsCells.view hv1; clear hv1 hn1) | ((with_reducible refine is_append ?_); (refine own_appendP (o := ⟨some 19, _, _, _, _, _⟩) hO rfl rfl slice_u8 rfl rfl (src_of_cells (IsCells.below hw0 hO.keep.below) (by simp [bc_length]; try omega)) (bc_one _) (fun _ => by repeat (first | exact UpdR.here | apply UpdR.there)) (by first | omega | (simp; omega)) (by unfold maxLen; first | omega | (simp; omega)) (by first | omega | (simp; done) | (simp; omega)) ?_); clear hO; intro g19 c19 wv hO) | (go_at_call 61; rw [HL1.out] at hO; simp only [Nat.zero_add] at hO; refine (h1 _ _ (by unfold OwnsB; rw [HN1.out]; exact hO.row _ List.mem_cons_self)).mono ?_; rintro e wv hw; obtain rfl := hw.1; have hw2 := hw.2.2; rw [HN1.out] at hw2; replace hO := hO.afterRow .here hw.2.1 hw2; clear hw hw2 h1) | ((with_reducible refine is_load ?_); (refine own_ldW (hO := hO) (h := ?_))) | ((with_reducible refine is_store ?_); (refine own_stW (hO := hO) (h := ?_); clear hO; intro wv hO)))
    go_ret2
    exact ⟨_, rfl, by rw [HN2.out]; exact hO.newRow List.mem_cons_self, hO.keep.below⟩
set_option maxHeartbeats 4000000 in
theorem rhop_any {v : Value} {l : List Int} (w : World) (hw0 : IsB w v l) (hb : BOk l) (hl : l.length ≤ 140737488355328) :
    Calls Tryd.prog 38 #[v] w (EncPost (hopE l) (hopF l) w) := by
  have hflt := fun w hv => fault_all (v := v) (l := l) w hv hb hl
  by_cases hE : errF l = 0
  case neg =>
    obtain ⟨HE, HF⟩ := hopE_err hE
    rw [HE, HF]
    clear HE HF
    have hO := own_start [] w
    have q : (errF l != 0) = true := by simpa using hE
    generalize errF l = k at *
    clear hb hE
    go_enter Tryd.func38, Tryd.ntmps38
    go_wp2_with (first | ((with_reducible refine is_load ?_); (first | (refine own_ldP hO (h := ?_)) | (refine own_ld (h := ?_)))) | ((with_reducible refine is_store ?_); (first | (refine own_stRp (hO := hO) (h := ?_); clear hO; intro wv hO) | (refine own_st1p (hO := hO) (h := ?_); clear hO; intro wv hO) | (refine own_stR (hO := hO) (h := ?_); clear hO; intro wv hO) | (refine own_st1 (hO := hO) (h := ?_); clear hO; intro wv hO))) | ((with_reducible refine is_append ?_); (first | (refine own_ap (o := ⟨some 17, _, _, _, _, _⟩) (hO := hO) (h := ?_); clear hO; intro g17 c17 wv hO))) | (go_at_call 62; refine (hflt _ (IsCells.below hw0 hO.keep.below)).mono ?_; rintro e wv ⟨rfl, hb⟩; replace hO := hO.call hb; clear hb) | ((with_reducible refine is_load ?_); (refine own_ldW (hO := hO) (h := ?_))) | ((with_reducible refine is_store ?_); (refine own_stW (hO := hO) (h := ?_); clear hO; intro wv hO)))
    go_ret2
    exact enc_nil hO.keep.below
  obtain ⟨h20, h576, -⟩ := errF_ok.1 hE
  rw [hE] at hflt
  obtain ⟨g, o, c, rfl, hc, hO⟩ := hw0.pos (by omega)
  have c8 := bc_at (show 8 < l.length by omega)
  obtain ⟨x0, x1⟩ := gt_bd hb 8
  by_cases h2 : gt l 8 < 2
  · obtain ⟨HE, HF⟩ := hopE_low hE h2
    rw [HE, HF]
    generalize gt l 8 = t at *
    clear HE HF hb hE
    go_enter Tryd.func38, Tryd.ntmps38
    go_wp2_with (first | ((with_reducible refine is_load ?_); (first | (refine own_ldP hO (h := ?_)) | (refine own_ld (h := ?_)))) | ((with_reducible refine is_store ?_); (first | (refine own_stRp (hO := hO) (h := ?_); clear hO; intro wv hO) | (refine own_st1p (hO := hO) (h := ?_); clear hO; intro wv hO) | (refine own_stR (hO := hO) (h := ?_); clear hO; intro wv hO) | (refine own_st1 (hO := hO) (h := ?_); clear hO; intro wv hO))) | ((with_reducible refine is_append ?_); (first | (refine own_ap (o := ⟨some 17, _, _, _, _, _⟩) (hO := hO) (h := ?_); clear hO; intro g17 c17 wv hO))) | (go_at_call 62; refine (hflt _ (IsCells.below hw0 hO.keep.below)).mono ?_; rintro e wv ⟨rfl, hb⟩; replace hO := hO.call hb; clear hb) | ((with_reducible refine is_load ?_); (refine own_ldW (hO := hO) (h := ?_))) | ((with_reducible refine is_store ?_); (refine own_stW (hO := hO) (h := ?_); clear hO; intro wv hO)))
    go_ret2
    exact enc_nil hO.keep.below
  · obtain ⟨HE, HF⟩ := hopE_ok hE h2
    rw [HE, HF]
    unfold hopB
    generalize gt l 8 = t at *
    have hn1 : (l.set 8 (t - 1)).length = l.length := by simp
    have hb1 : BOk (l.set 8 (t - 1)) := hb.set 8 (by omega) (by omega)
    clear HE HF hE hb
    generalize hL1' : l.set 8 (t - 1) = L1 at hn1 hb1 ⊢
    rw [hdSum_eq]
    have h1 := fun v w hw => set2_any (v := v) (l := L1) 10 0 w hw (by omega) (by omega) (by omega) (by omega)
    have hb2 : BOk (p16 L1 10 0) := hb1.p16 10 (by omega) (by omega)
    have hn2 : (p16 L1 10 0).length = l.length := by rw [p16_length, hn1]
    generalize p16 L1 10 0 = L2 at *
    have hck := fun v w hv => rcksum_any (v := v) (l := L2.take 20) w hv (hb2.take 20) (by simp; omega)
    obtain ⟨s0, s1⟩ := ck_bd (L2.take 20)
    generalize ck (L2.take 20) = s at *
    have h3 := fun v w hw => set2_any (v := v) (l := L2) 10 s w hw (by omega) s0 s1 (by omega)
    have HN3 := Lib.hid (show (p16 L2 10 s).length = l.length by rw [p16_length, hn2])
    generalize p16 L2 10 s = L3 at *
    have HN1 := Lib.hid hn1
    have HN2 := Lib.hid hn2
    have HL1 := Lib.hid hL1'
    clear hn1 hb1 hn2 hb2 hL1'
    go_enter Tryd.func38, Tryd.ntmps38
    go_wp2_with (first | ((with_reducible refine is_load ?_); (first | (refine own_ldP hO (h := ?_)) | (refine own_ld (h := ?_)))) | ((with_reducible refine is_store ?_); (first | (refine own_stRp (hO := hO) (h := ?_); clear hO; intro wv hO) | (refine own_st1p (hO := hO) (h := ?_); clear hO; intro wv hO) | (refine own_stR (hO := hO) (h := ?_); clear hO; intro wv hO) | (refine own_st1 (hO := hO) (h := ?_); clear hO; intro wv hO))) | ((with_reducible refine is_append ?_); (first | (refine own_ap (o := ⟨some 17, _, _, _, _, _⟩) (hO := hO) (h := ?_); clear hO; intro g17 c17 wv hO))) | (go_at_call 62; refine (hflt _ (IsCells.below hw0 hO.keep.below)).mono ?_; rintro e wv ⟨rfl, hb⟩; replace hO := hO.call hb; clear hb) | ((with_reducible refine is_build ?_); (refine own_build0 (o := ⟨some 15, _, _, _, _, _⟩) hO (by rfl) rfl slice_u8 ?_); clear hO; intro n15 wv hO) | ((with_reducible refine is_append ?_); (refine own_appendP (o := ⟨some 17, _, _, _, _, _⟩) hO rfl rfl slice_u8 rfl rfl (src_of_cells (IsCells.below hw0 hO.keep.below) (by simp [bc_length]; try omega)) (bc_one _) (fun _ => by repeat (first | exact UpdR.here | apply UpdR.there)) (by first | omega | (simp; omega)) (by unfold maxLen; first | omega | (simp; omega)) (by first | omega | (simp; done) | (simp; omega)) ?_); clear hO; intro g17 c17 wv hO) | (go_at_call 51; rw [HL1.out] at hO; simp only [Nat.zero_add] at hO; have hcp := hO.rowCap List.mem_cons_self; refine (h1 _ _ (by unfold OwnsB; rw [HN1.out]; exact hO.row _ List.mem_cons_self)).mono ?_; rintro e wv hw; obtain rfl := hw.1; have hw2 := hw.2.2; rw [HN1.out] at hw2; replace hO := hO.afterRow .here hw.2.1 hw2; clear hw hw2 h1) | (go_at_call 15; refine (hck _ _ (IsB.front (show IsB _ _ _ by unfold IsB; rw [HN2.out]; exact hO.rowIs List.mem_cons_self) (by rw [HN2.out]; omega) (by omega))).mono ?_; rintro e wv ⟨rfl, hb9⟩; replace hO := hO.call hb9; clear hb9 hck) | (go_at_call 51; refine (h3 _ _ (by unfold OwnsB; rw [HN2.out]; exact hO.row _ List.mem_cons_self)).mono ?_; rintro e wv hw; obtain rfl := hw.1; have hw2 := hw.2.2; rw [HN2.out] at hw2; replace hO := hO.afterRow .here hw.2.1 hw2; clear hw hw2 h3) | ((with_reducible refine is_load ?_); (refine own_ldW (hO := hO) (h := ?_))) | ((with_reducible refine is_store ?_); (refine own_stW (hO := hO) (h := ?_); clear hO; intro wv hO)))
    go_ret2
    exact ⟨_, rfl, by rw [HN3.out]; exact hO.newRow List.mem_cons_self, hO.keep.below⟩
end Go.Proofs.YtjfiipbjphabeaaDoor

/- Rewrite and Answer. -/
namespace Go.Proofs.YtjfiipbjphabeaaDoor
open Go.RowKit
set_option maxRecDepth 100000

theorem fit_echo {l : List Int} (hE : errF l = 0) (h : Hd) : fitF (dpF l == 8) (gt l 9) h = fitF (gt l 20 == 8) (gt l 9) h := by
  by_cases hp : gt l 9 = 1
  · rw [echo_eq hE hp]
  · unfold fitF
    by_cases h1 : h.proto = gt l 9
    · have h2 : (h.proto == 1) = false := by rw [h1]; simpa using hp
      rw [h2]; rfl
    · have h2 : (h.proto != gt l 9) = true := by simpa using h1
      rw [h2]; rfl
theorem fit_proto {e : Bool} {p : Int} {h : Hd} (hf : fitF e p h = true) : h.proto = p := by
  unfold fitF at hf
  by_cases h1 : h.proto = p
  · exact h1
  · rw [if_pos (by simpa using h1)] at hf; cases hf
theorem rwE_err {l : List Int} {h : Hd} (hE : errF l ≠ 0) : rwE l h = errF l ∧ rwF l h = [] := by
  have h1 : rwE l h = errF l := by unfold rwE; rw [if_neg (by simpa using hE)]
  exact ⟨h1, by unfold rwF; rw [h1, if_neg (by simpa using hE)]⟩
theorem rwE_bad {l : List Int} {h : Hd} (hE : errF l = 0) (hf : fitF (gt l 20 == 8) (gt l 9) h = false) : rwE l h = 1 ∧ rwF l h = [] := by
  have h1 : rwE l h = 1 := by unfold rwE; rw [if_pos (by simpa using hE), hf]; rfl
  exact ⟨h1, by unfold rwF; rw [h1]; rfl⟩
theorem rwE_ok {l : List Int} {h : Hd} (hE : errF l = 0) (hf : fitF (gt l 20 == 8) (gt l 9) h = true) : rwE l h = 0 ∧ rwF l h = rwB l h := by
  have h1 : rwE l h = 0 := by unfold rwE; rw [if_pos (by simpa using hE), hf]; rfl
  exact ⟨h1, by unfold rwF; rw [h1]; rfl⟩
/-- what a valid packet's length allows -/
theorem errF_len {l : List Int} (hE : errF l = 0) : 20 ≤ l.length ∧ l.length ≤ 576 ∧ sumAtF (gt l 9) + 2 ≤ l.length ∧ (gt l 9 = 6 ∨ gt l 9 = 17 ∨ gt l 9 = 1 → 28 ≤ l.length) := by
  obtain ⟨h20, h576, -, -, -, -, hB, -⟩ := errF_ok.1 hE
  obtain ⟨b6, b17, b1⟩ := bodyR_len hB
  refine ⟨h20, h576, ?_, ?_⟩
  · unfold sumAtF
    rcases proto_cases (gt l 9) with hp | hp | hp | ⟨q1, q2, q3⟩
    · have := b6 hp; rw [hp, if_pos b66]; omega
    · have := b17 hp; rw [hp, if_neg (by decide), if_pos b1717]; omega
    · have := b1 hp; rw [hp, if_neg (by decide), if_neg (by decide), if_pos b11]; omega
    · rw [q1, q2, q3]; simp; omega
  · rintro (hp | hp | hp)
    · have := b6 hp; omega
    · have := b17 hp; omega
    · have := b1 hp; omega
set_option maxHeartbeats 8000000 in
theorem rewrite_any {v : Value} {l : List Int} (h : Hd) (w : World) (hw0 : IsB w v l) (hb : BOk l) (hl : l.length ≤ 140737488355328) (hh : h.ok) :
    Calls Tryd.prog 42 #[v, hv h] w (EncPost (rwE l h) (rwF l h) w) := by
  have hdec := fun w hv => decode_any (v := v) (l := l) w hv hb hl
  by_cases hE : errF l = 0
  case neg =>
    obtain ⟨HE, HF⟩ := rwE_err (h := h) hE
    rw [HE, HF]
    clear HE HF
    have hO := own_start [] w
    obtain ⟨k, hk⟩ : ∃ k, errF l = k := ⟨_, rfl⟩
    have q : (k != 0) = true := by rw [← hk]; simpa using hE
    have hd := fun w hv => (hdec w hv).mono fun e w' h => dec_at h (decF_err hE) hk
    rw [hk]
    clear hdec hb hk hE
    go_enter Tryd.func42, Tryd.ntmps42
    go_wp2_with (first | ((with_reducible refine is_load ?_); (first | (refine own_ldP hO (h := ?_)) | (refine own_ld (h := ?_)))) | ((with_reducible refine is_store ?_); (first | (refine own_stRp (hO := hO) (h := ?_); clear hO; intro wv hO) | (refine own_st1p (hO := hO) (h := ?_); clear hO; intro wv hO) | (refine own_stR (hO := hO) (h := ?_); clear hO; intro wv hO) | (refine own_st1 (hO := hO) (h := ?_); clear hO; intro wv hO))) | ((with_reducible refine is_box ?_); (first | (refine own_bx (o := ⟨some 3, _, _, _, _, _⟩) (hO := hO) (h := ?_); clear hO; intro n3 wv hO))) | ((with_reducible refine is_alloc ?_); (first | (refine own_al (o := ⟨some 6, _, _, _, _, _⟩) (hO := hO) (h := ?_); clear hO; intro n6 wv hO))) | ((with_reducible refine is_append ?_); (first | (refine own_ap (o := ⟨some 23, _, _, _, _, _⟩) (hO := hO) (h := ?_); clear hO; intro g23 c23 wv hO))) | (go_at_call 28; (refine (hd _ (IsCells.below hw0 hO.keep.below)).mono ?_); rintro e wv ⟨v1, rfl, hv1, hn1, hb1⟩; replace hO := hO.call hb1; clear hb1; obtain ⟨a1, k1, rfl, -⟩ := IsCells.view hv1; clear hv1 hn1) | ((with_reducible refine is_load ?_); (refine own_ldW (hO := hO) (h := ?_))) | ((with_reducible refine is_store ?_); (refine own_stW (hO := hO) (h := ?_); clear hO; intro wv hO)))
    go_ret2
    exact enc_nil hO.keep.below
  obtain ⟨h20, h576, hsa, hu⟩ := errF_len hE
  have hfe := fit_echo hE h
  obtain ⟨⟨⟨s, d, p, sp, dp⟩, t, f, pl⟩, hK⟩ : ∃ K, decOk l = K := ⟨_, rfl⟩
  have e1 : gt l 9 = p := congrArg (fun k => k.h.proto) hK
  have e3 : dpF l = dp := congrArg (fun k => k.h.dport) hK
  have hd := fun w hv => (hdec w hv).mono fun e w' h => dec_at h ((decF_ok hE).trans hK) hE
  have hft := fun w => fits_any ⟨s, d, p, sp, dp⟩ h w
  dsimp only at hft
  rw [e3] at hfe
  rw [show fitF (dp == 8) p h = fitF (gt l 20 == 8) (gt l 9) h by rw [← hfe, e1]] at hft
  cases hf : fitF (gt l 20 == 8) (gt l 9) h
  · obtain ⟨HE, HF⟩ := rwE_bad hE hf
    rw [HE, HF]
    have hO := own_start [] w
    rw [hf] at hft
    clear HE HF hdec hb hK hE e1 e3 hfe hf hsa hu
    go_enter Tryd.func42, Tryd.ntmps42
    go_wp2_with (first | ((with_reducible refine is_load ?_); (first | (refine own_ldP hO (h := ?_)) | (refine own_ld (h := ?_)))) | ((with_reducible refine is_store ?_); (first | (refine own_stRp (hO := hO) (h := ?_); clear hO; intro wv hO) | (refine own_st1p (hO := hO) (h := ?_); clear hO; intro wv hO) | (refine own_stR (hO := hO) (h := ?_); clear hO; intro wv hO) | (refine own_st1 (hO := hO) (h := ?_); clear hO; intro wv hO))) | ((with_reducible refine is_box ?_); (first | (refine own_bx (o := ⟨some 3, _, _, _, _, _⟩) (hO := hO) (h := ?_); clear hO; intro n3 wv hO))) | ((with_reducible refine is_alloc ?_); (first | (refine own_al (o := ⟨some 6, _, _, _, _, _⟩) (hO := hO) (h := ?_); clear hO; intro n6 wv hO))) | ((with_reducible refine is_append ?_); (first | (refine own_ap (o := ⟨some 23, _, _, _, _, _⟩) (hO := hO) (h := ?_); clear hO; intro g23 c23 wv hO))) | (go_at_call 28; (refine (hd _ (IsCells.below hw0 hO.keep.below)).mono ?_); rintro e wv ⟨v1, rfl, hv1, hn1, hb1⟩; replace hO := hO.call hb1; clear hb1; obtain ⟨a1, k1, rfl, -⟩ := IsCells.view hv1; clear hv1 hn1) | (go_at_call 64; refine (hft _).mono ?_; rintro e wv ⟨rfl, hb⟩; replace hO := hO.call hb; clear hb) | ((with_reducible refine is_load ?_); (refine own_ldW (hO := hO) (h := ?_))) | ((with_reducible refine is_store ?_); (refine own_stW (hO := hO) (h := ?_); clear hO; intro wv hO)))
    go_ret2
    exact enc_nil hO.keep.below
  · obtain ⟨HE, HF⟩ := rwE_ok hE hf
    rw [HE, HF]
    rw [hf] at hft
    have hpp := fit_proto hf
    obtain ⟨g, o, c, rfl, hc, hO⟩ := hw0.pos (by omega)
    replace hO := hO.nilRow 5 1
    have h4 := fun v w hw => putHeader_any (v := v) (l := l) h w hw h20 (by omega) hh (fun e => by rw [hpp] at e; have := hu e; omega)
    have hn1 := hdrF_length l h
    have hb1 := hb.hdrF hh
    have hg9 : gt (hdrF l h) 9 = gt l 9 := gt_hdrF (by omega)
    unfold rwB
    rw [← hpp] at hg9 hsa
    obtain ⟨x1, x2, x3, x4, x5⟩ := h
    dsimp only at hg9 hsa hpp
    clear HE HF hdec hb hK hE e1 e3 hfe hf hu hpp
    generalize hdrF l ⟨x1, x2, x3, x4, x5⟩ = L1 at *
    have hs1 := fun v w hw => setSums_any (v := v) (l := L1) w hw hb1 (by omega) (by omega) (by rw [hg9, hn1]; exact hsa)
    have HN1 := Lib.hid hn1
    have HNs := Lib.hid (show (sumsF L1).length = l.length by rw [sumsF_length, hn1])
    cases hq : (x3 == 17)
    · rw [sumsR_ne true (by rw [hg9]; exact hq)]
      clear hn1 hb1 hg9 hsa
      generalize sumsF L1 = L2 at *
      go_enter Tryd.func42, Tryd.ntmps42
      go_wp2_with (first | ((with_reducible refine is_load ?_); (first | (refine own_ldP hO (h := ?_)) | (refine own_ld (h := ?_)))) | ((with_reducible refine is_store ?_); (first | (refine own_stRp (hO := hO) (h := ?_); clear hO; intro wv hO) | (refine own_st1p (hO := hO) (h := ?_); clear hO; intro wv hO) | (refine own_stR (hO := hO) (h := ?_); clear hO; intro wv hO) | (refine own_st1 (hO := hO) (h := ?_); clear hO; intro wv hO))) | ((with_reducible refine is_box ?_); (first | (refine own_bx (o := ⟨some 3, _, _, _, _, _⟩) (hO := hO) (h := ?_); clear hO; intro n3 wv hO))) | ((with_reducible refine is_alloc ?_); (first | (refine own_al (o := ⟨some 6, _, _, _, _, _⟩) (hO := hO) (h := ?_); clear hO; intro n6 wv hO))) | ((with_reducible refine is_append ?_); (first | (refine own_ap (o := ⟨some 23, _, _, _, _, _⟩) (hO := hO) (h := ?_); clear hO; intro g23 c23 wv hO))) | (go_at_call 28; (refine (hd _ (IsCells.below hw0 hO.keep.below)).mono ?_); rintro e wv ⟨v1, rfl, hv1, hn1, hb1⟩; replace hO := hO.call hb1; clear hb1; obtain ⟨a1, k1, rfl, -⟩ := IsCells.view hv1; clear hv1 hn1) | (go_at_call 64; refine (hft _).mono ?_; rintro e wv ⟨rfl, hb⟩; replace hO := hO.call hb; clear hb) | ((with_reducible refine is_append ?_); (refine own_appendP (o := ⟨some 23, _, _, _, _, _⟩) hO rfl rfl slice_u8 rfl rfl (src_of_cells (IsCells.below hw0 hO.keep.below) (by simp [bc_length]; try omega)) (bc_one _) (fun _ => by repeat (first | exact UpdR.here | apply UpdR.there)) (by first | omega | (simp; omega)) (by unfold maxLen; first | omega | (simp; omega)) (by first | omega | (simp; done) | (simp; omega)) ?_); clear hO; intro g23 c23 wv hO) | (go_at_call 48; simp only [Nat.zero_add, List.nil_append] at hO; refine (h4 _ _ (by unfold OwnsB; exact hO.row _ List.mem_cons_self)).mono ?_; rintro e wv hw; obtain rfl := hw.1; have hw2 := hw.2.2; replace hO := hO.afterRow .here hw.2.1 hw2; clear hw hw2 h4) | (go_at_call 49; refine (hs1 _ _ (by unfold OwnsB; rw [HN1.out]; exact hO.row _ List.mem_cons_self)).mono ?_; rintro e wv hw; obtain rfl := hw.1; have hw2 := hw.2.2; rw [HN1.out] at hw2; replace hO := hO.afterRow .here hw.2.1 hw2; clear hw hw2 hs1) | ((with_reducible refine is_load ?_); (refine own_ldW (hO := hO) (h := ?_))) | ((with_reducible refine is_store ?_); (refine own_stW (hO := hO) (h := ?_); clear hO; intro wv hO)))
      go_ret2
      exact ⟨_, rfl, by rw [HNs.out]; exact hO.newRow List.mem_cons_self, hO.keep.below⟩
    · obtain rfl : x3 = 17 := by simpa using hq
      rw [show sumAtF 17 = 26 from rfl] at hsa
      have hsm := fun v w hw => sumAt_any (v := v) (l := L1) w hw (by omega) (by omega)
      rw [hg9, show sumAtF 17 = 26 from rfl] at hsm
      have hg := fun v w hw => get16_any (v := v) (l := L1) 26 w hw hb1 (by omega) (by omega)
      cases hz : (g16 L1 26 == 0)
      · rw [sumsR_nz true hz]
        generalize g16 L1 26 = z at *
        clear hn1 hb1 hg9 hsa
        generalize sumsF L1 = L2 at *
        go_enter Tryd.func42, Tryd.ntmps42
        go_wp2_with (first | ((with_reducible refine is_load ?_); (first | (refine own_ldP hO (h := ?_)) | (refine own_ld (h := ?_)))) | ((with_reducible refine is_store ?_); (first | (refine own_stRp (hO := hO) (h := ?_); clear hO; intro wv hO) | (refine own_st1p (hO := hO) (h := ?_); clear hO; intro wv hO) | (refine own_stR (hO := hO) (h := ?_); clear hO; intro wv hO) | (refine own_st1 (hO := hO) (h := ?_); clear hO; intro wv hO))) | ((with_reducible refine is_box ?_); (first | (refine own_bx (o := ⟨some 3, _, _, _, _, _⟩) (hO := hO) (h := ?_); clear hO; intro n3 wv hO))) | ((with_reducible refine is_alloc ?_); (first | (refine own_al (o := ⟨some 6, _, _, _, _, _⟩) (hO := hO) (h := ?_); clear hO; intro n6 wv hO))) | ((with_reducible refine is_append ?_); (first | (refine own_ap (o := ⟨some 23, _, _, _, _, _⟩) (hO := hO) (h := ?_); clear hO; intro g23 c23 wv hO))) | (go_at_call 28; (refine (hd _ (IsCells.below hw0 hO.keep.below)).mono ?_); rintro e wv ⟨v1, rfl, hv1, hn1, hb1⟩; replace hO := hO.call hb1; clear hb1; obtain ⟨a1, k1, rfl, -⟩ := IsCells.view hv1; clear hv1 hn1) | (go_at_call 64; refine (hft _).mono ?_; rintro e wv ⟨rfl, hb⟩; replace hO := hO.call hb; clear hb) | ((with_reducible refine is_append ?_); (refine own_appendP (o := ⟨some 23, _, _, _, _, _⟩) hO rfl rfl slice_u8 rfl rfl (src_of_cells (IsCells.below hw0 hO.keep.below) (by simp [bc_length]; try omega)) (bc_one _) (fun _ => by repeat (first | exact UpdR.here | apply UpdR.there)) (by first | omega | (simp; omega)) (by unfold maxLen; first | omega | (simp; omega)) (by first | omega | (simp; done) | (simp; omega)) ?_); clear hO; intro g23 c23 wv hO) | (go_at_call 48; simp only [Nat.zero_add, List.nil_append] at hO; refine (h4 _ _ (by unfold OwnsB; exact hO.row _ List.mem_cons_self)).mono ?_; rintro e wv hw; obtain rfl := hw.1; have hw2 := hw.2.2; replace hO := hO.afterRow .here hw.2.1 hw2; clear hw hw2 h4) | (go_at_call 65; refine (hsm _ _ (show IsB _ _ _ by unfold IsB; rw [HN1.out]; exact hO.rowIs List.mem_cons_self)).mono ?_; rintro e wv ⟨rfl, hb9⟩; replace hO := hO.call hb9; clear hb9 hsm) | (go_at_call 54; refine (hg _ _ (show IsB _ _ _ by unfold IsB; rw [HN1.out]; exact hO.rowIs List.mem_cons_self)).mono ?_; rintro e wv ⟨rfl, hb9⟩; replace hO := hO.call hb9; clear hb9 hg) | (go_at_call 49; refine (hs1 _ _ (by unfold OwnsB; rw [HN1.out]; exact hO.row _ List.mem_cons_self)).mono ?_; rintro e wv hw; obtain rfl := hw.1; have hw2 := hw.2.2; rw [HN1.out] at hw2; replace hO := hO.afterRow .here hw.2.1 hw2; clear hw hw2 hs1) | ((with_reducible refine is_load ?_); (refine own_ldW (hO := hO) (h := ?_))) | ((with_reducible refine is_store ?_); (refine own_stW (hO := hO) (h := ?_); clear hO; intro wv hO)))
        go_ret2
        exact ⟨_, rfl, by rw [HNs.out]; exact hO.newRow List.mem_cons_self, hO.keep.below⟩
      · have hrz := sumsR_z (by rw [hg9]; rfl) hz
        rw [hrz]
        have hs2 := fun v w hw => setHead_any (v := v) (l := L1) w hw hb1 (by omega) (by omega)
        have HNh := Lib.hid (show (hdSum L1).length = l.length by rw [hdSum_length, hn1])
        generalize g16 L1 26 = z at *
        clear hn1 hb1 hg9 hsa hrz hs1 HNs
        generalize hdSum L1 = L2 at *
        go_enter Tryd.func42, Tryd.ntmps42
        go_wp2_with (first | ((with_reducible refine is_load ?_); (first | (refine own_ldP hO (h := ?_)) | (refine own_ld (h := ?_)))) | ((with_reducible refine is_store ?_); (first | (refine own_stRp (hO := hO) (h := ?_); clear hO; intro wv hO) | (refine own_st1p (hO := hO) (h := ?_); clear hO; intro wv hO) | (refine own_stR (hO := hO) (h := ?_); clear hO; intro wv hO) | (refine own_st1 (hO := hO) (h := ?_); clear hO; intro wv hO))) | ((with_reducible refine is_box ?_); (first | (refine own_bx (o := ⟨some 3, _, _, _, _, _⟩) (hO := hO) (h := ?_); clear hO; intro n3 wv hO))) | ((with_reducible refine is_alloc ?_); (first | (refine own_al (o := ⟨some 6, _, _, _, _, _⟩) (hO := hO) (h := ?_); clear hO; intro n6 wv hO))) | ((with_reducible refine is_append ?_); (first | (refine own_ap (o := ⟨some 23, _, _, _, _, _⟩) (hO := hO) (h := ?_); clear hO; intro g23 c23 wv hO))) | (go_at_call 28; (refine (hd _ (IsCells.below hw0 hO.keep.below)).mono ?_); rintro e wv ⟨v1, rfl, hv1, hn1, hb1⟩; replace hO := hO.call hb1; clear hb1; obtain ⟨a1, k1, rfl, -⟩ := IsCells.view hv1; clear hv1 hn1) | (go_at_call 64; refine (hft _).mono ?_; rintro e wv ⟨rfl, hb⟩; replace hO := hO.call hb; clear hb) | ((with_reducible refine is_append ?_); (refine own_appendP (o := ⟨some 23, _, _, _, _, _⟩) hO rfl rfl slice_u8 rfl rfl (src_of_cells (IsCells.below hw0 hO.keep.below) (by simp [bc_length]; try omega)) (bc_one _) (fun _ => by repeat (first | exact UpdR.here | apply UpdR.there)) (by first | omega | (simp; omega)) (by unfold maxLen; first | omega | (simp; omega)) (by first | omega | (simp; done) | (simp; omega)) ?_); clear hO; intro g23 c23 wv hO) | (go_at_call 48; simp only [Nat.zero_add, List.nil_append] at hO; refine (h4 _ _ (by unfold OwnsB; exact hO.row _ List.mem_cons_self)).mono ?_; rintro e wv hw; obtain rfl := hw.1; have hw2 := hw.2.2; replace hO := hO.afterRow .here hw.2.1 hw2; clear hw hw2 h4) | (go_at_call 65; refine (hsm _ _ (show IsB _ _ _ by unfold IsB; rw [HN1.out]; exact hO.rowIs List.mem_cons_self)).mono ?_; rintro e wv ⟨rfl, hb9⟩; replace hO := hO.call hb9; clear hb9 hsm) | (go_at_call 54; refine (hg _ _ (show IsB _ _ _ by unfold IsB; rw [HN1.out]; exact hO.rowIs List.mem_cons_self)).mono ?_; rintro e wv ⟨rfl, hb9⟩; replace hO := hO.call hb9; clear hb9 hg) | (go_at_call 61; refine (hs2 _ _ (by unfold OwnsB; rw [HN1.out]; exact hO.row _ List.mem_cons_self)).mono ?_; rintro e wv hw; obtain rfl := hw.1; have hw2 := hw.2.2; rw [HN1.out] at hw2; replace hO := hO.afterRow .here hw.2.1 hw2; clear hw hw2 hs2) | ((with_reducible refine is_load ?_); (refine own_ldW (hO := hO) (h := ?_))) | ((with_reducible refine is_store ?_); (refine own_stW (hO := hO) (h := ?_); clear hO; intro wv hO)))
        go_ret2
        exact ⟨_, rfl, by rw [HNh.out]; exact hO.newRow List.mem_cons_self, hO.keep.below⟩
set_option maxHeartbeats 8000000 in
theorem rrewrite_any {v : Value} {l : List Int} (h : Hd) (w : World) (hw0 : IsB w v l) (hb : BOk l) (hl : l.length ≤ 140737488355328) (hh : h.ok) :
    Calls Tryd.prog 43 #[v, hv h] w (EncPost (rwE l h) (rwF l h) w) := by
  have hflt := fun w hv => fault_all (v := v) (l := l) w hv hb hl
  by_cases hE : errF l = 0
  case neg =>
    obtain ⟨HE, HF⟩ := rwE_err (h := h) hE
    rw [HE, HF]
    clear HE HF
    have hO := own_start [] w
    have q : (errF l != 0) = true := by simpa using hE
    generalize errF l = k at *
    clear hb hE
    go_enter Tryd.func43, Tryd.ntmps43
    go_wp2_with (first | ((with_reducible refine is_load ?_); (first | (refine own_ldP hO (h := ?_)) | (refine own_ld (h := ?_)))) | ((with_reducible refine is_store ?_); (first | (refine own_stRp (hO := hO) (h := ?_); clear hO; intro wv hO) | (refine own_st1p (hO := hO) (h := ?_); clear hO; intro wv hO) | (refine own_stR (hO := hO) (h := ?_); clear hO; intro wv hO) | (refine own_st1 (hO := hO) (h := ?_); clear hO; intro wv hO))) | ((with_reducible refine is_box ?_); (first | (refine own_bx (o := ⟨some 3, _, _, _, _, _⟩) (hO := hO) (h := ?_); clear hO; intro n3 wv hO))) | ((with_reducible refine is_append ?_); (first | (refine own_ap (o := ⟨some 19, _, _, _, _, _⟩) (hO := hO) (h := ?_); clear hO; intro g19 c19 wv hO))) | (go_at_call 62; refine (hflt _ (IsCells.below hw0 hO.keep.below)).mono ?_; rintro e wv ⟨rfl, hb⟩; replace hO := hO.call hb; clear hb) | ((with_reducible refine is_load ?_); (refine own_ldW (hO := hO) (h := ?_))) | ((with_reducible refine is_store ?_); (refine own_stW (hO := hO) (h := ?_); clear hO; intro wv hO)))
    go_ret2
    exact enc_nil hO.keep.below
  obtain ⟨h20, h576, hsa, hu⟩ := errF_len hE
  rw [hE] at hflt
  have hft := fun w hv => rfits_any (v := v) (l := l) h w hv h20 (by omega) (fun e => hu (.inr (.inr e)))
  cases hf : fitF (gt l 20 == 8) (gt l 9) h
  · obtain ⟨HE, HF⟩ := rwE_bad hE hf
    rw [HE, HF]
    have hO := own_start [] w
    rw [hf] at hft
    clear HE HF hb hE hf hsa hu
    go_enter Tryd.func43, Tryd.ntmps43
    go_wp2_with (first | ((with_reducible refine is_load ?_); (first | (refine own_ldP hO (h := ?_)) | (refine own_ld (h := ?_)))) | ((with_reducible refine is_store ?_); (first | (refine own_stRp (hO := hO) (h := ?_); clear hO; intro wv hO) | (refine own_st1p (hO := hO) (h := ?_); clear hO; intro wv hO) | (refine own_stR (hO := hO) (h := ?_); clear hO; intro wv hO) | (refine own_st1 (hO := hO) (h := ?_); clear hO; intro wv hO))) | ((with_reducible refine is_box ?_); (first | (refine own_bx (o := ⟨some 3, _, _, _, _, _⟩) (hO := hO) (h := ?_); clear hO; intro n3 wv hO))) | ((with_reducible refine is_append ?_); (first | (refine own_ap (o := ⟨some 19, _, _, _, _, _⟩) (hO := hO) (h := ?_); clear hO; intro g19 c19 wv hO))) | (go_at_call 62; refine (hflt _ (IsCells.below hw0 hO.keep.below)).mono ?_; rintro e wv ⟨rfl, hb⟩; replace hO := hO.call hb; clear hb) | (go_at_call 66; refine (hft _ (IsCells.below hw0 hO.keep.below)).mono ?_; rintro e wv ⟨rfl, hb⟩; replace hO := hO.call hb; clear hb) | ((with_reducible refine is_load ?_); (refine own_ldW (hO := hO) (h := ?_))) | ((with_reducible refine is_store ?_); (refine own_stW (hO := hO) (h := ?_); clear hO; intro wv hO)))
    go_ret2
    exact enc_nil hO.keep.below
  · obtain ⟨HE, HF⟩ := rwE_ok hE hf
    rw [HE, HF]
    rw [hf] at hft
    have hpp := fit_proto hf
    obtain ⟨g, o, c, rfl, hc, hO⟩ := hw0.pos (by omega)
    have hn3 := hdrF_length l h
    have hb3 := hb.hdrF hh
    have hg9 : gt (hdrF l h) 9 = gt l 9 := gt_hdrF (by omega)
    have hs1 := fun v w hw => sums_any (v := v) (l := hdrF l h) true w hw hb3 (by omega) (by omega) (by rw [hg9, hn3]; exact hsa)
    unfold rwB
    have hn4 : (sumsR (hdrF l h) true).length = l.length := by
      unfold sumsR
      split
      · rw [hdSum_length, hn3]
      · rw [sumsF_length, hn3]
    unfold hdrF at *
    have hh2 := hh
    obtain ⟨⟨a0, a1⟩, ⟨b0, b1⟩, -⟩ := hh2
    have h1 := fun v w hw => set4_any (v := v) (l := l) 12 h.src w hw (by omega) a0 a1 (by omega)
    have hn1 : (p32 l 12 h.src).length = l.length := p32_length _ _ _
    have h2 := fun v w hw => set4_any (v := v) (l := p32 l 12 h.src) 16 h.dst w hw (by omega) b0 b1 (by omega)
    have hn2 : (p32 (p32 l 12 h.src) 16 h.dst).length = l.length := by rw [p32_length, hn1]
    have h3 := fun v w hw => ports_any (v := v) (l := p32 (p32 l 12 h.src) 16 h.dst) h w hw (by omega) (by omega) hh (fun e => by rw [hpp] at e; have := hu e; omega)
    clear HE HF hb hE hf hu hpp hg9 hsa hb3
    generalize p32 l 12 h.src = L1 at *
    generalize p32 L1 16 h.dst = L2 at *
    generalize portsF L2 h = L3 at *
    generalize sumsR L3 true = L4 at *
    have HN1 := Lib.hid hn1
    have HN2 := Lib.hid hn2
    have HN3 := Lib.hid hn3
    have HN4 := Lib.hid hn4
    clear hn1 hn2 hn3 hn4
    obtain ⟨x1, x2, x3, x4, x5⟩ := h
    go_enter Tryd.func43, Tryd.ntmps43
    go_wp2_with (first | ((with_reducible refine is_load ?_); (first | (refine own_ldP hO (h := ?_)) | (refine own_ld (h := ?_)))) | ((with_reducible refine is_store ?_); (first | (refine own_stRp (hO := hO) (h := ?_); clear hO; intro wv hO) | (refine own_st1p (hO := hO) (h := ?_); clear hO; intro wv hO) | (refine own_stR (hO := hO) (h := ?_); clear hO; intro wv hO) | (refine own_st1 (hO := hO) (h := ?_); clear hO; intro wv hO))) | ((with_reducible refine is_box ?_); (first | (refine own_bx (o := ⟨some 3, _, _, _, _, _⟩) (hO := hO) (h := ?_); clear hO; intro n3 wv hO))) | ((with_reducible refine is_append ?_); (first | (refine own_ap (o := ⟨some 19, _, _, _, _, _⟩) (hO := hO) (h := ?_); clear hO; intro g19 c19 wv hO))) | (go_at_call 62; refine (hflt _ (IsCells.below hw0 hO.keep.below)).mono ?_; rintro e wv ⟨rfl, hb⟩; replace hO := hO.call hb; clear hb) | (go_at_call 66; refine (hft _ (IsCells.below hw0 hO.keep.below)).mono ?_; rintro e wv ⟨rfl, hb⟩; replace hO := hO.call hb; clear hb) | ((with_reducible refine is_build ?_); (refine own_build0 (o := ⟨some 17, _, _, _, _, _⟩) hO (by rfl) rfl slice_u8 ?_); clear hO; intro n17 wv hO) | ((with_reducible refine is_append ?_); (refine own_appendP (o := ⟨some 19, _, _, _, _, _⟩) hO rfl rfl slice_u8 rfl rfl (src_of_cells (IsCells.below hw0 hO.keep.below) (by simp [bc_length]; try omega)) (bc_one _) (fun _ => by repeat (first | exact UpdR.here | apply UpdR.there)) (by first | omega | (simp; omega)) (by unfold maxLen; first | omega | (simp; omega)) (by first | omega | (simp; done) | (simp; omega)) ?_); clear hO; intro g19 c19 wv hO) | (go_at_call 51; simp only [Nat.zero_add, List.nil_append] at hO; refine (h1 _ _ (by unfold OwnsB; exact hO.row _ List.mem_cons_self)).mono ?_; rintro e wv hw; obtain rfl := hw.1; have hw2 := hw.2.2; replace hO := hO.afterRow .here hw.2.1 hw2; clear hw hw2 h1) | (go_at_call 51; refine (h2 _ _ (by unfold OwnsB; rw [HN1.out]; exact hO.row _ List.mem_cons_self)).mono ?_; rintro e wv hw; obtain rfl := hw.1; have hw2 := hw.2.2; rw [HN1.out] at hw2; replace hO := hO.afterRow .here hw.2.1 hw2; clear hw hw2 h2) | (go_at_call 52; refine (h3 _ _ (by unfold OwnsB; rw [HN2.out]; exact hO.row _ List.mem_cons_self)).mono ?_; rintro e wv hw; obtain rfl := hw.1; have hw2 := hw.2.2; rw [HN2.out] at hw2; replace hO := hO.afterRow .here hw.2.1 hw2; clear hw hw2 h3) | (go_at_call 53; refine (hs1 _ _ (by unfold OwnsB; rw [HN3.out]; exact hO.row _ List.mem_cons_self)).mono ?_; rintro e wv hw; obtain rfl := hw.1; have hw2 := hw.2.2; rw [HN3.out] at hw2; replace hO := hO.afterRow .here hw.2.1 hw2; clear hw hw2 hs1) | ((with_reducible refine is_load ?_); (refine own_ldW (hO := hO) (h := ?_))) | ((with_reducible refine is_store ?_); (refine own_stW (hO := hO) (h := ?_); clear hO; intro wv hO)))
    go_ret2
    exact ⟨_, rfl, by rw [HN4.out]; exact hO.newRow List.mem_cons_self, hO.keep.below⟩
end Go.Proofs.YtjfiipbjphabeaaDoor

/- Answer. -/
namespace Go.Proofs.YtjfiipbjphabeaaDoor
open Go.RowKit
set_option maxRecDepth 100000

theorem and_i64 {a b : Nat} (ha : a < 9223372036854775808) (hb : b < 9223372036854775808) : bits BinOp.and IntKind.i64 (a : Int) (b : Int) = ((a &&& b : Nat) : Int) := by
  have hx : a &&& b ≤ a := Nat.and_le_left
  show IntKind.i64.wrap ((BitVec.ofInt 64 (a : Int) &&& BitVec.ofInt 64 (b : Int)).toNat : Int) = _
  rw [BitVec.toNat_and, ofInt_u64 a (by omega), ofInt_u64 b (by omega), IntKind.wrap_i64]
  omega
theorem flag_bd {x : Int} (h0 : 0 ≤ x) (h1 : x ≤ 255) : 0 ≤ bits BinOp.and IntKind.i64 x 23 ∧ bits BinOp.and IntKind.i64 x 23 ≤ 23 := by
  obtain ⟨n, rfl⟩ := Int.eq_ofNat_of_zero_le h0
  have := and_i64 (a := n) (b := 23) (by omega) (by omega)
  rw [show ((23 : Nat) : Int) = 23 from rfl] at this
  rw [this]
  have h2 : n &&& 23 ≤ 23 := Nat.and_le_right
  omega
theorem syn_cases {f : Int} (h0 : 0 ≤ f) (h1 : f ≤ 23) : bits BinOp.and IntKind.i64 f 2 = 0 ∨ bits BinOp.and IntKind.i64 f 2 = 2 := by
  obtain ⟨n, rfl⟩ := Int.eq_ofNat_of_zero_le h0
  have := and_i64 (a := n) (b := 2) (by omega) (by omega)
  rw [show ((2 : Nat) : Int) = 2 from rfl] at this
  rw [this]
  have h2 : ∀ n, n < 24 → n &&& 2 = 0 ∨ n &&& 2 = 2 := by decide
  have := h2 n (by omega)
  omega
theorem dec_h {l : List Int} (hb : BOk l) (hE : errF l = 0) : (decOk l).h.ok ∧ 0 ≤ (decOk l).f ∧ (decOk l).f ≤ 23 ∧ 0 ≤ (decOk l).t ∧ (decOk l).t ≤ 255 ∧ BOk (decOk l).pl ∧ (decOk l).pl.length ≤ 576 := by
  obtain ⟨h20, h576, -⟩ := errF_ok.1 hE
  refine ⟨⟨g32_bd hb 12, g32_bd hb 16, gt_bd hb 9, ?_, ?_⟩, ?_, ?_, (gt_bd hb 8).1, (gt_bd hb 8).2, hb.drop _, ?_⟩
  · show 0 ≤ spF l ∧ spF l ≤ 65535
    have h1 := g16_bd hb 20
    have h2 := g16_bd hb 24
    unfold spF
    repeat' split
    all_goals omega
  · show 0 ≤ dpF l ∧ dpF l ≤ 65535
    have h1 := g16_bd hb 22
    have h2 := g16_bd hb 24
    unfold dpF
    repeat' split
    all_goals omega
  · show 0 ≤ flF l
    unfold flF
    split
    · exact (flag_bd (gt_bd hb 33).1 (gt_bd hb 33).2).1
    · omega
  · show flF l ≤ 23
    unfold flF
    split
    · exact (flag_bd (gt_bd hb 33).1 (gt_bd hb 33).2).2
    · omega
  · show (l.drop (fromF l)).length ≤ 576
    simp; omega
theorem ansE_err {l : List Int} (hE : errF l ≠ 0) : ansE l = errF l ∧ ansF l = [] := ⟨by unfold ansE; rw [if_neg (by simpa using hE)], by unfold ansF; rw [if_neg (by simpa using hE)]⟩
theorem ansE_ok {l : List Int} (hE : errF l = 0) : ansE l = encE (ansP l) ∧ ansF l = encF (ansP l) := ⟨by unfold ansE; rw [if_pos (by simpa using hE)], by unfold ansF; rw [if_pos (by simpa using hE)]⟩
theorem rev_ok {h : Hd} (k : h.ok) : (revH h).ok := ⟨k.2.1, k.1, k.2.2.1, k.2.2.2.2, k.2.2.2.1⟩
theorem row_from {w : World} {B B' size k : Nat} {v : Value} {xs : List Value} {e : TypeId} (h : w.ownsRow B e size v k xs) (hB : B' ≤ B) : w.ownsRow B' e size v k xs :=
  ⟨h.1, h.2.imp id fun ⟨g, cap, cur, h1, h2, h3⟩ => ⟨g, cap, cur, h1, Nat.le_trans hB h2, h3⟩⟩
theorem bok_nil : BOk [] := fun x hx => by cases hx
set_option maxHeartbeats 2000000 in
theorem answer_any {v : Value} {l : List Int} (w : World) (hw0 : IsB w v l) (hb : BOk l) (hl : l.length ≤ 140737488355328) :
    Calls Tryd.prog 34 #[v] w (EncPost (ansE l) (ansF l) w) := by
  have hdec := fun w hv => decode_any (v := v) (l := l) w hv hb hl
  by_cases hE : errF l = 0
  case neg =>
    obtain ⟨HE, HF⟩ := ansE_err hE
    rw [HE, HF]
    clear HE HF
    have hO := own_start [] w
    obtain ⟨k, hk⟩ : ∃ k, errF l = k := ⟨_, rfl⟩
    have q : (k != 0) = true := by rw [← hk]; simpa using hE
    have hd := fun w hv => (hdec w hv).mono fun e w' h => dec_at h (decF_err hE) hk
    rw [hk]
    clear hdec hb hk hE
    go_enter Tryd.func34, Tryd.ntmps34
    go_wp2_with (first | ((with_reducible refine is_load ?_); (first | (refine own_ldP hO (h := ?_)) | (refine own_ld (h := ?_)))) | ((with_reducible refine is_store ?_); (first | (refine own_stRp (hO := hO) (h := ?_); clear hO; intro wv hO) | (refine own_st1p (hO := hO) (h := ?_); clear hO; intro wv hO) | (refine own_stR (hO := hO) (h := ?_); clear hO; intro wv hO) | (refine own_st1 (hO := hO) (h := ?_); clear hO; intro wv hO))) | ((with_reducible refine is_alloc ?_); (first | (refine own_al (o := ⟨some 4, _, _, _, _, _⟩) (hO := hO) (h := ?_); clear hO; intro n4 wv hO) | (refine own_al (o := ⟨some 6, _, _, _, _, _⟩) (hO := hO) (h := ?_); clear hO; intro n6 wv hO))) | (go_at_call 28; (refine (hd _ (IsCells.below hw0 hO.keep.below)).mono ?_); rintro e wv ⟨v1, rfl, hv1, hn1, hb1⟩; replace hO := hO.call hb1; clear hb1; obtain ⟨a1, k1, rfl, -⟩ := IsCells.view hv1; clear hv1 hn1) | ((with_reducible refine is_load ?_); (refine own_ldW (hO := hO) (h := ?_))) | ((with_reducible refine is_store ?_); (refine own_stW (hO := hO) (h := ?_); clear hO; intro wv hO)))
    go_ret2
    exact enc_nil hO.keep.below
  obtain ⟨HE, HF⟩ := ansE_ok hE
  rw [HE, HF]
  clear HE HF
  obtain ⟨ko, f0, f1, -⟩ := dec_h hb hE
  obtain ⟨⟨⟨s, d, p, sp, dp⟩, t, f, pl⟩, hK⟩ : ∃ K, decOk l = K := ⟨_, rfl⟩
  rw [hK] at ko f0 f1
  have e1 : gt l 9 = p := congrArg (fun k => k.h.proto) hK
  have e2 : flF l = f := congrArg (fun k => k.f) hK
  have hd := fun w hv => (hdec w hv).mono fun e w' h => dec_at h ((decF_ok hE).trans hK) hE
  have hA : ansP l = ⟨⟨d, s, p, dp, sp⟩, 64, if p == 6 then (if bits BinOp.and IntKind.i64 f 2 != 0 then 18 else 16) else 0, []⟩ := by unfold ansP; rw [hK, e1, e2]; rfl
  have hsy := syn_cases f0 f1
  rw [hA]
  dsimp only at f0 f1
  clear hA e1 e2 hK hdec hE hb
  have hO := own_start [] w
  have ho := rev_ok ko
  have hrv : ∀ w, Calls Tryd.prog 16 #[hv ⟨s, d, p, sp, dp⟩] w fun e w' => e = .returned (hv ⟨d, s, p, dp, sp⟩) ∧ Below w.heap.size w w' := fun w => reverse_any ⟨s, d, p, sp, dp⟩ w
  cases hp : (p == 6)
  · have hen := fun w => encode_any d s p dp sp 64 0 [] (.slice none 0 0) w ⟨ho, by dsimp only; omega, by dsimp only; omega, bok_nil, by dsimp only; omega, by dsimp only; omega⟩ (isB_nil w) (by simp)
    rw [if_neg Bool.false_ne_true]
    generalize encE ⟨⟨d, s, p, dp, sp⟩, 64, 0, []⟩ = ke at *
    generalize encF ⟨⟨d, s, p, dp, sp⟩, 64, 0, []⟩ = kf at *
    clear hsy ho ko
    go_enter Tryd.func34, Tryd.ntmps34
    go_wp2_with (first | ((with_reducible refine is_load ?_); (first | (refine own_ldP hO (h := ?_)) | (refine own_ld (h := ?_)))) | ((with_reducible refine is_store ?_); (first | (refine own_stRp (hO := hO) (h := ?_); clear hO; intro wv hO) | (refine own_st1p (hO := hO) (h := ?_); clear hO; intro wv hO) | (refine own_stR (hO := hO) (h := ?_); clear hO; intro wv hO) | (refine own_st1 (hO := hO) (h := ?_); clear hO; intro wv hO))) | ((with_reducible refine is_alloc ?_); (first | (refine own_al (o := ⟨some 4, _, _, _, _, _⟩) (hO := hO) (h := ?_); clear hO; intro n4 wv hO) | (refine own_al (o := ⟨some 6, _, _, _, _, _⟩) (hO := hO) (h := ?_); clear hO; intro n6 wv hO))) | (go_at_call 28; (refine (hd _ (IsCells.below hw0 hO.keep.below)).mono ?_); rintro e wv ⟨v1, rfl, hv1, hn1, hb1⟩; replace hO := hO.call hb1; clear hb1; obtain ⟨a1, k1, rfl, -⟩ := IsCells.view hv1; clear hv1 hn1) | (go_at_call 16; refine (hrv _).mono ?_; rintro e wv ⟨rfl, hb⟩; replace hO := hO.call hb; clear hb) | (go_at_call 26; refine (hen _).mono ?_; rintro e wv ⟨v2, rfl, hrow, hb2⟩; have hbase := hO.keep.size; replace hO := hO.call hb2; clear hb2) | ((with_reducible refine is_load ?_); (refine own_ldW (hO := hO) (h := ?_))) | ((with_reducible refine is_store ?_); (refine own_stW (hO := hO) (h := ?_); clear hO; intro wv hO)))
    go_ret2
    exact ⟨_, rfl, row_from hrow hbase, hO.keep.below⟩
  · obtain rfl : p = 6 := by simpa using hp
    rw [if_pos rfl]
    obtain ⟨y, hy⟩ : ∃ y, bits BinOp.and IntKind.i64 f 2 = y := ⟨_, rfl⟩
    rw [hy] at hsy ⊢
    rcases hsy with rfl | rfl
    · have hen := fun w => encode_any d s 6 dp sp 64 16 [] (.slice none 0 0) w ⟨ho, by dsimp only; omega, by dsimp only; omega, bok_nil, by dsimp only; omega, by dsimp only; omega⟩ (isB_nil w) (by simp)
      have o1 : bits BinOp.or IntKind.i64 16 0 = 16 := by decide
      rw [if_neg (by decide)]
      generalize encE ⟨⟨d, s, 6, dp, sp⟩, 64, 16, []⟩ = ke at *
      generalize encF ⟨⟨d, s, 6, dp, sp⟩, 64, 16, []⟩ = kf at *
      clear ho ko
      go_enter Tryd.func34, Tryd.ntmps34
      go_wp2_with (first | ((with_reducible refine is_load ?_); (first | (refine own_ldP hO (h := ?_)) | (refine own_ld (h := ?_)))) | ((with_reducible refine is_store ?_); (first | (refine own_stRp (hO := hO) (h := ?_); clear hO; intro wv hO) | (refine own_st1p (hO := hO) (h := ?_); clear hO; intro wv hO) | (refine own_stR (hO := hO) (h := ?_); clear hO; intro wv hO) | (refine own_st1 (hO := hO) (h := ?_); clear hO; intro wv hO))) | ((with_reducible refine is_alloc ?_); (first | (refine own_al (o := ⟨some 4, _, _, _, _, _⟩) (hO := hO) (h := ?_); clear hO; intro n4 wv hO) | (refine own_al (o := ⟨some 6, _, _, _, _, _⟩) (hO := hO) (h := ?_); clear hO; intro n6 wv hO))) | (go_at_call 28; (refine (hd _ (IsCells.below hw0 hO.keep.below)).mono ?_); rintro e wv ⟨v1, rfl, hv1, hn1, hb1⟩; replace hO := hO.call hb1; clear hb1; obtain ⟨a1, k1, rfl, -⟩ := IsCells.view hv1; clear hv1 hn1) | (go_at_call 16; refine (hrv _).mono ?_; rintro e wv ⟨rfl, hb⟩; replace hO := hO.call hb; clear hb) | (go_at_call 26; refine (hen _).mono ?_; rintro e wv ⟨v2, rfl, hrow, hb2⟩; have hbase := hO.keep.size; replace hO := hO.call hb2; clear hb2) | ((with_reducible refine is_load ?_); (refine own_ldW (hO := hO) (h := ?_))) | ((with_reducible refine is_store ?_); (refine own_stW (hO := hO) (h := ?_); clear hO; intro wv hO)))
      go_ret2
      exact ⟨_, rfl, row_from hrow hbase, hO.keep.below⟩
    · have hen := fun w => encode_any d s 6 dp sp 64 18 [] (.slice none 0 0) w ⟨ho, by dsimp only; omega, by dsimp only; omega, bok_nil, by dsimp only; omega, by dsimp only; omega⟩ (isB_nil w) (by simp)
      have o1 : bits BinOp.or IntKind.i64 16 2 = 18 := by decide
      rw [if_pos (by decide)]
      generalize encE ⟨⟨d, s, 6, dp, sp⟩, 64, 18, []⟩ = ke at *
      generalize encF ⟨⟨d, s, 6, dp, sp⟩, 64, 18, []⟩ = kf at *
      clear ho ko
      go_enter Tryd.func34, Tryd.ntmps34
      go_wp2_with (first | ((with_reducible refine is_load ?_); (first | (refine own_ldP hO (h := ?_)) | (refine own_ld (h := ?_)))) | ((with_reducible refine is_store ?_); (first | (refine own_stRp (hO := hO) (h := ?_); clear hO; intro wv hO) | (refine own_st1p (hO := hO) (h := ?_); clear hO; intro wv hO) | (refine own_stR (hO := hO) (h := ?_); clear hO; intro wv hO) | (refine own_st1 (hO := hO) (h := ?_); clear hO; intro wv hO))) | ((with_reducible refine is_alloc ?_); (first | (refine own_al (o := ⟨some 4, _, _, _, _, _⟩) (hO := hO) (h := ?_); clear hO; intro n4 wv hO) | (refine own_al (o := ⟨some 6, _, _, _, _, _⟩) (hO := hO) (h := ?_); clear hO; intro n6 wv hO))) | (go_at_call 28; (refine (hd _ (IsCells.below hw0 hO.keep.below)).mono ?_); rintro e wv ⟨v1, rfl, hv1, hn1, hb1⟩; replace hO := hO.call hb1; clear hb1; obtain ⟨a1, k1, rfl, -⟩ := IsCells.view hv1; clear hv1 hn1) | (go_at_call 16; refine (hrv _).mono ?_; rintro e wv ⟨rfl, hb⟩; replace hO := hO.call hb; clear hb) | (go_at_call 26; refine (hen _).mono ?_; rintro e wv ⟨v2, rfl, hrow, hb2⟩; have hbase := hO.keep.size; replace hO := hO.call hb2; clear hb2) | ((with_reducible refine is_load ?_); (refine own_ldW (hO := hO) (h := ?_))) | ((with_reducible refine is_store ?_); (refine own_stW (hO := hO) (h := ?_); clear hO; intro wv hO)))
      go_ret2
      exact ⟨_, rfl, row_from hrow hbase, hO.keep.below⟩
set_option maxHeartbeats 2000000 in
theorem ranswer_any {v : Value} {l : List Int} (w : World) (hw0 : IsB w v l) (hb : BOk l) (hl : l.length ≤ 140737488355328) :
    Calls Tryd.prog 36 #[v] w (EncPost (ansE l) (ansF l) w) := by
  have hdec := fun w hv => rdecode_any (v := v) (l := l) w hv hb hl
  by_cases hE : errF l = 0
  case neg =>
    obtain ⟨HE, HF⟩ := ansE_err hE
    rw [HE, HF]
    clear HE HF
    have hO := own_start [] w
    obtain ⟨k, hk⟩ : ∃ k, errF l = k := ⟨_, rfl⟩
    have q : (k != 0) = true := by rw [← hk]; simpa using hE
    have hd := fun w hv => (hdec w hv).mono fun e w' h => dec_at h (decF_err hE) hk
    rw [hk]
    clear hdec hb hk hE
    go_enter Tryd.func36, Tryd.ntmps36
    go_wp2_with (first | ((with_reducible refine is_load ?_); (first | (refine own_ldP hO (h := ?_)) | (refine own_ld (h := ?_)))) | ((with_reducible refine is_store ?_); (first | (refine own_stRp (hO := hO) (h := ?_); clear hO; intro wv hO) | (refine own_st1p (hO := hO) (h := ?_); clear hO; intro wv hO) | (refine own_stR (hO := hO) (h := ?_); clear hO; intro wv hO) | (refine own_st1 (hO := hO) (h := ?_); clear hO; intro wv hO))) | ((with_reducible refine is_alloc ?_); (first | (refine own_al (o := ⟨some 4, _, _, _, _, _⟩) (hO := hO) (h := ?_); clear hO; intro n4 wv hO) | (refine own_al (o := ⟨some 6, _, _, _, _, _⟩) (hO := hO) (h := ?_); clear hO; intro n6 wv hO))) | (go_at_call 41; (refine (hd _ (IsCells.below hw0 hO.keep.below)).mono ?_); rintro e wv ⟨v1, rfl, hv1, hn1, hb1⟩; replace hO := hO.call hb1; clear hb1; obtain ⟨a1, k1, rfl, -⟩ := IsCells.view hv1; clear hv1 hn1) | ((with_reducible refine is_load ?_); (refine own_ldW (hO := hO) (h := ?_))) | ((with_reducible refine is_store ?_); (refine own_stW (hO := hO) (h := ?_); clear hO; intro wv hO)))
    go_ret2
    exact enc_nil hO.keep.below
  obtain ⟨HE, HF⟩ := ansE_ok hE
  rw [HE, HF]
  clear HE HF
  obtain ⟨ko, f0, f1, -⟩ := dec_h hb hE
  obtain ⟨⟨⟨s, d, p, sp, dp⟩, t, f, pl⟩, hK⟩ : ∃ K, decOk l = K := ⟨_, rfl⟩
  rw [hK] at ko f0 f1
  have e1 : gt l 9 = p := congrArg (fun k => k.h.proto) hK
  have e2 : flF l = f := congrArg (fun k => k.f) hK
  have hd := fun w hv => (hdec w hv).mono fun e w' h => dec_at h ((decF_ok hE).trans hK) hE
  have hA : ansP l = ⟨⟨d, s, p, dp, sp⟩, 64, if p == 6 then (if bits BinOp.and IntKind.i64 f 2 != 0 then 18 else 16) else 0, []⟩ := by unfold ansP; rw [hK, e1, e2]; rfl
  have hsy := syn_cases f0 f1
  rw [hA]
  dsimp only at f0 f1
  clear hA e1 e2 hK hdec hE hb
  have hO := own_start [] w
  have ho := rev_ok ko
  have hrv : ∀ w, Calls Tryd.prog 17 #[hv ⟨s, d, p, sp, dp⟩] w fun e w' => e = .returned (hv ⟨d, s, p, dp, sp⟩) ∧ Below w.heap.size w w' := fun w => rreverse_any ⟨s, d, p, sp, dp⟩ w
  cases hp : (p == 6)
  · have hen := fun w => rencode_any d s p dp sp 64 0 [] (.slice none 0 0) w ⟨ho, by dsimp only; omega, by dsimp only; omega, bok_nil, by dsimp only; omega, by dsimp only; omega⟩ (isB_nil w) (by simp)
    rw [if_neg Bool.false_ne_true]
    generalize encE ⟨⟨d, s, p, dp, sp⟩, 64, 0, []⟩ = ke at *
    generalize encF ⟨⟨d, s, p, dp, sp⟩, 64, 0, []⟩ = kf at *
    clear hsy ho ko
    go_enter Tryd.func36, Tryd.ntmps36
    go_wp2_with (first | ((with_reducible refine is_load ?_); (first | (refine own_ldP hO (h := ?_)) | (refine own_ld (h := ?_)))) | ((with_reducible refine is_store ?_); (first | (refine own_stRp (hO := hO) (h := ?_); clear hO; intro wv hO) | (refine own_st1p (hO := hO) (h := ?_); clear hO; intro wv hO) | (refine own_stR (hO := hO) (h := ?_); clear hO; intro wv hO) | (refine own_st1 (hO := hO) (h := ?_); clear hO; intro wv hO))) | ((with_reducible refine is_alloc ?_); (first | (refine own_al (o := ⟨some 4, _, _, _, _, _⟩) (hO := hO) (h := ?_); clear hO; intro n4 wv hO) | (refine own_al (o := ⟨some 6, _, _, _, _, _⟩) (hO := hO) (h := ?_); clear hO; intro n6 wv hO))) | (go_at_call 41; (refine (hd _ (IsCells.below hw0 hO.keep.below)).mono ?_); rintro e wv ⟨v1, rfl, hv1, hn1, hb1⟩; replace hO := hO.call hb1; clear hb1; obtain ⟨a1, k1, rfl, -⟩ := IsCells.view hv1; clear hv1 hn1) | (go_at_call 17; refine (hrv _).mono ?_; rintro e wv ⟨rfl, hb⟩; replace hO := hO.call hb; clear hb) | (go_at_call 27; refine (hen _).mono ?_; rintro e wv ⟨v2, rfl, hrow, hb2⟩; have hbase := hO.keep.size; replace hO := hO.call hb2; clear hb2) | ((with_reducible refine is_load ?_); (refine own_ldW (hO := hO) (h := ?_))) | ((with_reducible refine is_store ?_); (refine own_stW (hO := hO) (h := ?_); clear hO; intro wv hO)))
    go_ret2
    exact ⟨_, rfl, row_from hrow hbase, hO.keep.below⟩
  · obtain rfl : p = 6 := by simpa using hp
    rw [if_pos rfl]
    obtain ⟨y, hy⟩ : ∃ y, bits BinOp.and IntKind.i64 f 2 = y := ⟨_, rfl⟩
    rw [hy] at hsy ⊢
    rcases hsy with rfl | rfl
    · have hen := fun w => rencode_any d s 6 dp sp 64 16 [] (.slice none 0 0) w ⟨ho, by dsimp only; omega, by dsimp only; omega, bok_nil, by dsimp only; omega, by dsimp only; omega⟩ (isB_nil w) (by simp)
      rw [if_neg (by decide)]
      generalize encE ⟨⟨d, s, 6, dp, sp⟩, 64, 16, []⟩ = ke at *
      generalize encF ⟨⟨d, s, 6, dp, sp⟩, 64, 16, []⟩ = kf at *
      clear ho ko
      go_enter Tryd.func36, Tryd.ntmps36
      go_wp2_with (first | ((with_reducible refine is_load ?_); (first | (refine own_ldP hO (h := ?_)) | (refine own_ld (h := ?_)))) | ((with_reducible refine is_store ?_); (first | (refine own_stRp (hO := hO) (h := ?_); clear hO; intro wv hO) | (refine own_st1p (hO := hO) (h := ?_); clear hO; intro wv hO) | (refine own_stR (hO := hO) (h := ?_); clear hO; intro wv hO) | (refine own_st1 (hO := hO) (h := ?_); clear hO; intro wv hO))) | ((with_reducible refine is_alloc ?_); (first | (refine own_al (o := ⟨some 4, _, _, _, _, _⟩) (hO := hO) (h := ?_); clear hO; intro n4 wv hO) | (refine own_al (o := ⟨some 6, _, _, _, _, _⟩) (hO := hO) (h := ?_); clear hO; intro n6 wv hO))) | (go_at_call 41; (refine (hd _ (IsCells.below hw0 hO.keep.below)).mono ?_); rintro e wv ⟨v1, rfl, hv1, hn1, hb1⟩; replace hO := hO.call hb1; clear hb1; obtain ⟨a1, k1, rfl, -⟩ := IsCells.view hv1; clear hv1 hn1) | (go_at_call 17; refine (hrv _).mono ?_; rintro e wv ⟨rfl, hb⟩; replace hO := hO.call hb; clear hb) | (go_at_call 27; refine (hen _).mono ?_; rintro e wv ⟨v2, rfl, hrow, hb2⟩; have hbase := hO.keep.size; replace hO := hO.call hb2; clear hb2) | ((with_reducible refine is_load ?_); (refine own_ldW (hO := hO) (h := ?_))) | ((with_reducible refine is_store ?_); (refine own_stW (hO := hO) (h := ?_); clear hO; intro wv hO)))
      go_ret2
      exact ⟨_, rfl, row_from hrow hbase, hO.keep.below⟩
    · have hen := fun w => rencode_any d s 6 dp sp 64 18 [] (.slice none 0 0) w ⟨ho, by dsimp only; omega, by dsimp only; omega, bok_nil, by dsimp only; omega, by dsimp only; omega⟩ (isB_nil w) (by simp)
      have o1 : bits BinOp.or IntKind.i64 16 2 = 18 := by decide
      rw [if_pos (by decide)]
      generalize encE ⟨⟨d, s, 6, dp, sp⟩, 64, 18, []⟩ = ke at *
      generalize encF ⟨⟨d, s, 6, dp, sp⟩, 64, 18, []⟩ = kf at *
      clear ho ko
      go_enter Tryd.func36, Tryd.ntmps36
      go_wp2_with (first | ((with_reducible refine is_load ?_); (first | (refine own_ldP hO (h := ?_)) | (refine own_ld (h := ?_)))) | ((with_reducible refine is_store ?_); (first | (refine own_stRp (hO := hO) (h := ?_); clear hO; intro wv hO) | (refine own_st1p (hO := hO) (h := ?_); clear hO; intro wv hO) | (refine own_stR (hO := hO) (h := ?_); clear hO; intro wv hO) | (refine own_st1 (hO := hO) (h := ?_); clear hO; intro wv hO))) | ((with_reducible refine is_alloc ?_); (first | (refine own_al (o := ⟨some 4, _, _, _, _, _⟩) (hO := hO) (h := ?_); clear hO; intro n4 wv hO) | (refine own_al (o := ⟨some 6, _, _, _, _, _⟩) (hO := hO) (h := ?_); clear hO; intro n6 wv hO))) | (go_at_call 41; (refine (hd _ (IsCells.below hw0 hO.keep.below)).mono ?_); rintro e wv ⟨v1, rfl, hv1, hn1, hb1⟩; replace hO := hO.call hb1; clear hb1; obtain ⟨a1, k1, rfl, -⟩ := IsCells.view hv1; clear hv1 hn1) | (go_at_call 17; refine (hrv _).mono ?_; rintro e wv ⟨rfl, hb⟩; replace hO := hO.call hb; clear hb) | (go_at_call 27; refine (hen _).mono ?_; rintro e wv ⟨v2, rfl, hrow, hb2⟩; have hbase := hO.keep.size; replace hO := hO.call hb2; clear hb2) | ((with_reducible refine is_load ?_); (refine own_ldW (hO := hO) (h := ?_))) | ((with_reducible refine is_store ?_); (refine own_stW (hO := hO) (h := ?_); clear hO; intro wv hO)))
      go_ret2
      exact ⟨_, rfl, row_from hrow hbase, hO.keep.below⟩
end Go.Proofs.YtjfiipbjphabeaaDoor

/- Which headers are initial; lists of boxes and their members. -/
namespace Go.Proofs.YtjfiipbjphabeaaDoor
open Go.RowKit
set_option maxRecDepth 100000

set_option maxHeartbeats 2000000 in
theorem isInitial_any (h : Hd) (w : World) : Calls Tryd.prog 33 #[hv h] w fun e w' => e = .returned (.bool (iniF h)) ∧ Below w.heap.size w w' := by
  have hO := own_start [] w
  obtain ⟨s, d, p, sp, dp⟩ := h
  have HE := Lib.hid (show iniF ⟨s, d, p, sp, dp⟩ = if p == 6 then true else if p == 17 then true else if p == 1 then (if dp == 8 then sp != 8 else false) else (if sp == 0 then dp == 0 else false) from rfl)
  go_enter Tryd.func33, Tryd.ntmps33
  (repeat' (first | go_skip | ((first | ((with_reducible apply wp_move_bool); (focus rfl)) | ((with_reducible apply wp_move_boolG); (focus rfl); (focus rfl))); intro cb hcb; (cases cb <;> (first | (with_reducible exact no_tf hcb) | (with_reducible exact no_ft hcb) | skip)); all_goals ((try simp only [Act.put]); (try simp only [List.setIfInBounds_toArray, List.set_cons_zero, List.set_cons_succ]))) | (go_big_may; (first | ((with_reducible refine is_load ?_); (first | (refine own_ld (h := ?_)))) | ((with_reducible refine is_store ?_); (first | (refine own_stR (hO := hO) (h := ?_); clear hO; intro wv hO) | (refine own_st1 (hO := hO) (h := ?_); clear hO; intro wv hO))) | ((with_reducible refine is_box ?_); (first | (refine own_bx (o := ⟨some 1, _, _, _, _, _⟩) (hO := hO) (h := ?_); clear hO; intro n1 wv hO))))) | go_values | go_skip | go_guarded | go_step | go_upon | go_back | (simp only at *; go_simp) | (go_values <;> (try go_simp)) | (go_ite <;> go_prune <;> (try go_simp)) | (split <;> (first | (rename_i hx; exact (hx _ rfl).elim) | go_prune))))
  all_goals
    go_ret
    exact ⟨ret_bool (by rw [HE.out]; (repeat (first | rfl | rw [if_pos (by assumption)] | rw [if_neg (ne_true (by assumption))] | rw [if_pos (Eq.refl true)] | rw [if_neg Bool.false_ne_true]))), hO.keep.below⟩
set_option maxHeartbeats 2000000 in
theorem conLit_any (b : Bx) (h : Hd) (n : Nat) (w : World) (hn : Blk w n (hcs h) 26) (ht : Tops w) (ho : h.ok) :
    Calls Tryd.prog 75 #[bv b, .pointer (some ⟨n, 0, none⟩)] w fun e w' => e = .returned (.bool (hasB b h)) ∧ Below w.heap.size w w' := by
  have hO : Own [] w [] [] [⟨n, 0, hcs h⟩] w := ⟨Keep.refl _ _, fun c hc => (by cases hc), fun r hr => (by cases hr), fun s hs => (by
    obtain rfl := List.mem_singleton.1 hs
    intro j v hj
    rw [Nat.zero_add, hn.cell]; exact hj), by simp [excl], by simp [excl], by simp [excl]⟩
  go_enter Tryd.func75, Tryd.ntmps75
  go_wp2_with (first | ((with_reducible refine is_load ?_); (first | (refine own_ld (h := ?_)))) | ((with_reducible refine is_store ?_); (first | (refine own_stR (hO := hO) (h := ?_); clear hO; intro wv hO) | (refine own_st1 (hO := hO) (h := ?_); clear hO; intro wv hO))) | ((with_reducible refine is_box ?_); (first | (refine own_bx (o := ⟨some 2, _, _, _, _, _⟩) (hO := hO) (h := ?_); clear hO; intro n2 wv hO))) | (go_at_call 76; refine (contains_any _ _ _ (hO.tops ht (by simp)) ho).mono ?_; rintro e wv ⟨rfl, hb⟩; replace hO := hO.call hb; clear hb))
  go_ret
  exact ⟨rfl, hO.keep.below⟩
/-- the function that tells whether a box contains the header of the block n -/
abbrev conLit (n : Nat) : Value := .func (.func 75) #[] #[.pointer (some ⟨n, 0, none⟩)]
theorem any_none {l : List Bx} {h : Hd} {k : Nat} (hk : k < l.length) (h0 : (l.take k).any (fun b => hasB b h) = false) (h1 : hasB l[k] h = false) : (l.take (k + 1)).any (fun b => hasB b h) = false := by
  rw [List.take_succ_eq_append_getElem hk, List.any_append, h0]
  simp [h1]
set_option maxHeartbeats 4000000 in
theorem indexFunc_any {v : Value} {l : List Bx} (h : Hd) (n : Nat) (w : World) (hv0 : IsBoxes w v l) (hn : Blk w n (hcs h) 26) (ht : Tops w) (ho : h.ok) (hl : l.length ≤ 140737488355328) :
    Calls Tryd.prog 84 #[v, conLit n] w fun e w' => ∃ k : Int, e = .returned (.int .i64 k) ∧ (0 ≤ k ↔ (l.any fun b => hasB b h) = true) ∧ Below w.heap.size w w' := by
  have hO := own_arg hv0
  obtain ⟨a, c, rfl, ha⟩ := hv0.view
  clear hv0
  go_enter Tryd.func84, Tryd.ntmps84
  go_wp2_with (first | ((with_reducible refine is_load ?_); (first | (refine own_ld (h := ?_)))) | ((with_reducible refine is_store ?_); (first | (refine own_stR (hO := hO) (h := ?_); clear hO; intro wv hO) | (refine own_st1 (hO := hO) (h := ?_); clear hO; intro wv hO))))
  go_loopw [8] (fun i wr => ∃ k : Nat, k ≤ l.length ∧ i = .int .i64 k ∧ (l.take k).any (fun b => hasB b h) = false ∧ Own [] w [] [] (roS (.slice a l.length c) (cellsB l)) wr) (fun i _ => l.length - (intOf i).toNat)
  case atStart => exact ⟨0, by omega, rfl, rfl, hO⟩
  case round =>
    clear hO
    obtain ⟨k, hk, rfl, h0, hO⟩ := hrel
    by_cases hlt : k < l.length
    · obtain ⟨g, o, rfl⟩ := ha (by omega)
      have hcl := fun w hn ht => conLit_any l[k] h n w hn ht ho
      have H0 := Lib.hid h0
      clear h0
      simp only [roS] at hO
      cases hb : hasB l[k] h <;> rw [hb] at hcl
      · have HB := Lib.hid hb
        clear hb
        go_wp2_with (first | ((with_reducible refine is_load ?_); (first | (refine own_ld (h := ?_)))) | ((with_reducible refine is_store ?_); (first | (refine own_stR (hO := hO) (h := ?_); clear hO; intro wv hO) | (refine own_st1 (hO := hO) (h := ?_); clear hO; intro wv hO))) | (go_at_call 75; refine (hcl _ (hn.below hO.keep.below hn.lt) (hO.tops ht (by simp))).mono ?_; rintro e wv ⟨rfl, hb⟩; replace hO := hO.call hb; clear hb))
        go_roundw
        case rel => exact ⟨k + 1, by omega, by go_num, any_none hlt H0.out HB.out, hO⟩
        case measure => simp [intOf]; omega
      · have HB := Lib.hid (show (l.any fun b => hasB b h) = true from List.any_eq_true.2 ⟨_, List.getElem_mem hlt, hb⟩)
        clear hb
        go_wp2_with (first | ((with_reducible refine is_load ?_); (first | (refine own_ld (h := ?_)))) | ((with_reducible refine is_store ?_); (first | (refine own_stR (hO := hO) (h := ?_); clear hO; intro wv hO) | (refine own_st1 (hO := hO) (h := ?_); clear hO; intro wv hO))) | (go_at_call 75; refine (hcl _ (hn.below hO.keep.below hn.lt) (hO.tops ht (by simp))).mono ?_; rintro e wv ⟨rfl, hb⟩; replace hO := hO.call hb; clear hb))
        go_ret
        exact ⟨k, rfl, ⟨fun _ => HB.out, fun _ => by omega⟩, hO.keep.below⟩
    · obtain rfl : k = l.length := by omega
      rw [List.take_length] at h0
      have H0 := Lib.hid h0
      clear h0
      go_wp2_with (first | ((with_reducible refine is_load ?_); (first | (refine own_ld (h := ?_)))) | ((with_reducible refine is_store ?_); (first | (refine own_stR (hO := hO) (h := ?_); clear hO; intro wv hO) | (refine own_st1 (hO := hO) (h := ?_); clear hO; intro wv hO))))
      go_ret
      exact ⟨-1, rfl, ⟨fun h => absurd h (by decide), fun h => by rw [H0.out] at h; cases h⟩, hO.keep.below⟩
set_option maxHeartbeats 4000000 in
theorem containsFunc_any {v : Value} {l : List Bx} (h : Hd) (n : Nat) (w : World) (hv0 : IsBoxes w v l) (hn : Blk w n (hcs h) 26) (ht : Tops w) (ho : h.ok) (hl : l.length ≤ 140737488355328) :
    Calls Tryd.prog 74 #[v, conLit n] w fun e w' => e = .returned (.bool (l.any fun b => hasB b h)) ∧ Below w.heap.size w w' := by
  have hO := own_start [] w
  have hix := fun w hv hn ht => indexFunc_any (v := v) (l := l) h n w hv hn ht ho hl
  generalize (l.any fun b => hasB b h) = R at *
  go_enter Tryd.func74, Tryd.ntmps74
  go_wp2_with (first | ((with_reducible refine is_load ?_); (first | (refine own_ld (h := ?_)))) | ((with_reducible refine is_store ?_); (first | (refine own_stR (hO := hO) (h := ?_); clear hO; intro wv hO) | (refine own_st1 (hO := hO) (h := ?_); clear hO; intro wv hO))) | (go_at_call 84; refine (hix _ (hv0.keep (keep_of_below hO.keep.below _)) (hn.below hO.keep.below hn.lt) (hO.tops ht (by simp))).mono ?_; rintro e wv ⟨k, rfl, hk, hb2⟩; replace hO := hO.call hb2; clear hb2 hix))
  go_ret
  exact ⟨ret_bool (by
    cases R
    · first | rfl | exact decide_eq_false (fun h => by have := hk.1 h; cases this)
    · first | rfl | exact decide_eq_true (hk.2 rfl)), hO.keep.below⟩
set_option maxHeartbeats 2000000 in
theorem pcontains_any {v : Value} {l : List Bx} (h : Hd) (w : World) (hv0 : IsBoxes w v l) (ht : Tops w) (ho : h.ok) (hl : l.length ≤ 140737488355328) :
    Calls Tryd.prog 59 #[v, hv h] w fun e w' => e = .returned (.bool (l.any fun b => hasB b h)) ∧ Below w.heap.size w w' := by
  have hO := own_start [] w
  have hcf := fun n w hv hn ht => containsFunc_any (v := v) (l := l) h n w hv hn ht ho hl
  generalize (l.any fun b => hasB b h) = R at *
  go_enter Tryd.func59, Tryd.ntmps59
  go_wp2_with (first | ((with_reducible refine is_load ?_); (first | (refine own_ld (h := ?_)))) | ((with_reducible refine is_store ?_); (first | (refine own_stR (hO := hO) (h := ?_); clear hO; intro wv hO) | (refine own_st1 (hO := hO) (h := ?_); clear hO; intro wv hO))) | ((with_reducible refine is_box ?_); (first | (refine own_bx (o := ⟨some 3, _, _, _, _, _⟩) (hO := hO) (h := ?_); clear hO; intro n3 wv hO))) | (go_at_call 74; refine (hcf _ _ (hv0.keep (keep_of_below hO.keep.below _)) (hO.chunk _ List.mem_cons_self) (hO.tops ht (by simp))).mono ?_; rintro e wv ⟨rfl, hb⟩; replace hO := hO.call hb; clear hb))
  go_ret
  exact ⟨rfl, hO.keep.below⟩

/-! ### all initial headers -/
theorem zero_Set : ZeroT Tryd.prog 80 [.slice none 0 0] := by unfold ZeroT; kernel_rfl
theorem one_set : OneT Tryd.prog 80 := ⟨_, Tryd.underlying80, rfl, by kernel_rfl⟩
theorem und_Set : Tryd.prog.underlying 80 = some (.slice 95) := Tryd.underlying80
theorem slice_Set : SliceT Tryd.prog 80 95 10 40 := ⟨Tryd.underlying80, by omega, by
  obtain ⟨i, h1, h2, h3, h4⟩ := info_parts (show (Tryd.prog.info? 95).map (fun i => (i.zero, i.size, i.bytes)) = some (some (.agg (bcs zeroBx).toArray), 10, 40) by kernel_rfl)
  exact ⟨i, _, h1, h2, h3, h4, rfl⟩⟩
def iniBx (lo hi f t p e : Int) : Bx := ((fullBx.set 2 ⟨lo, hi⟩).set 3 ⟨f, t⟩).set 4 ⟨p, e⟩
def iniL : List Bx := [iniBx 0 0 0 0 0 0, iniBx 1 1 0 7 8 8, iniBx 1 1 9 65535 8 8, iniBx 2 5 0 0 0 0, iniBx 6 6 0 65535 0 65535, iniBx 7 16 0 0 0 0, iniBx 17 17 0 65535 0 65535, iniBx 18 255 0 0 0 0]
theorem own_boxesE {M : List Nat} {w0 w : World} {X : List Chunk} {R : List Row} {S : List Ro} (hO : Own M w0 X R S w) {v : Value} {k : Nat} {xs : List Value} {l : List Bx} (hm : (⟨v, k, xs, 95, 10⟩ : Row) ∈ R) (e : xs = cellsB l) : IsBoxes w v l := own_boxes hO (e ▸ hm)
set_option maxHeartbeats 8000000 in
theorem initial_any (w : World) (ht : Tops w) : Calls Tryd.prog 60 #[] w fun e w' => ∃ v, e = .returned v ∧ IsBoxes w' v iniL ∧ NewFrom w v ∧ Below w.heap.size w w' := by
  have hO := own_tops ht
  have h1 : ∀ w (_ : Tops w), Calls Tryd.prog 79 #[.int .i64 4] w fun e w' => e = .returned (.int .u32 65535) ∧ w = w' := fun w ht => top_any 4 w ht (by omega)
  replace hO := hO.nilRow 95 10
  go_enter Tryd.func60, Tryd.ntmps60
  go_wp2_with (first | ((with_reducible refine is_load ?_); (first | (refine own_ld (h := ?_)))) | ((with_reducible refine is_store ?_); (first | (refine own_stR (hO := hO) (h := ?_); clear hO; intro wv hO) | (refine own_st1 (hO := hO) (h := ?_); clear hO; intro wv hO))) | ((with_reducible refine is_alloc ?_); (first | (refine own_al (o := ⟨some 1, _, _, _, _, _⟩) (hO := hO) (h := ?_); clear hO; intro n1 wv hO) | (refine own_al (o := ⟨some 13, _, _, _, _, _⟩) (hO := hO) (h := ?_); clear hO; intro n13 wv hO))) | ((with_reducible refine is_build ?_); (first | (refine' own_build1 (o := ⟨some 29, _, _, _, _, _⟩) hO (by rfl) rfl rfl ?hu ?hf ?_; (case hu => (first | exact Tryd.underlying79 | exact und_Set)); (case hf => kernel_rfl); clear hO; intro n29 wv hO))) | ((with_reducible refine is_append ?_); (first | (refine own_ap (o := ⟨some 30, _, _, _, _, _⟩) (hO := hO) (h := ?_); clear hO; intro g30 c30 wv hO))) | (go_at_call 79; refine (h1 _ (hO.tops ht (by simp))).mono ?_; rintro e _ ⟨rfl, rfl⟩) | (go_at_call 78; refine (full_any _ (hO.tops ht (by simp))).mono ?_; rintro e wv ⟨rfl, hb⟩; replace hO := hO.call hb; clear hb) | (go_at_call 77; go_in))
  go_ret
  exact ⟨_, rfl, own_boxesE hO List.mem_cons_self (by kernel_rfl), rowFresh hO List.mem_cons_self, hO.keep.below⟩
end Go.Proofs.YtjfiipbjphabeaaDoor

/- Probe. -/
namespace Go.Proofs.YtjfiipbjphabeaaDoor
open Go.RowKit
set_option maxRecDepth 100000

theorem has_iniBx (h : Hd) (ho : h.ok) {lo hi f t p e : Int} (hv : vld (iniBx lo hi f t p e) = true) :
    hasB (iniBx lo hi f t p e) h = true ↔ (lo ≤ h.proto ∧ h.proto ≤ hi) ∧ (f ≤ h.sport ∧ h.sport ≤ t) ∧ (p ≤ h.dport ∧ h.dport ≤ e) := by
  unfold hasB
  rw [hv, Bool.true_and, decide_eq_true_iff]
  constructor
  · intro hi
    exact ⟨hi 2 (by omega), hi 3 (by omega), hi 4 (by omega)⟩
  · rintro ⟨h2, h3, h4⟩ i hi
    rcases five hi with rfl | rfl | rfl | rfl | rfl
    · exact ho.1
    · exact ho.2.1
    · exact h2
    · exact h3
    · exact h4
theorem iniF_iff (h : Hd) : iniF h = true ↔ h.proto = 6 ∨ h.proto = 17 ∨ (h.proto = 1 ∧ h.dport = 8 ∧ h.sport ≠ 8) ∨ (h.proto ≠ 1 ∧ h.sport = 0 ∧ h.dport = 0) := by
  unfold iniF
  by_cases a : h.proto = 6 <;> by_cases b : h.proto = 17 <;> by_cases c : h.proto = 1 <;> by_cases d : h.dport = 8 <;> by_cases e : h.sport = 0 <;> simp_all
/-- exactly the initial headers are members -/
theorem ini_has (h : Hd) (ho : h.ok) : (iniL.any fun b => hasB b h) = iniF h := by
  rw [Bool.eq_iff_iff, iniF_iff]
  unfold iniL
  simp only [List.any_cons, List.any_nil, Bool.or_eq_true, Bool.false_eq_true, or_false]
  rw [has_iniBx h ho (by decide), has_iniBx h ho (by decide), has_iniBx h ho (by decide), has_iniBx h ho (by decide), has_iniBx h ho (by decide), has_iniBx h ho (by decide), has_iniBx h ho (by decide), has_iniBx h ho (by decide)]
  obtain ⟨-, -, hp, hs, hd⟩ := ho
  omega
theorem prbE_no {h : Hd} (hi : iniF h = false) : prbE h = 1 ∧ prbF h = [] := ⟨by unfold prbE; rw [hi]; rfl, by unfold prbF; rw [hi]; rfl⟩
theorem prbE_ok {h : Hd} (hi : iniF h = true) : prbE h = encE (prbP h) ∧ prbF h = encF (prbP h) := ⟨by unfold prbE; rw [hi]; rfl, by unfold prbF; rw [hi]; rfl⟩
set_option maxHeartbeats 4000000 in
theorem probe_any (h : Hd) (w : World) (ht : Tops w) (ho : h.ok) : Calls Tryd.prog 31 #[hv h] w (EncPost (prbE h) (prbF h) w) := by
  have hO := own_start [] w
  have hct := fun v w hv ht => pcontains_any (v := v) (l := iniL) h w hv ht ho (by decide)
  rw [ini_has h ho] at hct
  cases hi : iniF h
  · obtain ⟨HE, HF⟩ := prbE_no hi
    rw [HE, HF]
    rw [hi] at hct
    clear HE HF hi
    obtain ⟨s, d, p, sp, dp⟩ := h
    go_enter Tryd.func31, Tryd.ntmps31
    go_wp2_with (first | ((with_reducible refine is_load ?_); (first | (refine own_ldP hO (h := ?_)) | (refine own_ld (h := ?_)))) | ((with_reducible refine is_store ?_); (first | (refine own_stRp (hO := hO) (h := ?_); clear hO; intro wv hO) | (refine own_st1p (hO := hO) (h := ?_); clear hO; intro wv hO) | (refine own_stR (hO := hO) (h := ?_); clear hO; intro wv hO) | (refine own_st1 (hO := hO) (h := ?_); clear hO; intro wv hO))) | ((with_reducible refine is_box ?_); (first | (refine own_bx (o := ⟨some 1, _, _, _, _, _⟩) (hO := hO) (h := ?_); clear hO; intro n1 wv hO))) | ((with_reducible refine is_alloc ?_); (first | (refine own_al (o := ⟨some 4, _, _, _, _, _⟩) (hO := hO) (h := ?_); clear hO; intro n4 wv hO))) | ((with_reducible refine is_load ?_); (refine own_ldW (hO := hO) (h := ?_))) | ((with_reducible refine is_store ?_); (refine own_stW (hO := hO) (h := ?_); clear hO; intro wv hO)))
    (try simp only [Act.put]); (try simp only [List.setIfInBounds_toArray, List.set_cons_zero, List.set_cons_succ]); (refine own_loose 2 [(5, fun v w => IsBoxes w v iniL)] hO (by kernel_rfl) (by kernel_rfl) (by rfl) (by repeat (first | exact Split.zero _ | apply Split.succ)) ?_ ?_); (focus (repeat (first | exact lasts_nil | (refine lasts_cons (fun v w w' _ _ hk h => ?_) ?_; focus (first | exact h | exact h.keep hk | (obtain ⟨h1, h2⟩ := h; exact ⟨h1, h2.keep hk⟩)))))); clear hO; (repeat (first | (refine loose_plain (by (intro _ hd; cases hd; rfl)) (by rfl) (fun _ h => h) ?_; (first | go_big_quiet_skip | (go_big_quiet_want; (first | ((with_reducible refine is_loadQ ?_); (first | (refine q_ld (h := ?_))); (try simp only [Act.put]); (try simp only [List.setIfInBounds_toArray, List.set_cons_zero, List.set_cons_succ]); go_big_quiet_on) | (go_big_quiet_op; (first | go_big_quiet_on | ((refine ⟨_, fun _ _ => rfl, ?_⟩); go_big_quiet_on)))))); refine wpQuiet_nil ?_; (try simp only [Act.put]); (try simp only [List.setIfInBounds_toArray, List.set_cons_zero, List.set_cons_succ])) | (refine loose_fact (by rfl) rfl (by rfl) ?_ ?_ (Nat.le_of_ble_eq_true rfl); (focus (intro w1 hO hF; (first | (go_simp; (first | (go_at_call 60; refine (initial_any _ (hO.tops ht (by simp))).mono ?_; rintro e w3 ⟨v, rfl, hv, -, hb⟩; exact ⟨_, rfl, keep_of_below hb _, hO.call hb, hv⟩)))))); (intro u w1 hO hu; (try subst hu); (try simp only [Act.put]); (try simp only [List.setIfInBounds_toArray, List.set_cons_zero, List.set_cons_succ]))) | (refine loose_skip (by rfl) ?_; (try simp only [Act.put]); (try simp only [List.setIfInBounds_toArray, List.set_cons_zero, List.set_cons_succ])))); (refine wpLoose_nil ?_); intro wv hI; have hO := hI.1; (try refine wpList_done ?_)
    have h5 := hI.2 5 (by simp [insF]) _ rfl
    clear hI
    go_wp2_with (first | ((with_reducible refine is_load ?_); (first | (refine own_ldP hO (h := ?_)) | (refine own_ld (h := ?_)))) | ((with_reducible refine is_store ?_); (first | (refine own_stRp (hO := hO) (h := ?_); clear hO; intro wv hO) | (refine own_st1p (hO := hO) (h := ?_); clear hO; intro wv hO) | (refine own_stR (hO := hO) (h := ?_); clear hO; intro wv hO) | (refine own_st1 (hO := hO) (h := ?_); clear hO; intro wv hO))) | ((with_reducible refine is_box ?_); (first | (refine own_bx (o := ⟨some 1, _, _, _, _, _⟩) (hO := hO) (h := ?_); clear hO; intro n1 wv hO))) | ((with_reducible refine is_alloc ?_); (first | (refine own_al (o := ⟨some 4, _, _, _, _, _⟩) (hO := hO) (h := ?_); clear hO; intro n4 wv hO))) | (go_at_call 59; refine (hct _ _ h5 (hO.tops ht (by simp))).mono ?_; rintro e wv ⟨rfl, hb⟩; replace hO := hO.call hb; clear hb) | ((with_reducible refine is_load ?_); (refine own_ldW (hO := hO) (h := ?_))) | ((with_reducible refine is_store ?_); (refine own_stW (hO := hO) (h := ?_); clear hO; intro wv hO)))
    go_ret2
    exact enc_nil hO.keep.below
  · obtain ⟨HE, HF⟩ := prbE_ok hi
    rw [HE, HF]
    rw [hi] at hct
    unfold prbP
    obtain ⟨s, d, p, sp, dp⟩ := h
    dsimp only
    clear HE HF hi
    cases hp : (p == 6)
    · rw [if_neg Bool.false_ne_true]
      have hen := fun w => encode_any s d p sp dp 64 0 [] (.slice none 0 0) w ⟨ho, by dsimp only; omega, by dsimp only; omega, bok_nil, by dsimp only; omega, by dsimp only; omega⟩ (isB_nil w) (by simp)
      generalize encE ⟨⟨s, d, p, sp, dp⟩, 64, 0, []⟩ = ke at *
      generalize encF ⟨⟨s, d, p, sp, dp⟩, 64, 0, []⟩ = kf at *
      go_enter Tryd.func31, Tryd.ntmps31
      go_wp2_with (first | ((with_reducible refine is_load ?_); (first | (refine own_ldP hO (h := ?_)) | (refine own_ld (h := ?_)))) | ((with_reducible refine is_store ?_); (first | (refine own_stRp (hO := hO) (h := ?_); clear hO; intro wv hO) | (refine own_st1p (hO := hO) (h := ?_); clear hO; intro wv hO) | (refine own_stR (hO := hO) (h := ?_); clear hO; intro wv hO) | (refine own_st1 (hO := hO) (h := ?_); clear hO; intro wv hO))) | ((with_reducible refine is_box ?_); (first | (refine own_bx (o := ⟨some 1, _, _, _, _, _⟩) (hO := hO) (h := ?_); clear hO; intro n1 wv hO))) | ((with_reducible refine is_alloc ?_); (first | (refine own_al (o := ⟨some 4, _, _, _, _, _⟩) (hO := hO) (h := ?_); clear hO; intro n4 wv hO))) | ((with_reducible refine is_load ?_); (refine own_ldW (hO := hO) (h := ?_))) | ((with_reducible refine is_store ?_); (refine own_stW (hO := hO) (h := ?_); clear hO; intro wv hO)))
      (try simp only [Act.put]); (try simp only [List.setIfInBounds_toArray, List.set_cons_zero, List.set_cons_succ]); (refine own_loose 2 [(5, fun v w => IsBoxes w v iniL)] hO (by kernel_rfl) (by kernel_rfl) (by rfl) (by repeat (first | exact Split.zero _ | apply Split.succ)) ?_ ?_); (focus (repeat (first | exact lasts_nil | (refine lasts_cons (fun v w w' _ _ hk h => ?_) ?_; focus (first | exact h | exact h.keep hk | (obtain ⟨h1, h2⟩ := h; exact ⟨h1, h2.keep hk⟩)))))); clear hO; (repeat (first | (refine loose_plain (by (intro _ hd; cases hd; rfl)) (by rfl) (fun _ h => h) ?_; (first | go_big_quiet_skip | (go_big_quiet_want; (first | ((with_reducible refine is_loadQ ?_); (first | (refine q_ld (h := ?_))); (try simp only [Act.put]); (try simp only [List.setIfInBounds_toArray, List.set_cons_zero, List.set_cons_succ]); go_big_quiet_on) | (go_big_quiet_op; (first | go_big_quiet_on | ((refine ⟨_, fun _ _ => rfl, ?_⟩); go_big_quiet_on)))))); refine wpQuiet_nil ?_; (try simp only [Act.put]); (try simp only [List.setIfInBounds_toArray, List.set_cons_zero, List.set_cons_succ])) | (refine loose_fact (by rfl) rfl (by rfl) ?_ ?_ (Nat.le_of_ble_eq_true rfl); (focus (intro w1 hO hF; (first | (go_simp; (first | (go_at_call 60; refine (initial_any _ (hO.tops ht (by simp))).mono ?_; rintro e w3 ⟨v, rfl, hv, -, hb⟩; exact ⟨_, rfl, keep_of_below hb _, hO.call hb, hv⟩)))))); (intro u w1 hO hu; (try subst hu); (try simp only [Act.put]); (try simp only [List.setIfInBounds_toArray, List.set_cons_zero, List.set_cons_succ]))) | (refine loose_skip (by rfl) ?_; (try simp only [Act.put]); (try simp only [List.setIfInBounds_toArray, List.set_cons_zero, List.set_cons_succ])))); (refine wpLoose_nil ?_); intro wv hI; have hO := hI.1; (try refine wpList_done ?_)
      have h5 := hI.2 5 (by simp [insF]) _ rfl
      clear hI
      go_wp2_with (first | ((with_reducible refine is_load ?_); (first | (refine own_ldP hO (h := ?_)) | (refine own_ld (h := ?_)))) | ((with_reducible refine is_store ?_); (first | (refine own_stRp (hO := hO) (h := ?_); clear hO; intro wv hO) | (refine own_st1p (hO := hO) (h := ?_); clear hO; intro wv hO) | (refine own_stR (hO := hO) (h := ?_); clear hO; intro wv hO) | (refine own_st1 (hO := hO) (h := ?_); clear hO; intro wv hO))) | ((with_reducible refine is_box ?_); (first | (refine own_bx (o := ⟨some 1, _, _, _, _, _⟩) (hO := hO) (h := ?_); clear hO; intro n1 wv hO))) | ((with_reducible refine is_alloc ?_); (first | (refine own_al (o := ⟨some 4, _, _, _, _, _⟩) (hO := hO) (h := ?_); clear hO; intro n4 wv hO))) | (go_at_call 59; refine (hct _ _ h5 (hO.tops ht (by simp))).mono ?_; rintro e wv ⟨rfl, hb⟩; replace hO := hO.call hb; clear hb) | (go_at_call 26; refine (hen _).mono ?_; rintro e wv ⟨v2, rfl, hrow, hb2⟩; have hbase := hO.keep.size; replace hO := hO.call hb2; clear hb2) | ((with_reducible refine is_load ?_); (refine own_ldW (hO := hO) (h := ?_))) | ((with_reducible refine is_store ?_); (refine own_stW (hO := hO) (h := ?_); clear hO; intro wv hO)))
      go_ret2
      exact ⟨_, rfl, row_from hrow hbase, hO.keep.below⟩
    · rw [if_pos rfl]
      obtain rfl : p = 6 := by simpa using hp
      have hen := fun w => encode_any s d 6 sp dp 64 2 [] (.slice none 0 0) w ⟨ho, by dsimp only; omega, by dsimp only; omega, bok_nil, by dsimp only; omega, by dsimp only; omega⟩ (isB_nil w) (by simp)
      generalize encE ⟨⟨s, d, 6, sp, dp⟩, 64, 2, []⟩ = ke at *
      generalize encF ⟨⟨s, d, 6, sp, dp⟩, 64, 2, []⟩ = kf at *
      go_enter Tryd.func31, Tryd.ntmps31
      go_wp2_with (first | ((with_reducible refine is_load ?_); (first | (refine own_ldP hO (h := ?_)) | (refine own_ld (h := ?_)))) | ((with_reducible refine is_store ?_); (first | (refine own_stRp (hO := hO) (h := ?_); clear hO; intro wv hO) | (refine own_st1p (hO := hO) (h := ?_); clear hO; intro wv hO) | (refine own_stR (hO := hO) (h := ?_); clear hO; intro wv hO) | (refine own_st1 (hO := hO) (h := ?_); clear hO; intro wv hO))) | ((with_reducible refine is_box ?_); (first | (refine own_bx (o := ⟨some 1, _, _, _, _, _⟩) (hO := hO) (h := ?_); clear hO; intro n1 wv hO))) | ((with_reducible refine is_alloc ?_); (first | (refine own_al (o := ⟨some 4, _, _, _, _, _⟩) (hO := hO) (h := ?_); clear hO; intro n4 wv hO))) | ((with_reducible refine is_load ?_); (refine own_ldW (hO := hO) (h := ?_))) | ((with_reducible refine is_store ?_); (refine own_stW (hO := hO) (h := ?_); clear hO; intro wv hO)))
      (try simp only [Act.put]); (try simp only [List.setIfInBounds_toArray, List.set_cons_zero, List.set_cons_succ]); (refine own_loose 2 [(5, fun v w => IsBoxes w v iniL)] hO (by kernel_rfl) (by kernel_rfl) (by rfl) (by repeat (first | exact Split.zero _ | apply Split.succ)) ?_ ?_); (focus (repeat (first | exact lasts_nil | (refine lasts_cons (fun v w w' _ _ hk h => ?_) ?_; focus (first | exact h | exact h.keep hk | (obtain ⟨h1, h2⟩ := h; exact ⟨h1, h2.keep hk⟩)))))); clear hO; (repeat (first | (refine loose_plain (by (intro _ hd; cases hd; rfl)) (by rfl) (fun _ h => h) ?_; (first | go_big_quiet_skip | (go_big_quiet_want; (first | ((with_reducible refine is_loadQ ?_); (first | (refine q_ld (h := ?_))); (try simp only [Act.put]); (try simp only [List.setIfInBounds_toArray, List.set_cons_zero, List.set_cons_succ]); go_big_quiet_on) | (go_big_quiet_op; (first | go_big_quiet_on | ((refine ⟨_, fun _ _ => rfl, ?_⟩); go_big_quiet_on)))))); refine wpQuiet_nil ?_; (try simp only [Act.put]); (try simp only [List.setIfInBounds_toArray, List.set_cons_zero, List.set_cons_succ])) | (refine loose_fact (by rfl) rfl (by rfl) ?_ ?_ (Nat.le_of_ble_eq_true rfl); (focus (intro w1 hO hF; (first | (go_simp; (first | (go_at_call 60; refine (initial_any _ (hO.tops ht (by simp))).mono ?_; rintro e w3 ⟨v, rfl, hv, -, hb⟩; exact ⟨_, rfl, keep_of_below hb _, hO.call hb, hv⟩)))))); (intro u w1 hO hu; (try subst hu); (try simp only [Act.put]); (try simp only [List.setIfInBounds_toArray, List.set_cons_zero, List.set_cons_succ]))) | (refine loose_skip (by rfl) ?_; (try simp only [Act.put]); (try simp only [List.setIfInBounds_toArray, List.set_cons_zero, List.set_cons_succ])))); (refine wpLoose_nil ?_); intro wv hI; have hO := hI.1; (try refine wpList_done ?_)
      have h5 := hI.2 5 (by simp [insF]) _ rfl
      clear hI
      go_wp2_with (first | ((with_reducible refine is_load ?_); (first | (refine own_ldP hO (h := ?_)) | (refine own_ld (h := ?_)))) | ((with_reducible refine is_store ?_); (first | (refine own_stRp (hO := hO) (h := ?_); clear hO; intro wv hO) | (refine own_st1p (hO := hO) (h := ?_); clear hO; intro wv hO) | (refine own_stR (hO := hO) (h := ?_); clear hO; intro wv hO) | (refine own_st1 (hO := hO) (h := ?_); clear hO; intro wv hO))) | ((with_reducible refine is_box ?_); (first | (refine own_bx (o := ⟨some 1, _, _, _, _, _⟩) (hO := hO) (h := ?_); clear hO; intro n1 wv hO))) | ((with_reducible refine is_alloc ?_); (first | (refine own_al (o := ⟨some 4, _, _, _, _, _⟩) (hO := hO) (h := ?_); clear hO; intro n4 wv hO))) | (go_at_call 59; refine (hct _ _ h5 (hO.tops ht (by simp))).mono ?_; rintro e wv ⟨rfl, hb⟩; replace hO := hO.call hb; clear hb) | (go_at_call 26; refine (hen _).mono ?_; rintro e wv ⟨v2, rfl, hrow, hb2⟩; have hbase := hO.keep.size; replace hO := hO.call hb2; clear hb2) | ((with_reducible refine is_load ?_); (refine own_ldW (hO := hO) (h := ?_))) | ((with_reducible refine is_store ?_); (refine own_stW (hO := hO) (h := ?_); clear hO; intro wv hO)))
      go_ret2
      exact ⟨_, rfl, row_from hrow hbase, hO.keep.below⟩
set_option maxHeartbeats 4000000 in
theorem rprobe_any (h : Hd) (w : World) (ho : h.ok) : Calls Tryd.prog 32 #[hv h] w (EncPost (prbE h) (prbF h) w) := by
  have hO := own_start [] w
  have hct := fun w => isInitial_any h w
  cases hi : iniF h
  · obtain ⟨HE, HF⟩ := prbE_no hi
    rw [HE, HF]
    rw [hi] at hct
    clear HE HF hi
    obtain ⟨s, d, p, sp, dp⟩ := h
    go_enter Tryd.func32, Tryd.ntmps32
    go_wp2_with (first | ((with_reducible refine is_load ?_); (first | (refine own_ldP hO (h := ?_)) | (refine own_ld (h := ?_)))) | ((with_reducible refine is_store ?_); (first | (refine own_stRp (hO := hO) (h := ?_); clear hO; intro wv hO) | (refine own_st1p (hO := hO) (h := ?_); clear hO; intro wv hO) | (refine own_stR (hO := hO) (h := ?_); clear hO; intro wv hO) | (refine own_st1 (hO := hO) (h := ?_); clear hO; intro wv hO))) | ((with_reducible refine is_box ?_); (first | (refine own_bx (o := ⟨some 1, _, _, _, _, _⟩) (hO := hO) (h := ?_); clear hO; intro n1 wv hO))) | ((with_reducible refine is_alloc ?_); (first | (refine own_al (o := ⟨some 4, _, _, _, _, _⟩) (hO := hO) (h := ?_); clear hO; intro n4 wv hO))) | (go_at_call 33; refine (hct _).mono ?_; rintro e wv ⟨rfl, hb⟩; replace hO := hO.call hb; clear hb) | ((with_reducible refine is_load ?_); (refine own_ldW (hO := hO) (h := ?_))) | ((with_reducible refine is_store ?_); (refine own_stW (hO := hO) (h := ?_); clear hO; intro wv hO)))
    go_ret2
    exact enc_nil hO.keep.below
  · obtain ⟨HE, HF⟩ := prbE_ok hi
    rw [HE, HF]
    rw [hi] at hct
    unfold prbP
    obtain ⟨s, d, p, sp, dp⟩ := h
    dsimp only
    clear HE HF hi
    cases hp : (p == 6)
    · rw [if_neg Bool.false_ne_true]
      have hen := fun w => rencode_any s d p sp dp 64 0 [] (.slice none 0 0) w ⟨ho, by dsimp only; omega, by dsimp only; omega, bok_nil, by dsimp only; omega, by dsimp only; omega⟩ (isB_nil w) (by simp)
      generalize encE ⟨⟨s, d, p, sp, dp⟩, 64, 0, []⟩ = ke at *
      generalize encF ⟨⟨s, d, p, sp, dp⟩, 64, 0, []⟩ = kf at *
      go_enter Tryd.func32, Tryd.ntmps32
      go_wp2_with (first | ((with_reducible refine is_load ?_); (first | (refine own_ldP hO (h := ?_)) | (refine own_ld (h := ?_)))) | ((with_reducible refine is_store ?_); (first | (refine own_stRp (hO := hO) (h := ?_); clear hO; intro wv hO) | (refine own_st1p (hO := hO) (h := ?_); clear hO; intro wv hO) | (refine own_stR (hO := hO) (h := ?_); clear hO; intro wv hO) | (refine own_st1 (hO := hO) (h := ?_); clear hO; intro wv hO))) | ((with_reducible refine is_box ?_); (first | (refine own_bx (o := ⟨some 1, _, _, _, _, _⟩) (hO := hO) (h := ?_); clear hO; intro n1 wv hO))) | ((with_reducible refine is_alloc ?_); (first | (refine own_al (o := ⟨some 4, _, _, _, _, _⟩) (hO := hO) (h := ?_); clear hO; intro n4 wv hO))) | (go_at_call 33; refine (hct _).mono ?_; rintro e wv ⟨rfl, hb⟩; replace hO := hO.call hb; clear hb) | (go_at_call 27; refine (hen _).mono ?_; rintro e wv ⟨v2, rfl, hrow, hb2⟩; have hbase := hO.keep.size; replace hO := hO.call hb2; clear hb2) | ((with_reducible refine is_load ?_); (refine own_ldW (hO := hO) (h := ?_))) | ((with_reducible refine is_store ?_); (refine own_stW (hO := hO) (h := ?_); clear hO; intro wv hO)))
      go_ret2
      exact ⟨_, rfl, row_from hrow hbase, hO.keep.below⟩
    · rw [if_pos rfl]
      obtain rfl : p = 6 := by simpa using hp
      have hen := fun w => rencode_any s d 6 sp dp 64 2 [] (.slice none 0 0) w ⟨ho, by dsimp only; omega, by dsimp only; omega, bok_nil, by dsimp only; omega, by dsimp only; omega⟩ (isB_nil w) (by simp)
      generalize encE ⟨⟨s, d, 6, sp, dp⟩, 64, 2, []⟩ = ke at *
      generalize encF ⟨⟨s, d, 6, sp, dp⟩, 64, 2, []⟩ = kf at *
      go_enter Tryd.func32, Tryd.ntmps32
      go_wp2_with (first | ((with_reducible refine is_load ?_); (first | (refine own_ldP hO (h := ?_)) | (refine own_ld (h := ?_)))) | ((with_reducible refine is_store ?_); (first | (refine own_stRp (hO := hO) (h := ?_); clear hO; intro wv hO) | (refine own_st1p (hO := hO) (h := ?_); clear hO; intro wv hO) | (refine own_stR (hO := hO) (h := ?_); clear hO; intro wv hO) | (refine own_st1 (hO := hO) (h := ?_); clear hO; intro wv hO))) | ((with_reducible refine is_box ?_); (first | (refine own_bx (o := ⟨some 1, _, _, _, _, _⟩) (hO := hO) (h := ?_); clear hO; intro n1 wv hO))) | ((with_reducible refine is_alloc ?_); (first | (refine own_al (o := ⟨some 4, _, _, _, _, _⟩) (hO := hO) (h := ?_); clear hO; intro n4 wv hO))) | (go_at_call 33; refine (hct _).mono ?_; rintro e wv ⟨rfl, hb⟩; replace hO := hO.call hb; clear hb) | (go_at_call 27; refine (hen _).mono ?_; rintro e wv ⟨v2, rfl, hrow, hb2⟩; have hbase := hO.keep.size; replace hO := hO.call hb2; clear hb2) | ((with_reducible refine is_load ?_); (refine own_ldW (hO := hO) (h := ?_))) | ((with_reducible refine is_store ?_); (refine own_stW (hO := hO) (h := ?_); clear hO; intro wv hO)))
      go_ret2
      exact ⟨_, rfl, row_from hrow hbase, hO.keep.below⟩
end Go.Proofs.YtjfiipbjphabeaaDoor

/- The sanity check of the packet laws. -/
namespace Go.Proofs.YtjfiipbjphabeaaDoor
open Go.RowKit
set_option maxRecDepth 100000

theorem rowIsB {w : World} {B : Nat} {v : Value} {l : List Int} (h : w.ownsRow B 5 1 v l.length (bc l)) : IsB w v l := by
  rcases h.2 with ⟨h1, h2⟩ | ⟨g, cap, cur, h1, _, hg, hc, _, _, ht⟩
  · have h1' : v = .slice none 0 0 := h1
    have h2' : l.length = 0 := h2
    have : l = [] := List.eq_nil_of_length_eq_zero h2'
    subst this
    exact .inl ⟨h1', rfl, rfl⟩
  · have h1' : v = .slice (some ⟨g, 0, none⟩) l.length cap := h1
    subst h1'
    refine .inr ⟨g, 0, cap, rfl, hc, fun j u hu => ?_⟩
    rw [Nat.zero_add, h.cellAt j (by have := (List.getElem?_eq_some_iff.1 hu).1; rw [bc_length] at this; omega)]
    exact hu
theorem ownsPos {w : World} {B : Nat} {v : Value} {l : List Int} (h : w.ownsRow B 5 1 v l.length (bc l)) (h0 : 0 < l.length) : ∃ g c, v = .slice (some ⟨g, 0, none⟩) l.length c ∧ l.length ≤ c := by
  rcases h.2 with ⟨_, h1⟩ | ⟨g, c, _, h1, _, _, h2, _⟩
  · omega
  · exact ⟨g, c, h1, h2⟩
theorem ownsPosN {w : World} {B n size : Nat} {v : Value} {xs : List Value} {e : TypeId} (h : w.ownsRow B e size v n xs) (h0 : 0 < n) : ∃ g c, v = .slice (some ⟨g, 0, none⟩) n c ∧ n ≤ c := by
  rcases h.2 with ⟨_, h1⟩ | ⟨g, c, _, h1, _, _, h2, _⟩
  · have h1' : n = 0 := h1
    omega
  · exact ⟨g, c, h1, h2⟩
theorem chunkIsB {M : List Nat} {w0 w : World} {X : List Chunk} {R : List Row} {S : List Ro} (hO : Own M w0 X R S w) {n c : Nat} {l : List Int} {t : TypeId} (hm : (⟨n, bc l, t⟩ : Chunk) ∈ X) (hc : l.length ≤ c) : IsB w (.slice (some ⟨n, 0, none⟩) l.length c) l :=
  .inr ⟨n, 0, c, rfl, hc, hO.range hm (by simp)⟩
theorem run_field_src (w : World) (s d p sp dp : Int) : (Instr.field 26 (.agg #[.int .u32 s, .int .u32 d, .int .u8 p, .int .u16 sp, .int .u16 dp]) 0).run Tryd.prog w = .ok (.int .u32 s) w := by kernel_rfl
attribute [go_sem high] run_field_src
def saneH : Hd := ⟨1, 2, 17, 3, 4⟩
def saneL : List Int := [69, 0, 0, 28, 0, 0, 0, 0, 64, 17, 122, 207, 0, 0, 0, 1, 0, 0, 0, 2, 0, 3, 0, 4, 0, 8, 255, 212]
theorem sane_1 : prbE saneH = 0 := by kernel_rfl
theorem sane_2 : prbF saneH = saneL := by kernel_rfl
theorem sane_3 : errF saneL = 0 := by kernel_rfl
theorem sane_4 : decF saneL = ⟨⟨1, 2, 17, 3, 4⟩, 64, 0, []⟩ := by kernel_rfl
theorem sane_5 : opensF saneL = true := by kernel_rfl
theorem sane_6 : encE ⟨⟨0, 0, 1, 8, 8⟩, 0, 0, []⟩ = 1 := by kernel_rfl
theorem sane_7 : encF ⟨⟨0, 0, 1, 8, 8⟩, 0, 0, []⟩ = [] := by kernel_rfl
theorem sane_8 : ck [0, 1, 242, 3] = 3579 := by kernel_rfl
set_option maxHeartbeats 4000000 in
theorem psane_any (w : World) (ht : Tops w) : Calls Tryd.prog 18 #[] w fun e w' => e = .returned (.bool true) ∧ Below w.heap.size w w' := by
  have hO := own_start [] w
  have h1 : ∀ w, Tops w → Calls Tryd.prog 31 #[hv ⟨1, 2, 17, 3, 4⟩] w (EncPost 0 saneL w) := fun w ht => by
    have := probe_any saneH w ht ⟨by decide, by decide, by decide, by decide, by decide⟩
    rw [sane_1, sane_2] at this
    exact this
  have hb : BOk saneL := by unfold saneL; intro x hx; simp only [List.mem_cons, List.not_mem_nil, or_false] at hx; omega
  have h2 := fun v w hv => (decode_any (v := v) (l := saneL) w hv hb (by decide)).mono fun e w' h => dec_at h sane_4 sane_3
  have h3 := fun v w hv => opens_any (v := v) (l := saneL) w hv hb (by decide)
  rw [sane_5] at h3
  have h4 : ∀ w, Calls Tryd.prog 26 #[.agg (pcs ⟨0, 0, 1, 8, 8⟩ 0 0 (.slice none 0 0)).toArray] w (EncPost 1 [] w) := fun w => by
    have := encode_any 0 0 1 8 8 0 0 [] (.slice none 0 0) w ⟨⟨by decide, by decide, by decide, by decide, by decide⟩, by decide, by decide, bok_nil, by decide, by decide⟩ (isB_nil w) (by simp)
    rw [sane_6, sane_7] at this
    exact this
  have h5 := fun v w hv => cksum_any (v := v) (l := [0, 1, 242, 3]) w hv (by intro x hx; simp only [List.mem_cons, List.not_mem_nil, or_false] at hx; omega) (by decide)
  rw [sane_8] at h5
  have h6 : ∀ w, Calls Tryd.prog 16 #[hv ⟨1, 2, 17, 3, 4⟩] w fun e w' => e = .returned (hv ⟨2, 1, 17, 4, 3⟩) ∧ Below w.heap.size w w' := fun w => reverse_any ⟨1, 2, 17, 3, 4⟩ w
  have c8 : (bc saneL)[8]? = some (.int .u8 64) := rfl
  have c25 : (bc saneL)[25]? = some (.int .u8 8) := rfl
  have hl : saneL.length = 28 := rfl
  have HB := Lib.hid hb
  clear hb
  generalize saneL = L at *
  go_enter Tryd.func18, Tryd.ntmps18
  go_wp2_with (first | ((with_reducible refine is_load ?_); (first | (refine own_ldP hO (h := ?_)) | (refine own_ld (h := ?_)))) | ((with_reducible refine is_store ?_); (first | (refine own_stRp (hO := hO) (h := ?_); clear hO; intro wv hO) | (refine own_st1p (hO := hO) (h := ?_); clear hO; intro wv hO) | (refine own_stR (hO := hO) (h := ?_); clear hO; intro wv hO) | (refine own_st1 (hO := hO) (h := ?_); clear hO; intro wv hO))) | ((with_reducible refine is_alloc ?_); (first | (refine own_al (o := ⟨some 3, _, _, _, _, _⟩) (hO := hO) (h := ?_); clear hO; intro n3 wv hO))) | (go_at_call 31; refine (h1 _ (hO.tops ht (by simp))).mono ?_; rintro e wv ⟨v2, rfl, hrow, hb2⟩; rw [hl] at hrow; replace hO := hO.gainRow hb2 hrow; obtain ⟨g2, c2, rfl, hc2⟩ := ownsPosN hrow (by omega); clear hb2 hrow h1) | (go_at_call 28; refine (h2 _ _ (show IsB _ _ _ by unfold IsB; rw [hl]; exact hO.rowIs List.mem_cons_self)).mono ?_; rintro e wv ⟨v1, rfl, hv1, hn1, hb1⟩; replace hO := hO.call hb1; clear hb1 h2; obtain ⟨a1, k1, rfl, -⟩ := IsCells.view hv1; clear hv1 hn1) | (go_at_call 26; refine (h4 _).mono ?_; rintro e wv ⟨v3, rfl, -, hb2⟩; replace hO := hO.call hb2; clear hb2 h4) | ((with_reducible refine is_build ?_); (refine' own_buildP (o := ⟨some 23, _, _, _, _, _⟩) [.int .u8 0, .int .u8 1, .int .u8 242, .int .u8 3] hO (by rfl) rfl slice_u8 rfl rfl (by rfl) (by decide) (by decide) ?_); clear hO; intro n23 wv hO) | (go_at_call 14; refine (h5 _ _ (chunkIsB hO (l := [0, 1, 242, 3]) List.mem_cons_self (by decide))).mono ?_; rintro e wv ⟨rfl, hb2⟩; replace hO := hO.call hb2; clear hb2 h5) | (go_at_call 35; refine (h3 _ _ (show IsB _ _ _ by unfold IsB; rw [hl]; exact hO.rowIs List.mem_cons_self)).mono ?_; rintro e wv ⟨rfl, hb2⟩; replace hO := hO.call hb2; clear hb2 h3) | (go_at_call 16; refine (h6 _).mono ?_; rintro e wv ⟨rfl, hb⟩; replace hO := hO.call hb; clear hb) | ((with_reducible refine is_load ?_); (refine own_ldW (hO := hO) (h := ?_))) | ((with_reducible refine is_store ?_); (refine own_stW (hO := hO) (h := ?_); clear hO; intro wv hO)))
  go_ret
  exact ⟨rfl, hO.keep.below⟩
end Go.Proofs.YtjfiipbjphabeaaDoor
