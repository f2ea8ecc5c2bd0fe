/- A packet with another header: the plain law. -/
import Derived.Test.YtjfiipbjphabeaaDoorMK
import Derived.Test.YtjfiipbjphabeaaDoorMH
import Derived.Test.YtjfiipbjphabeaaDoorMT
namespace Go.Proofs.YtjfiipbjphabeaaDoor
open Go.RowKit
set_option maxRecDepth 100000

theorem pk_eq {l : List Int} {h : Hd} {t f : Int} {pl : List Int} (e1 : g32 l 12 = h.src) (e2 : g32 l 16 = h.dst) (e3 : gt l 9 = h.proto) (e4 : spF l = h.sport) (e5 : dpF l = h.dport) (e6 : gt l 8 = t) (e7 : flF l = f) (e8 : l.drop (fromF l) = pl) : decOk l = ⟨h, t, f, pl⟩ := by
  unfold decOk
  rw [e1, e2, e3, e4, e5, e6, e7, e8]
/-- the new header in the bytes, the checksums not yet set -/
theorem hdr_good {l : List Int} {h : Hd} (hE : errF l = 0) (hf : fitF (gt l 20 == 8) (gt l 9) h = true) :
    bodyR (hdrF l h) ((l.length : Int) - 20) = true ∧ decOk (hdrF l h) = ⟨h, (decOk l).t, (decOk l).f, (decOk l).pl⟩ := by
  obtain ⟨h20, h576, h0, h2, h6, hc, hB, hr⟩ := errF_ok.1 hE
  obtain ⟨b6, b17, b1⟩ := bodyR_len hB
  have hp := fit_proto hf
  have g := fun j hj => gt_hdrF (l := l) (h := h) (j := j) hj
  have eT : gt (hdrF l h) 8 = (decOk l).t := g 8 (by omega)
  have e9 := g 9 (by omega)
  have eF : flF (hdrF l h) = (decOk l).f := by show _ = flF l; unfold flF; rw [e9, g 33 (by omega)]
  have eO : fromF (hdrF l h) = fromF l := by unfold fromF; rw [e9, g 32 (by omega)]
  have eP : (hdrF l h).drop (fromF l) = l.drop (fromF l) → (hdrF l h).drop (fromF (hdrF l h)) = (decOk l).pl := fun e => by rw [eO, e]; rfl
  rcases proto_cases (gt l 9) with q | q | q | ⟨q1, q2, q3⟩
  · have := b6 q
    have hM : hdrF l h = p16 (p16 (p32 (p32 l 12 h.src) 16 h.dst) 20 h.sport) 22 h.dport := by unfold hdrF portsF; rw [hp, q]; rfl
    have hO : fromF l = 20 + 4 * (gt l 32 / 16).toNat := by unfold fromF; rw [q]; rfl
    refine ⟨by rw [bodyR_6 (e9.trans q), g 32 (by omega), ← bodyR_6 q]; exact hB, pk_eq ?_ ?_ (e9.trans hp.symm) ?_ ?_ eT eF (eP ?_)⟩
    · rw [hM, g32_p16_ne (by omega), g32_p16_ne (by omega), g32_p32_ne (by omega), g32_p32 (by omega)]
    · rw [hM, g32_p16_ne (by omega), g32_p16_ne (by omega), g32_p32 (by simp [p32_length]; omega)]
    · unfold spF; rw [e9, q, if_pos b66, hM, g16_p16_ne (by omega), g16_p16 (by simp [p32_length]; omega)]
    · unfold dpF; rw [e9, q, if_pos b66, hM, g16_p16 (by simp [p32_length, p16_length]; omega)]
    · rw [hM, drop_p16 (by omega), drop_p16 (by omega), drop_p32 (by omega), drop_p32 (by omega)]
  · have := b17 q
    have hM : hdrF l h = p16 (p16 (p32 (p32 l 12 h.src) 16 h.dst) 20 h.sport) 22 h.dport := by unfold hdrF portsF; rw [hp, q]; rfl
    have hO : fromF l = 28 := by unfold fromF; rw [q]; rfl
    refine ⟨?_, pk_eq ?_ ?_ (e9.trans hp.symm) ?_ ?_ eT eF (eP ?_)⟩
    · rw [bodyR_17 (e9.trans q), hM, g16_p16_ne (by omega), g16_p16_ne (by omega), g16_p32_ne (by omega), g16_p32_ne (by omega), ← bodyR_17 q]; exact hB
    · rw [hM, g32_p16_ne (by omega), g32_p16_ne (by omega), g32_p32_ne (by omega), g32_p32 (by omega)]
    · rw [hM, g32_p16_ne (by omega), g32_p16_ne (by omega), g32_p32 (by simp [p32_length]; omega)]
    · unfold spF; rw [e9, q, if_neg (by decide), if_pos b1717, hM, g16_p16_ne (by omega), g16_p16 (by simp [p32_length]; omega)]
    · unfold dpF; rw [e9, q, if_neg (by decide), if_pos b1717, hM, g16_p16 (by simp [p32_length, p16_length]; omega)]
    · rw [hM, drop_p16 (by omega), drop_p16 (by omega), drop_p32 (by omega), drop_p32 (by omega)]
  · obtain ⟨c1, c2, c3, c4⟩ := b1 q
    have hO : fromF l = 28 := by unfold fromF; rw [q]; rfl
    rcases c2 with c2 | c2
    · have hM : hdrF l h = p16 (p32 (p32 l 12 h.src) 16 h.dst) 24 h.sport := by
        unfold hdrF portsF
        rw [hp, q, if_neg (by decide), if_neg (by decide), if_pos b11, gt_p32_ne (by omega), gt_p32_ne (by omega), c2]; rfl
      have a20 : gt (hdrF l h) 20 = 8 := by rw [hM, gt_p16_ne (by omega) (by omega), gt_p32_ne (by omega), gt_p32_ne (by omega), c2]
      have a21 : gt (hdrF l h) 21 = 0 := by rw [hM, gt_p16_ne (by omega) (by omega), gt_p32_ne (by omega), gt_p32_ne (by omega), c3]
      have a24 : g16 (hdrF l h) 24 = h.sport := by rw [hM, g16_p16 (by simp [p32_length]; omega)]
      have hd : h.sport ≠ 8 ∧ h.dport = 8 := by
        unfold fitF at hf
        rw [hp, q, c2] at hf
        simpa using hf
      refine ⟨?_, pk_eq ?_ ?_ (e9.trans hp.symm) ?_ ?_ eT eF (eP ?_)⟩
      · rw [bodyR_1 (e9.trans q), a20, a21, a24, decide_eq_true (by omega), if_pos rfl]; simpa using hd.1
      · rw [hM, g32_p16_ne (by omega), g32_p32_ne (by omega), g32_p32 (by omega)]
      · rw [hM, g32_p16_ne (by omega), g32_p32 (by simp [p32_length]; omega)]
      · unfold spF; rw [e9, q, a20, a24]; rfl
      · unfold dpF; rw [e9, q, a20, hd.2]; rfl
      · rw [hM, drop_p16 (by omega), drop_p32 (by omega), drop_p32 (by omega)]
    · have hM : hdrF l h = p16 (p32 (p32 l 12 h.src) 16 h.dst) 24 h.dport := by
        unfold hdrF portsF
        rw [hp, q, if_neg (by decide), if_neg (by decide), if_pos b11, gt_p32_ne (by omega), gt_p32_ne (by omega), c2]; rfl
      have a20 : gt (hdrF l h) 20 = 0 := by rw [hM, gt_p16_ne (by omega) (by omega), gt_p32_ne (by omega), gt_p32_ne (by omega), c2]
      have a21 : gt (hdrF l h) 21 = 0 := by rw [hM, gt_p16_ne (by omega) (by omega), gt_p32_ne (by omega), gt_p32_ne (by omega), c3]
      have a24 : g16 (hdrF l h) 24 = h.dport := by rw [hM, g16_p16 (by simp [p32_length]; omega)]
      have hd : h.sport = 8 ∧ h.dport ≠ 8 := by
        unfold fitF at hf
        rw [hp, q, c2] at hf
        simpa using hf
      refine ⟨?_, pk_eq ?_ ?_ (e9.trans hp.symm) ?_ ?_ eT eF (eP ?_)⟩
      · rw [bodyR_1 (e9.trans q), a20, a21, a24, decide_eq_true (by omega), if_pos rfl]; simpa using hd.2
      · rw [hM, g32_p16_ne (by omega), g32_p32_ne (by omega), g32_p32 (by omega)]
      · rw [hM, g32_p16_ne (by omega), g32_p32 (by simp [p32_length]; omega)]
      · unfold spF; rw [e9, q, a20, hd.1]; rfl
      · unfold dpF; rw [e9, q, a20, a24]; rfl
      · rw [hM, drop_p16 (by omega), drop_p32 (by omega), drop_p32 (by omega)]
  · have hM : hdrF l h = p32 (p32 l 12 h.src) 16 h.dst := by unfold hdrF portsF; rw [hp, q1, q2, q3]; rfl
    have hO : fromF l = 20 := by unfold fromF; rw [q1, q2, q3]; rfl
    have hd : h.sport = 0 ∧ h.dport = 0 := by
      unfold fitF at hf
      rw [hp, q1, q2, q3] at hf
      simpa using hf
    refine ⟨by unfold bodyR; rw [e9, q1, q2, q3]; rfl, pk_eq ?_ ?_ (e9.trans hp.symm) ?_ ?_ eT eF (eP ?_)⟩
    · rw [hM, g32_p32_ne (by omega), g32_p32 (by omega)]
    · rw [hM, g32_p32 (by simp [p32_length]; omega)]
    · unfold spF; rw [e9, q1, q2, q3, hd.1]; rfl
    · unfold dpF; rw [e9, q1, q2, q3, hd.2]; rfl
    · rw [hM, drop_p32 (by omega), drop_p32 (by omega)]
/-- a rewritten packet -/
theorem rw_valid {l : List Int} {h : Hd} (hb : BOk l) (hE : errF l = 0) (hf : fitF (gt l 20 == 8) (gt l 9) h = true) (ho : h.ok) :
    errF (rwB l h) = 0 ∧ decOk (rwB l h) = ⟨h, (decOk l).t, (decOk l).f, (decOk l).pl⟩ ∧ BOk (rwB l h) ∧ (rwB l h).length = l.length := by
  obtain ⟨h20, h576, h0, h2, h6, hc, hB, hr⟩ := errF_ok.1 hE
  obtain ⟨k1, k2⟩ := hdr_good hE hf
  have hN : (hdrF l h).length = l.length := hdrF_length l h
  have hb2 : BOk (hdrF l h) := hb.hdrF ho
  have g := fun j hj => gt_hdrF (l := l) (h := h) (j := j) hj
  have a0 := (g 0 (by omega)).trans h0
  have a2 : g16 (hdrF l h) 2 = (hdrF l h).length := by unfold g16 at *; rw [g 2 (by omega), g 3 (by omega), hN]; exact h2
  have a6 : g16 (hdrF l h) 6 = 0 ∨ g16 (hdrF l h) 6 = 16384 := by unfold g16 at *; rw [g 6 (by omega), g 7 (by omega)]; exact h6
  rw [← hN] at k1
  unfold rwB sumsR
  by_cases hz : (true && (gt (hdrF l h) 9 == 17) && (g16 (hdrF l h) 26 == 0)) = true
  · rw [if_pos hz]
    simp only [Bool.true_and, Bool.and_eq_true, beq_iff_eq] at hz
    exact ⟨errF_hd hb2 (by omega) (by omega) a0 a2 a6 k1 ((rightF_ok hb2 (by omega) (by omega)).2 ⟨fun e => by omega, fun _ => .inl hz.2, fun e => by omega⟩), (decOk_hd _).trans k2, hb2.hdSum, (hdSum_length _).trans hN⟩
  · rw [if_neg hz]
    exact ⟨errF_sums hb2 (by omega) (by omega) a0 a2 a6 k1, (decOk_sums k1).trans k2, sumsF_ok hb2, (sumsF_length _).trans hN⟩
theorem fit_self {l : List Int} (hE : errF l = 0) : fitF (gt l 20 == 8) (gt l 9) (decOk l).h = true := by
  obtain ⟨-, -, -, -, -, -, hB, -⟩ := errF_ok.1 hE
  obtain ⟨b6, b17, b1⟩ := bodyR_len hB
  show fitF (gt l 20 == 8) (gt l 9) ⟨_, _, gt l 9, spF l, dpF l⟩ = true
  unfold fitF spF dpF
  rcases proto_cases (gt l 9) with q | q | q | ⟨q1, q2, q3⟩
  · rw [q]; rfl
  · rw [q]; rfl
  · obtain ⟨-, c2, -, c4⟩ := b1 q
    rcases c2 with c2 | c2
    · rw [q, c2]; simpa using c4
    · rw [q, c2]; simpa using c4
  · simp [q1, q2, q3]
theorem fit_back {l : List Int} {h : Hd} (hb : BOk l) (hE : errF l = 0) (hf : fitF (gt l 20 == 8) (gt l 9) h = true) (ho : h.ok) : fitF (gt (rwB l h) 20 == 8) (gt (rwB l h) 9) (decOk l).h = true := by
  obtain ⟨k1, k2, -, -⟩ := rw_valid hb hE hf ho
  have hs := fit_self hE
  have hp := fit_proto hf
  have e9 : gt (rwB l h) 9 = gt l 9 := (congrArg (fun k => k.h.proto) k2).trans hp
  have ed : dpF (rwB l h) = h.dport := congrArg (fun k => k.h.dport) k2
  rw [e9]
  by_cases q : gt l 9 = 1
  · have h1 := echo_eq k1 (e9.trans q)
    rw [ed] at h1
    have h2 : (h.dport == 8) = (gt l 20 == 8) := by
      unfold fitF at hf
      rw [hp, q] at hf
      cases hq : gt l 20 == 8
      · rw [hq] at hf
        have : h.sport = 8 ∧ h.dport ≠ 8 := by simpa using hf
        simpa using this.2
      · rw [hq] at hf
        have : h.sport ≠ 8 ∧ h.dport = 8 := by simpa using hf
        simpa using this.2
    rw [← h1, h2]
    exact hs
  · have : ∀ e e' : Bool, fitF e (gt l 9) (decOk l).h = fitF e' (gt l 9) (decOk l).h := fun e e' => by
      unfold fitF
      have : ((decOk l).h.proto == 1) = false := by show (gt l 9 == 1) = false; simpa using q
      rw [this]; rfl
    rw [this _ (gt l 20 == 8)]
    exact hs
/-- what PacketRewritesHeaderOnly asks -/
theorem rw_both {l : List Int} {h : Hd} (hb : BOk l) (hE : errF l = 0) (ho : h.ok) : (rwE l h != 0) = true ∨ (rwE l h = 0 ∧ ∃ s d p sp dp t f pl x, decF l = ⟨⟨s, d, p, sp, dp⟩, t, f, pl⟩ ∧ rwF l h = x ∧ errF x = 0 ∧ decF x = ⟨h, t, f, pl⟩ ∧ BOk x ∧ x.length = l.length ∧ rwE x ⟨s, d, p, sp, dp⟩ = 0 ∧ errF (rwF x ⟨s, d, p, sp, dp⟩) = 0 ∧ decF (rwF x ⟨s, d, p, sp, dp⟩) = ⟨⟨s, d, p, sp, dp⟩, t, f, pl⟩ ∧ BOk (rwF x ⟨s, d, p, sp, dp⟩) ∧ (rwF x ⟨s, d, p, sp, dp⟩).length ≤ 576 ∧ (⟨s, d, p, sp, dp⟩ : Hd).ok) := by
  cases hf : fitF (gt l 20 == 8) (gt l 9) h
  · left
    rw [(rwE_bad hE hf).1]; rfl
  · right
    obtain ⟨e1, e2⟩ := rwE_ok hE hf
    obtain ⟨k1, k2, k3, k4⟩ := rw_valid hb hE hf ho
    have hback := fit_back hb hE hf ho
    obtain ⟨-, h576, -⟩ := errF_ok.1 hE
    have hok : (decOk l).h.ok := (dec_h hb hE).1
    obtain ⟨e3, e4⟩ := rwE_ok k1 hback
    obtain ⟨j1, j2, j3, j4⟩ := rw_valid k3 k1 hback hok
    refine ⟨e1, _, _, _, _, _, _, _, _, rwB l h, decF_ok hE, e2, k1, (decF_ok k1).trans k2, k3, k4, e3, ?_, ?_, ?_, ?_, hok⟩
    · show errF (rwF (rwB l h) (decOk l).h) = 0
      rw [e4]; exact j1
    · show decF (rwF (rwB l h) (decOk l).h) = _
      rw [e4, decF_ok j1, j2, k2]; rfl
    · show BOk (rwF (rwB l h) (decOk l).h)
      rw [e4]; exact j3
    · show (rwF (rwB l h) (decOk l).h).length ≤ 576
      rw [e4, j4, k4]; exact h576
theorem rw_all {l : List Int} {h : Hd} {s d p sp dp t f : Int} {pl : List Int} (hb : BOk l) (hE : errF l = 0) (ho : h.ok) (hK : decF l = ⟨⟨s, d, p, sp, dp⟩, t, f, pl⟩) :
    ∃ E F Y, rwE l h = E ∧ rwF l h = F ∧ ((E != 0) = true ∨ (E = 0 ∧ errF F = 0 ∧ decF F = ⟨h, t, f, pl⟩ ∧ BOk F ∧ F.length = l.length ∧ rwE F ⟨s, d, p, sp, dp⟩ = 0 ∧ rwF F ⟨s, d, p, sp, dp⟩ = Y ∧ errF Y = 0 ∧ decF Y = ⟨⟨s, d, p, sp, dp⟩, t, f, pl⟩ ∧ BOk Y ∧ Y.length ≤ 576 ∧ (⟨s, d, p, sp, dp⟩ : Hd).ok)) := by
  rcases rw_both hb hE ho with h1 | ⟨h1, s', d', p', sp', dp', t', f', pl', x, hK', h2, h3, h4, h5, h6, h7, h8, h9, h10, h11, h12⟩
  · exact ⟨_, _, [], rfl, rfl, .inl h1⟩
  · rw [hK] at hK'
    cases hK'
    exact ⟨_, _, _, rfl, h2, .inr ⟨h1, h3, h4, h5, h6, h7, rfl, h8, h9, h10, h11, h12⟩⟩
theorem enc_pos {k : Int} {F : List Int} {w w' : World} {e : Ending} (h : EncPost k F w e w') (h0 : 0 < F.length) : ∃ g c, F.length ≤ c ∧ e = .returned (.tuple #[.slice (some ⟨g, 0, none⟩) F.length c, .int .i64 k]) ∧ w'.ownsRow w.heap.size 5 1 (.slice (some ⟨g, 0, none⟩) F.length c) F.length (bc F) ∧ Below w.heap.size w w' := by
  obtain ⟨v, e1, hr, hb⟩ := h
  obtain ⟨g, c, rfl, hc⟩ := ownsPosN hr h0
  exact ⟨g, c, hc, e1, hr, hb⟩
end Go.Proofs.YtjfiipbjphabeaaDoor

/- PacketRewritesHeaderOnly: the walk. -/
namespace Go.Proofs.YtjfiipbjphabeaaDoor
open Go.RowKit
set_option maxRecDepth 100000

set_option maxHeartbeats 8000000 in
theorem rwonly_law (sl : Value) (zs : List Int) (w : World) (ht : Tops w) (hZ : ZsOk sl zs) (hr : ∀ s ∈ roS sl (ints zs), w.rangeAt s.g s.o s.xs) :
    Calls Tryd.prog 13 #[sl] w fun e w' => e = .returned (.bool true) ∧ Below w.heap.size w w' := by
  have hO := own_law hr
  obtain ⟨sa, sc, rfl, -⟩ := hZ.view
  go_enter Tryd.func13, Tryd.ntmps13
  (repeat' (first | go_skip | ((first | ((with_reducible apply wp_move_bool); (focus rfl)) | ((with_reducible apply wp_move_boolG); (focus rfl); (focus rfl))); intro cb hcb; (cases cb <;> (first | (with_reducible exact no_tf hcb) | (with_reducible exact no_ft hcb) | skip)); all_goals ((try simp only [Act.put]); (try simp only [List.setIfInBounds_toArray, List.set_cons_zero, List.set_cons_succ]))) | (go_big_may; (first | ((with_reducible refine is_load ?_); (first | (refine own_ldP hO (h := ?_)) | (refine own_ld (h := ?_)))) | ((with_reducible refine is_store ?_); (first | (refine own_stRp (hO := hO) (h := ?_); clear hO; intro wv hO) | (refine own_st1p (hO := hO) (h := ?_); clear hO; intro wv hO) | (refine own_stR (hO := hO) (h := ?_); clear hO; intro wv hO) | (refine own_st1 (hO := hO) (h := ?_); clear hO; intro wv hO))) | ((with_reducible refine is_alloc ?_); (first | (refine own_al (o := ⟨some 5, _, _, _, _, _⟩) (hO := hO) (h := ?_); clear hO; intro n5 wv hO) | (refine own_al (o := ⟨some 7, _, _, _, _, _⟩) (hO := hO) (h := ?_); clear hO; intro n7 wv hO) | (refine own_al (o := ⟨some 12, _, _, _, _, _⟩) (hO := hO) (h := ?_); clear hO; intro n12 wv hO) | (refine own_al (o := ⟨some 16, _, _, _, _, _⟩) (hO := hO) (h := ?_); clear hO; intro n16 wv hO))) | (go_at_call 20; (with_reducible refine (new_any _ _ _).mono ?_); rintro e wv ⟨n, rfl, hB, hn, hb⟩; replace hO := hO.gain hb hB hn; have hT := hO.tapeIn List.mem_cons_self (by (intro s hs; repeat (first | exact hs | exact List.mem_append_left _ hs | apply List.mem_append_right | apply List.mem_cons_of_mem))) (Nat.zero_le _); clear hb hB hn) | (go_at_call 23; (with_reducible refine (pvalid2_any hZ (hO.tapeIn (by (repeat (first | exact List.mem_cons_self | refine List.mem_cons_of_mem _ ?_))) (by (intro s hs; repeat (first | exact hs | exact List.mem_append_left _ hs | apply List.mem_append_right | apply List.mem_cons_of_mem))) hT.le)).mono ?_); rintro e wv ⟨v, i1, rfl, ⟨l1, G1, O1, C1, rfl, hc1, hv1, hn1, ho1, hE1, hb1, g1, g2⟩, hk9, hT1⟩; have hx9 := hO.lt; replace hO := (hO.after (by (repeat (first | exact Upd.here | apply Upd.there))) hk9 hT1.blk).addB hv1 (fun hm => by have := hx9 _ hm; omega); replace hT := hT1; have c9 := bc_at (l := l1) (k := 9) (by omega); have b9 := gt_bd hb1 9; obtain ⟨⟨⟨s, d, p, sp, dp⟩, t, f, pl⟩, hK⟩ : ∃ K, decF l1 = K := ⟨_, rfl⟩; clear hx9 hk9 hT1 hv1) | (go_at_call 41; (with_reducible refine (Calls.mono (rdecode_any (l := l1) _ ?_ hb1 (by omega)) (fun e w' h => dec_at h hK hE1)).mono ?_); (focus exact hO.roB (by (repeat (first | exact List.mem_cons_self | refine List.mem_cons_of_mem _ ?_))) hc1); rintro e wv ⟨v5, rfl, hv5, hn5, hb9⟩; replace hO := hO.gainRo hb9 hv5 hn5; replace hT := hO.tapeIn (by (repeat (first | exact List.mem_cons_self | refine List.mem_cons_of_mem _ ?_))) (by intro s hs; repeat (first | exact hs | exact List.mem_append_left _ hs | apply List.mem_append_right | apply List.mem_cons_of_mem)) hT.le; clear hb9 hn5; obtain ⟨a5, c5, rfl, -⟩ := IsCells.view hv5; replace hO := hO.sub (S' := ⟨G1, O1, bc l1⟩ :: (roC (.slice a5 pl.length c5) (bc pl) ++ roS (.slice sa zs.length sc) (ints zs))) (.refl _) (.refl _) (by intro s hs; simp only [List.mem_cons, List.mem_append] at hs ⊢; rcases hs with h | h | h <;> simp [h])) | (go_at_call 30; (with_reducible refine (pheader_any hZ (hO.tapeIn (by (repeat (first | exact List.mem_cons_self | refine List.mem_cons_of_mem _ ?_))) (by (intro s hs; repeat (first | exact hs | exact List.mem_append_left _ hs | apply List.mem_append_right | apply List.mem_cons_of_mem))) hT.le)).mono ?_); rintro e wv ⟨v, i1, rfl, ⟨⟨b1, b2, b3, b4, b5⟩, rfl, hh⟩, hk9, hT1⟩; replace hO := hO.after (by (repeat (first | exact Upd.here | apply Upd.there))) hk9 hT1.blk; replace hT := hT1; clear hT1 hk9; have HA : (⟨b1, b2, gt l1 9, b4, b5⟩ : Hd).ok := ⟨hh.1, hh.2.1, b9, hh.2.2.2⟩; obtain ⟨E, F, Y, hEE, hFF, hcase⟩ := rw_all hb1 hE1 HA hK; have hR1 : ∀ w, IsB w (.slice (some ⟨G1, O1, none⟩) l1.length C1) l1 → Calls Tryd.prog 42 #[.slice (some ⟨G1, O1, none⟩) l1.length C1, hv ⟨b1, b2, gt l1 9, b4, b5⟩] w (EncPost E F w) := (fun w hv => by rw [← hEE, ← hFF]; exact rewrite_any (l := l1) ⟨b1, b2, gt l1 9, b4, b5⟩ w hv hb1 (by omega) HA); have hR2 : ∀ w, IsB w (.slice (some ⟨G1, O1, none⟩) l1.length C1) l1 → Calls Tryd.prog 43 #[.slice (some ⟨G1, O1, none⟩) l1.length C1, hv ⟨b1, b2, gt l1 9, b4, b5⟩] w (EncPost E F w) := (fun w hv => by rw [← hEE, ← hFF]; exact rrewrite_any (l := l1) ⟨b1, b2, gt l1 9, b4, b5⟩ w hv hb1 (by omega) HA); have eH : decide ((⟨b1, b2, gt l1 9, b4, b5⟩ : Hd) = ⟨b1, b2, gt l1 9, b4, b5⟩) = true := (by simp); clear hEE hFF; rcases hcase with q1 | ⟨rfl, hEF, hKF, hbF, hLF, k1, k2, hEY, hKY, hbY, hLY, hoP⟩; all_goals (first | (have hR1b := fun w hv => Calls.mono (hR1 w hv) (fun e w' h => enc_pos h (by omega)); have hR3 : ∀ v w, IsB w v F → Calls Tryd.prog 42 #[v, hv ⟨s, d, p, sp, dp⟩] w (EncPost 0 Y w) := (fun v w hv => by rw [← k1, ← k2]; exact rewrite_any (l := F) ⟨s, d, p, sp, dp⟩ w hv hbF (by omega) hoP); have eL : ((F.length : Int) == (l1.length : Int)) = true := (by rw [hLF]; simp); have hF9 : F.length ≤ 576 := (by omega); have hF0 : 0 < F.length := (by omega); clear hR1 k1 k2 hLF) | skip)) | (go_at_call 42; (with_reducible refine (hR1b _ ?_).mono ?_); (focus exact hO.roB (by (repeat (first | exact List.mem_cons_self | refine List.mem_cons_of_mem _ ?_))) hc1); rintro e wv ⟨g3, c3, hc3, rfl, hrow, hb9⟩; replace hO := hO.gainRow hb9 hrow; clear hb9 hrow) | (go_at_call 42; (with_reducible refine (hR1 _ ?_).mono ?_); (focus exact hO.roB (by (repeat (first | exact List.mem_cons_self | refine List.mem_cons_of_mem _ ?_))) hc1); rintro e wv ⟨v3, rfl, hrow, hb9⟩; replace hO := hO.gainRow hb9 hrow; clear hb9 hrow) | (go_at_call 43; (with_reducible refine (hR2 _ ?_).mono ?_); (focus exact hO.roB (by (repeat (first | exact List.mem_cons_self | refine List.mem_cons_of_mem _ ?_))) hc1); rintro e wv ⟨v3, rfl, hrow, hb9⟩; replace hO := hO.gainRow hb9 hrow; clear hb9 hrow) | (go_at_call 42; (with_reducible refine (hR3 _ _ ?_).mono ?_); (focus exact hO.rowIs (by (repeat (first | exact List.mem_cons_self | refine List.mem_cons_of_mem _ ?_)))); rintro e wv ⟨v3, rfl, hrow, hb9⟩; replace hO := hO.gainRow hb9 hrow; clear hb9 hrow) | (go_at_call 28; (with_reducible refine (Calls.mono (decode_any (l := F) _ ?_ hbF (by omega)) (fun e w' h => dec_at h hKF hEF)).mono ?_); (focus exact hO.rowIs (by (repeat (first | exact List.mem_cons_self | refine List.mem_cons_of_mem _ ?_)))); rintro e wv ⟨v6, rfl, hv6, hn9, hb9⟩; replace hO := hO.gainRo hb9 hv6 hn9; clear hb9 hn9; obtain ⟨a6, c6, rfl, -⟩ := IsCells.view hv6) | (go_at_call 28; (with_reducible refine (Calls.mono (decode_any (l := Y) _ ?_ hbY (by omega)) (fun e w' h => dec_at h hKY hEY)).mono ?_); (focus exact hO.rowIs (by (repeat (first | exact List.mem_cons_self | refine List.mem_cons_of_mem _ ?_)))); rintro e wv ⟨v7, rfl, hv7, hn9, hb9⟩; replace hO := hO.gainRo hb9 hv7 hn9; clear hb9 hn9; obtain ⟨a7, c7, rfl, -⟩ := IsCells.view hv7) | ((with_reducible refine is_conv ?_); (refine own_conv (by rfl) rfl rfl (hO.isRo hv5 (by intro s hs; repeat (first | exact hs | exact List.mem_append_left _ hs | apply List.mem_append_right | apply List.mem_cons_of_mem))) ?_)) | ((with_reducible refine is_conv ?_); (refine own_conv (by rfl) rfl rfl (hO.isRo hv6 (by intro s hs; repeat (first | exact hs | exact List.mem_append_left _ hs | apply List.mem_append_right | apply List.mem_cons_of_mem))) ?_)) | ((with_reducible refine is_conv ?_); (refine own_conv (by rfl) rfl rfl (hO.isRo hv7 (by intro s hs; repeat (first | exact hs | exact List.mem_append_left _ hs | apply List.mem_append_right | apply List.mem_cons_of_mem))) ?_)) | (go_at_call 29; refine (same_any s d p sp dp t f pl _ _ _ (hO.isRo hv7 (by intro s hs; repeat (first | exact hs | exact List.mem_append_left _ hs | apply List.mem_append_right | apply List.mem_cons_of_mem))) (hO.isRo hv5 (by intro s hs; repeat (first | exact hs | exact List.mem_append_left _ hs | apply List.mem_append_right | apply List.mem_cons_of_mem)))).mono ?_; rintro e wv ⟨rfl, hb⟩; replace hO := hO.call hb; clear hb) | (go_at_call 18; refine (psane_any _ (hO.tops ht (by simp))).mono ?_; rintro e wv ⟨rfl, hb⟩; replace hO := hO.call hb; clear hb) | ((with_reducible refine is_load ?_); (refine own_ldW (hO := hO) (h := ?_))) | ((with_reducible refine is_store ?_); (refine own_stW (hO := hO) (h := ?_); clear hO; intro wv hO)))) | go_values | go_skip | go_guarded | go_step | go_upon | go_back | (simp only at *; go_simp) | (go_values <;> (try go_simp)) | (go_ite <;> go_prune <;> (try go_simp)) | (split <;> (first | (rename_i hx; exact (hx _ rfl).elim) | go_prune))))
  all_goals
    go_ret
    exact ⟨rfl, hO.keep.below⟩
end Go.Proofs.YtjfiipbjphabeaaDoor
