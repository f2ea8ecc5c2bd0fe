/- Opening packets. -/
import Derived.Test.YtjfiipbjphabeaaDoorMC
import Derived.Test.YtjfiipbjphabeaaDoorMF
import Derived.Test.YtjfiipbjphabeaaDoorMT
namespace Go.Proofs.YtjfiipbjphabeaaDoor
open Go.ChangeShapes Go.WideShapes Go.ChangeAt Go.RowKit
set_option maxRecDepth 100000
section
variable {H : Type} {enc : TypeId × Value → H} {w : World} {base : Nat} {spare : Nat → Bool} {held : Bool}
theorem eight_cells {α : Type} (l : List α) (h : l.length = 8) : ∃ a b c d e f g i, l = [a, b, c, d, e, f, g, i] := by
  match l, h with
  | [a, b, c, d, e, f, g, i], _ => exact ⟨a, b, c, d, e, f, g, i, rfl⟩
theorem open_hdCells {n : Nat} {a b c e f : Value} {x : DataW H × List MemPlace} (hn : DataW.trod enc Tryd.prog w base spare held n 26 [a, b, c, e, f] = some x) : ∃ h : Hd, [a, b, c, e, f] = hcs h ∧ h.ok := by
  have c1 : (Tryd.prog).cellsOf 23 = 1 := by kernel_rfl
  have c2 : (Tryd.prog).cellsOf 5 = 1 := by kernel_rfl
  have c3 : (Tryd.prog).cellsOf 24 = 1 := by kernel_rfl
  obtain ⟨xs, m, _, _, hl, hxl, hf⟩ := DataW.trod_struct Tryd.underlying26 hn
  have get : ∀ i, i < 5 → ∃ y, xs[i]? = some y := fun i hi => ⟨_, List.getElem?_eq_getElem (by have : xs.length = 5 := hxl; omega)⟩
  have h0 : DataW.trod enc Tryd.prog w base spare held m 23 (List.take ((Tryd.prog).cellsOf 23) (List.drop 0 [a, b, c, e, f])) = xs[0]? := hf 0 _ rfl
  have h1 : DataW.trod enc Tryd.prog w base spare held m 23 (List.take ((Tryd.prog).cellsOf 23) (List.drop 1 [a, b, c, e, f])) = xs[1]? := hf 1 _ rfl
  have h2 : DataW.trod enc Tryd.prog w base spare held m 5 (List.take ((Tryd.prog).cellsOf 5) (List.drop 2 [a, b, c, e, f])) = xs[2]? := hf 2 _ rfl
  have h3 : DataW.trod enc Tryd.prog w base spare held m 24 (List.take ((Tryd.prog).cellsOf 24) (List.drop 3 [a, b, c, e, f])) = xs[3]? := hf 3 _ rfl
  have h4 : DataW.trod enc Tryd.prog w base spare held m 24 (List.take ((Tryd.prog).cellsOf 24) (List.drop 4 [a, b, c, e, f])) = xs[4]? := hf 4 _ rfl
  obtain ⟨y0, z0⟩ := get 0 (by omega)
  obtain ⟨y1, z1⟩ := get 1 (by omega)
  obtain ⟨y2, z2⟩ := get 2 (by omega)
  obtain ⟨y3, z3⟩ := get 3 (by omega)
  obtain ⟨y4, z4⟩ := get 4 (by omega)
  simp only [c1, c2, c3, List.drop_zero, List.drop_succ_cons, List.take_succ_cons, List.take_zero, z0, z1, z2, z3, z4] at h0 h1 h2 h3 h4
  obtain ⟨s, rfl, w0⟩ := two_cells Tryd.underlying23 h0
  obtain ⟨d', rfl, w1⟩ := two_cells Tryd.underlying23 h1
  obtain ⟨pr, rfl, w2⟩ := two_cells Tryd.underlying5 h2
  obtain ⟨sp, rfl, w3⟩ := two_cells Tryd.underlying24 h3
  obtain ⟨dp, rfl, w4⟩ := two_cells Tryd.underlying24 h4
  exact ⟨⟨s, d', pr, sp, dp⟩, rfl, bounds_u32 w0, bounds_u32 w1, bounds_u8 w2, bounds_u16 w3, bounds_u16 w4⟩
theorem bytes_cell {r : Reach} {b0 n : Nat} {v : Value} {x : DataW H × List MemPlace} (hv : Cell.okWide Tryd.prog w r b0 22 v) (hn : DataW.trod enc Tryd.prog w base spare held n 22 [v] = some x) :
    ∃ l, IsB w v l ∧ BOk l ∧ l.length ≤ 9223372036854775807 := by
  rcases open_ints (P := Tryd.prog) (k := .u8) Tryd.underlying22 Tryd.underlying5 (by kernel_rfl) hn with ⟨h1, _⟩ | ⟨a, len, cap, zs, h1, _, hlc, hcm, hzl, _, hcell, hwf⟩
  · obtain rfl : v = .slice none 0 0 := by simpa using h1
    exact ⟨[], .inl ⟨rfl, rfl, rfl⟩, (fun x hx => by cases hx), by simp⟩
  · obtain rfl : v = .slice (some a) len cap := by simpa using h1
    have hle : len ≤ zs.length := by rw [hzl]; split <;> omega
    have hlen : (zs.take len).length = len := by simp; omega
    have hbd : ∀ z ∈ zs.take len, 0 ≤ z ∧ z ≤ 255 := fun z hz => bounds_u8 (hwf z (List.mem_of_mem_take hz))
    have hml : len ≤ 9223372036854775807 := by unfold maxLen at hcm; omega
    have hsp : a.spot = none := by
      unfold Cell.okWide at hv
      rw [Tryd.underlying22] at hv
      unfold Cell.ok at hv
      rw [Tryd.underlying22] at hv
      exact hv.2.2.2.1
    obtain ⟨g, o, sp⟩ := a
    dsimp only at hsp
    subst hsp
    refine ⟨zs.take len, .inr ⟨g, o, cap, by rw [hlen], by rw [hlen]; exact hlc, ?_⟩, hbd, by rw [hlen]; exact hml⟩
    intro j u hj
    have hjl := (List.getElem?_eq_some_iff.1 hj).1
    simp only [bc_length, hlen] at hjl
    have h2 := hcell j (by omega)
    have e : (⟨g, o, none⟩ : Addr).add j = ⟨g, o + j, none⟩ := by
      unfold Addr.add
      by_cases h0 : j = 0
      · rw [if_pos h0, h0]; rfl
      · rw [if_neg h0]
    rw [e] at h2
    rw [h2, ← hj]
    simp [bc, hjl, show j < zs.length by omega, List.getD]
theorem open_packet {r : Reach} {b0 : Nat} {v : Value} {d : DataW H} {p : List MemPlace} (hval : Value.okWide Tryd.prog w r b0 43 v) (h : DataW.Trod enc Tryd.prog w base spare held 43 v d p) :
    ∃ s d p sp dp t f pl pv, v = .agg (pcs ⟨s, d, p, sp, dp⟩ t f pv).toArray ∧ PkOk ⟨⟨s, d, p, sp, dp⟩, t, f, pl⟩ ∧ IsB w pv pl ∧ pl.length ≤ 9223372036854775807 := by
  obtain ⟨cs, rfl, hrow⟩ : ∃ cs, v = .agg cs ∧ Row.okWide Tryd.prog w r b0 43 cs := by
    simp only [Value.okWide, Tryd.underlying43] at hval
    obtain ⟨cs, h1, _, h2⟩ := hval
    exact ⟨cs, h1, h2⟩
  obtain ⟨n, hn⟩ := h
  have c8 : (Tryd.prog).cellsOf 43 = 8 := by kernel_rfl
  have c5 : (Tryd.prog).cellsOf 26 = 5 := by kernel_rfl
  have c1 : (Tryd.prog).cellsOf 3 = 1 := by kernel_rfl
  have c2 : (Tryd.prog).cellsOf 22 = 1 := by kernel_rfl
  obtain ⟨xs, m, _, _, hl, hxl, hf⟩ := DataW.trod_struct Tryd.underlying43 hn
  rw [c8] at hl
  simp only [Value.cells] at hl hf
  obtain ⟨l⟩ := cs
  obtain ⟨a1, a2, a3, a4, a5, a6, a7, a8, rfl⟩ := eight_cells l hl
  have get : ∀ i, i < 4 → ∃ y, xs[i]? = some y := fun i hi => ⟨_, List.getElem?_eq_getElem (by have : xs.length = 4 := hxl; omega)⟩
  have h0 : DataW.trod enc Tryd.prog w base spare held m 26 (List.take ((Tryd.prog).cellsOf 26) (List.drop 0 [a1, a2, a3, a4, a5, a6, a7, a8])) = xs[0]? := hf 0 _ rfl
  have h1 : DataW.trod enc Tryd.prog w base spare held m 3 (List.take ((Tryd.prog).cellsOf 3) (List.drop 5 [a1, a2, a3, a4, a5, a6, a7, a8])) = xs[1]? := hf 1 _ rfl
  have h2 : DataW.trod enc Tryd.prog w base spare held m 3 (List.take ((Tryd.prog).cellsOf 3) (List.drop 6 [a1, a2, a3, a4, a5, a6, a7, a8])) = xs[2]? := hf 2 _ rfl
  have h3 : DataW.trod enc Tryd.prog w base spare held m 22 (List.take ((Tryd.prog).cellsOf 22) (List.drop 7 [a1, a2, a3, a4, a5, a6, a7, a8])) = xs[3]? := hf 3 _ rfl
  obtain ⟨y0, z0⟩ := get 0 (by omega)
  obtain ⟨y1, z1⟩ := get 1 (by omega)
  obtain ⟨y2, z2⟩ := get 2 (by omega)
  obtain ⟨y3, z3⟩ := get 3 (by omega)
  simp only [c1, c2, c5, List.drop_zero, List.drop_succ_cons, List.take_succ_cons, List.take_zero, z0, z1, z2, z3] at h0 h1 h2 h3
  obtain ⟨⟨s, d', pr, sp, dp⟩, hh, hok⟩ := open_hdCells h0
  obtain ⟨t, rfl, w1⟩ := two_cells Tryd.underlying3 h1
  obtain ⟨f, rfl, w2⟩ := two_cells Tryd.underlying3 h2
  have hc : Cell.okWide Tryd.prog w r b0 22 a8 := by
    obtain ⟨ts, ht, _, hr⟩ := hrow
    have hts : (Tryd.prog).cellTypes (Tryd.prog).depth 43 = some [23, 23, 5, 24, 24, 3, 3, 22] := by kernel_rfl
    rw [hts] at ht
    obtain rfl := Option.some.inj ht
    obtain ⟨u, hu, hk⟩ := hr 7 a8 rfl
    obtain rfl : 22 = u := by simpa using hu
    exact hk
  obtain ⟨pl, hB, hb, hn'⟩ := bytes_cell hc h3
  simp only [List.cons.injEq, and_true] at hh
  obtain ⟨rfl, rfl, rfl, rfl, rfl⟩ := hh
  have k1 := bounds_i64 w1
  have k2 := bounds_i64 w2
  exact ⟨s, d', pr, sp, dp, t, f, pl, a8, rfl, ⟨hok, k2.1, k2.2, hb, k1.1, k1.2⟩, hB, hn'⟩
end
end Go.Proofs.YtjfiipbjphabeaaDoor

/- PacketWrites, PacketComesBack: the walks. -/
namespace Go.Proofs.YtjfiipbjphabeaaDoor
open Go.RowKit
set_option maxRecDepth 100000

theorem Own.addC {M : List Nat} {w0 w : World} {X : List Chunk} {R : List Row} {S : List Ro} (hO : Own M w0 X R S w) {v : Value} {k : Nat} {xs : List Value} (hv : IsCells w v k xs) (hx : ∀ g, v.ownBlock = some g → g ∉ excl X R) : Own M w0 X R (roC v xs ++ S) w := by
  rcases hv with ⟨rfl, _, _⟩ | ⟨g, o, c, rfl, _, hr⟩
  · exact hO
  · exact hO.addRo ⟨g, o, xs⟩ hr fun _ => hx g rfl
/-- an encoding, or none -/
theorem encPost_both {p : Pk} {w w' : World} {e : Ending} (hp : PkOk p) (h : EncPost (encE p) (encF p) w e w') :
    (∃ l g c, l.length ≤ c ∧ e = .returned (.tuple #[.slice (some ⟨g, 0, none⟩) l.length c, .int .i64 0]) ∧ w'.ownsRow w.heap.size 5 1 (.slice (some ⟨g, 0, none⟩) l.length c) l.length (bc l) ∧ Below w.heap.size w w' ∧ errF l = 0 ∧ decF l = p ∧ BOk l ∧ l.length ≤ 576) ∨
    (∃ k A c, (k != 0) = true ∧ (k == 0) = false ∧ e = .returned (.tuple #[.slice A 0 c, .int .i64 k]) ∧ Below w.heap.size w w') := by
  by_cases hE : encE p = 0
  · have hF : encF p = encB p := by unfold encF; rw [hE]; rfl
    rw [hE, hF] at h
    obtain ⟨h1, h2, h3, h4, h5⟩ := enc_valid hp hE
    obtain ⟨h6, h7, -⟩ := errF_ok.1 h1
    obtain ⟨v, e1, hr, hbl⟩ := h
    obtain ⟨g, c, rfl, hc⟩ := ownsPosN hr (by omega)
    exact .inl ⟨_, g, c, hc, e1, hr, hbl, h1, (decF_ok h1).trans h2, h3, h7⟩
  · have hF : encF p = [] := by unfold encF; rw [if_neg (by simpa using hE)]
    rw [hF] at h
    obtain ⟨v, e1, hr, hbl⟩ := h
    obtain ⟨A, c, rfl, -⟩ := IsCells.view (rowIsB (l := []) (row_base hr))
    exact .inr ⟨_, A, c, by simpa using hE, by simpa using hE, e1, hbl⟩
set_option maxHeartbeats 8000000 in
theorem writes_law (sl : Value) (zs : List Int) (s d p sp dp t f : Int) (pl : List Int) (pv : Value) (w : World) (ht : Tops w) (hZ : ZsOk sl zs) (hr : ∀ s ∈ roS sl (ints zs), w.rangeAt s.g s.o s.xs) (ho : PkOk ⟨⟨s, d, p, sp, dp⟩, t, f, pl⟩) (hv0 : IsB w pv pl) (hl : pl.length ≤ 9223372036854775807) :
    Calls Tryd.prog 6 #[sl, .agg (pcs ⟨s, d, p, sp, dp⟩ t f pv).toArray] w fun e w' => e = .returned (.bool true) ∧ Below w.heap.size w w' := by
  have hO := own_law2 hr hv0
  obtain ⟨sa, sc, rfl, -⟩ := hZ.view
  obtain ⟨a, c, rfl, hc, -, h0, h1⟩ := IsCells.view hv0
  go_enter Tryd.func6, Tryd.ntmps6
  go_wp2_with (first | ((with_reducible refine is_load ?_); (first | (refine own_ldP hO (h := ?_)) | (refine own_ld (h := ?_)))) | ((with_reducible refine is_store ?_); (first | (refine own_stRp (hO := hO) (h := ?_); clear hO; intro wv hO) | (refine own_st1p (hO := hO) (h := ?_); clear hO; intro wv hO) | (refine own_stR (hO := hO) (h := ?_); clear hO; intro wv hO) | (refine own_st1 (hO := hO) (h := ?_); clear hO; intro wv hO))) | ((with_reducible refine is_box ?_); (first | (refine own_bx (o := ⟨some 3, _, _, _, _, _⟩) (hO := hO) (h := ?_); clear hO; intro n3 wv hO))) | ((with_reducible refine is_alloc ?_); (first | (refine own_al (o := ⟨some 7, _, _, _, _, _⟩) (hO := hO) (h := ?_); clear hO; intro n7 wv hO))) | (go_at_call 20; (with_reducible refine (new_any _ _ _).mono ?_); rintro e wv ⟨n, rfl, hB, hn, hb⟩; replace hO := hO.gain hb hB hn; have hT := hO.tapeIn List.mem_cons_self (by (intro s hs; repeat (first | exact hs | exact List.mem_append_left _ hs | apply List.mem_append_right | apply List.mem_cons_of_mem))) (Nat.zero_le _); clear hb hB hn) | ((with_reducible refine is_load ?_); (refine own_ldW (hO := hO) (h := ?_))) | ((with_reducible refine is_store ?_); (refine own_stW (hO := hO) (h := ?_); clear hO; intro wv hO)))
  go_loopw [6] (fun q wr => ∃ (k i : Nat), k ≤ 4 ∧ q = .int .i64 k ∧ TapeIn wr n (.slice sa zs.length sc) zs i ∧ Own [] w [⟨n, tcs (.slice sa zs.length sc) i, 64⟩, ⟨n3, [.int .u32 s, .int .u32 d, .int .u8 p, .int .u16 sp, .int .u16 dp, .int .i64 t, .int .i64 f, .slice a pl.length c], 43⟩] [] (roS (.slice sa zs.length sc) (ints zs) ++ roC (.slice a pl.length c) (bc pl)) wr) (fun q _ => 4 - (intOf q).toNat)
  case atStart => exact ⟨0, 0, by omega, rfl, (hO.tapeIn (by (repeat (first | exact List.mem_cons_self | refine List.mem_cons_of_mem _ ?_))) (by (intro s hs; repeat (first | exact hs | exact List.mem_append_left _ hs | apply List.mem_append_right | apply List.mem_cons_of_mem))) hT.le), hO⟩
  case round =>
    clear hO hT
    obtain ⟨k, i, hk, rfl, hT, hO⟩ := hrel
    by_cases hlt : k < 4
    · have d1 : decide ((k : Int) < 4) = true := by simp; omega
      go_wp2_with (first | ((with_reducible refine is_load ?_); (first | (refine own_ldP hO (h := ?_)) | (refine own_ld (h := ?_)))) | ((with_reducible refine is_store ?_); (first | (refine own_stRp (hO := hO) (h := ?_); clear hO; intro wv hO) | (refine own_st1p (hO := hO) (h := ?_); clear hO; intro wv hO) | (refine own_stR (hO := hO) (h := ?_); clear hO; intro wv hO) | (refine own_st1 (hO := hO) (h := ?_); clear hO; intro wv hO))) | ((with_reducible refine is_box ?_); (first | (refine own_bx (o := ⟨some 3, _, _, _, _, _⟩) (hO := hO) (h := ?_); clear hO; intro n3 wv hO))) | ((with_reducible refine is_alloc ?_); (first | (refine own_al (o := ⟨some 7, _, _, _, _, _⟩) (hO := hO) (h := ?_); clear hO; intro n7 wv hO))) | (go_at_call 25; (with_reducible refine (made_any hZ (hO.tapeIn (by (repeat (first | exact List.mem_cons_self | refine List.mem_cons_of_mem _ ?_))) (by (intro s hs; repeat (first | exact hs | exact List.mem_append_left _ hs | apply List.mem_append_right | apply List.mem_cons_of_mem))) hT.le)).mono ?_); rintro e wv ⟨v, i1, rfl, ⟨s1, d1, p1, sp1, dp1, t1, f1, pl1, pv1, rfl, hok1, hpl1, hpv1, hnv1⟩, hk9, hT1⟩; have hx9 := hO.lt; replace hO := (hO.after (by (repeat (first | exact Upd.here | apply Upd.there))) hk9 hT1.blk).addC hpv1 (fun g hg hm => by have := hx9 _ hm; have := hnv1 g hg; omega); replace hT := hT1; clear hx9 hk9 hT1 hnv1; obtain ⟨a1, k1, rfl, -⟩ := IsCells.view hpv1) | (go_at_call 26; (with_reducible refine (encode_any s1 d1 p1 sp1 dp1 t1 f1 pl1 _ _ hok1 ?_ (by omega)).mono ?_); (focus exact hO.isRo hpv1 (by intro s hs; repeat (first | exact hs | exact List.mem_append_left _ hs | apply List.mem_append_right | apply List.mem_cons_of_mem))); rintro e wv ⟨v3, rfl, hrow, hb9⟩; replace hO := hO.gainRow hb9 hrow; clear hb9 hrow) | (go_at_call 27; (with_reducible refine (rencode_any s1 d1 p1 sp1 dp1 t1 f1 pl1 _ _ hok1 ?_ (by omega)).mono ?_); (focus exact hO.isRo hpv1 (by intro s hs; repeat (first | exact hs | exact List.mem_append_left _ hs | apply List.mem_append_right | apply List.mem_cons_of_mem))); rintro e wv ⟨v3, rfl, hrow, hb9⟩; replace hO := hO.gainRow hb9 hrow; clear hb9 hrow) | ((with_reducible refine is_conv ?_); (refine own_conv (by rfl) rfl rfl (hO.rowIs (by (repeat (first | exact List.mem_cons_self | refine List.mem_cons_of_mem _ ?_)))) ?_)) | ((with_reducible refine is_load ?_); (refine own_ldW (hO := hO) (h := ?_))) | ((with_reducible refine is_store ?_); (refine own_stW (hO := hO) (h := ?_); clear hO; intro wv hO)))
      go_roundw
      case rel =>
        have hT2 := (hO.tapeIn (by (repeat (first | exact List.mem_cons_self | refine List.mem_cons_of_mem _ ?_))) (by (intro s hs; repeat (first | exact hs | exact List.mem_append_left _ hs | apply List.mem_append_right | apply List.mem_cons_of_mem))) hT.le)
        exact ⟨k + 1, _, hlt, by go_num, hT2, hO.sub (by repeat (first | exact List.Sublist.slnil | apply List.Sublist.cons_cons | apply List.Sublist.cons)) (by simp) (fun _ h => List.mem_append_right _ h)⟩
      case measure => simp [intOf]; omega
    · have d1 : decide ((k : Int) < 4) = false := by simp; omega
      by_cases hbig : 1000 < pl.length
      · have d2 : decide (1000 < (pl.length : Int)) = true := by simp; omega
        go_wp2_with (first | ((with_reducible refine is_load ?_); (first | (refine own_ldP hO (h := ?_)) | (refine own_ld (h := ?_)))) | ((with_reducible refine is_store ?_); (first | (refine own_stRp (hO := hO) (h := ?_); clear hO; intro wv hO) | (refine own_st1p (hO := hO) (h := ?_); clear hO; intro wv hO) | (refine own_stR (hO := hO) (h := ?_); clear hO; intro wv hO) | (refine own_st1 (hO := hO) (h := ?_); clear hO; intro wv hO))) | ((with_reducible refine is_box ?_); (first | (refine own_bx (o := ⟨some 3, _, _, _, _, _⟩) (hO := hO) (h := ?_); clear hO; intro n3 wv hO))) | ((with_reducible refine is_alloc ?_); (first | (refine own_al (o := ⟨some 7, _, _, _, _, _⟩) (hO := hO) (h := ?_); clear hO; intro n7 wv hO))) | (go_at_call 18; refine (psane_any _ (hO.tops ht (by simp))).mono ?_; rintro e wv ⟨rfl, hb⟩; replace hO := hO.call hb; clear hb) | ((with_reducible refine is_load ?_); (refine own_ldW (hO := hO) (h := ?_))) | ((with_reducible refine is_store ?_); (refine own_stW (hO := hO) (h := ?_); clear hO; intro wv hO)))
        go_ret
        exact ⟨rfl, hO.keep.below⟩
      · have d2 : decide (1000 < (pl.length : Int)) = false := by simp; omega
        go_wp2_with (first | ((with_reducible refine is_load ?_); (first | (refine own_ldP hO (h := ?_)) | (refine own_ld (h := ?_)))) | ((with_reducible refine is_store ?_); (first | (refine own_stRp (hO := hO) (h := ?_); clear hO; intro wv hO) | (refine own_st1p (hO := hO) (h := ?_); clear hO; intro wv hO) | (refine own_stR (hO := hO) (h := ?_); clear hO; intro wv hO) | (refine own_st1 (hO := hO) (h := ?_); clear hO; intro wv hO))) | ((with_reducible refine is_box ?_); (first | (refine own_bx (o := ⟨some 3, _, _, _, _, _⟩) (hO := hO) (h := ?_); clear hO; intro n3 wv hO))) | ((with_reducible refine is_alloc ?_); (first | (refine own_al (o := ⟨some 7, _, _, _, _, _⟩) (hO := hO) (h := ?_); clear hO; intro n7 wv hO))) | (go_at_call 26; (with_reducible refine (encode_any s d p sp dp t f pl _ _ ho ?_ (by omega)).mono ?_); (focus exact hv0.below hO.keep.below); rintro e wv ⟨v3, rfl, hrow, hb9⟩; replace hO := hO.gainRow hb9 hrow; clear hb9 hrow) | (go_at_call 27; (with_reducible refine (rencode_any s d p sp dp t f pl _ _ ho ?_ (by omega)).mono ?_); (focus exact hv0.below hO.keep.below); rintro e wv ⟨v3, rfl, hrow, hb9⟩; replace hO := hO.gainRow hb9 hrow; clear hb9 hrow) | ((with_reducible refine is_conv ?_); (refine own_conv (by rfl) rfl rfl (hO.rowIs (by (repeat (first | exact List.mem_cons_self | refine List.mem_cons_of_mem _ ?_)))) ?_)) | (go_at_call 18; refine (psane_any _ (hO.tops ht (by simp))).mono ?_; rintro e wv ⟨rfl, hb⟩; replace hO := hO.call hb; clear hb) | ((with_reducible refine is_load ?_); (refine own_ldW (hO := hO) (h := ?_))) | ((with_reducible refine is_store ?_); (refine own_stW (hO := hO) (h := ?_); clear hO; intro wv hO)))
        go_ret
        exact ⟨rfl, hO.keep.below⟩
end Go.Proofs.YtjfiipbjphabeaaDoor
