/- PacketReads: the walk. -/
import Derived.Deep.Cut
import Derived.Test.YtjfiipbjphabeaaDoorML
namespace Go.Proofs.YtjfiipbjphabeaaDoor
open Go.RowKit
set_option maxRecDepth 100000

/-- a tape of the law's own beside what came in -/
theorem own_law2 {w : World} {sl : Value} {zs : List Int} (hr : ∀ s ∈ roS sl (ints zs), w.rangeAt s.g s.o s.xs) {v : Value} {k : Nat} {xs : List Value} (hv : IsCells w v k xs) : Own [] w [] [] (roS sl (ints zs) ++ roC v xs) w := by
  obtain ⟨a, c, _, _, hr', _⟩ := hv.view
  exact ⟨Keep.refl _ _, fun c hc => (by cases hc), fun r hr => (by cases hr), fun s hs => by
    rcases List.mem_append.1 hs with hs | hs
    · exact hr s hs
    · exact hr' s hs, by simp [excl], by simp [excl], by simp [excl]⟩
set_option maxHeartbeats 8000000 in
theorem preadsL_law (sl : Value) (zs : List Int) (v : Value) (l : List Int) (w : World) (ht : Tops w) (hZ : ZsOk sl zs) (hr : ∀ s ∈ roS sl (ints zs), w.rangeAt s.g s.o s.xs) (hv0 : IsB w v l) (hb : BOk l) (hl : l.length ≤ 9223372036854775807) :
    Calls Tryd.prog 5 #[sl, v] w fun e w' => e = .returned (.bool true) ∧ Below w.heap.size w w' := by
  have hO := own_law2 hr hv0
  obtain ⟨sa, sc, rfl, -⟩ := hZ.view
  obtain ⟨a, c, rfl, hc, -, h0, h1⟩ := IsCells.view hv0
  go_enter Tryd.func5, Tryd.ntmps5
  go_wp2_with (first | ((with_reducible refine is_load ?_); (first | (refine own_ldP hO (h := ?_)) | (refine own_ld (h := ?_)))) | ((with_reducible refine is_store ?_); (first | (refine own_stRp (hO := hO) (h := ?_); clear hO; intro wv hO) | (refine own_st1p (hO := hO) (h := ?_); clear hO; intro wv hO) | (refine own_stR (hO := hO) (h := ?_); clear hO; intro wv hO) | (refine own_st1 (hO := hO) (h := ?_); clear hO; intro wv hO))) | ((with_reducible refine is_append ?_); (first | (refine own_ap (o := ⟨some 34, _, _, _, _, _⟩) (hO := hO) (h := ?_); clear hO; intro g34 c34 wv hO))) | (go_at_call 20; (with_reducible refine (new_any _ _ _).mono ?_); rintro e wv ⟨n, rfl, hB, hn, hb⟩; replace hO := hO.gain hb hB hn; have hT := hO.tapeIn List.mem_cons_self (by (intro s hs; repeat (first | exact hs | exact List.mem_append_left _ hs | apply List.mem_append_right | apply List.mem_cons_of_mem))) (Nat.zero_le _); clear hb hB hn) | ((with_reducible refine is_load ?_); (refine own_ldW (hO := hO) (h := ?_))) | ((with_reducible refine is_store ?_); (refine own_stW (hO := hO) (h := ?_); clear hO; intro wv hO)))
  go_loopw [6] (fun q wr => ∃ (k i : Nat), k ≤ 4 ∧ q = .int .i64 k ∧ TapeIn wr n (.slice sa zs.length sc) zs i ∧ Own [] w [⟨n, tcs (.slice sa zs.length sc) i, 64⟩] [] (roS (.slice sa zs.length sc) (ints zs) ++ roC (.slice a l.length c) (bc l)) wr) (fun q _ => 4 - (intOf q).toNat)
  case atStart => exact ⟨0, 0, by omega, rfl, (hO.tapeIn (by (repeat (first | exact List.mem_cons_self | refine List.mem_cons_of_mem _ ?_))) (by (intro s hs; repeat (first | exact hs | exact List.mem_append_left _ hs | apply List.mem_append_right | apply List.mem_cons_of_mem))) hT.le), hO⟩
  case round =>
    clear hO hT
    obtain ⟨k, i, hk, rfl, hT, hO⟩ := hrel
    by_cases hlt : k < 4
    · have d1 : decide ((k : Int) < 4) = true := by simp; omega
      go_wp2_with (first | ((with_reducible refine is_load ?_); (first | (refine own_ldP hO (h := ?_)) | (refine own_ld (h := ?_)))) | ((with_reducible refine is_store ?_); (first | (refine own_stRp (hO := hO) (h := ?_); clear hO; intro wv hO) | (refine own_st1p (hO := hO) (h := ?_); clear hO; intro wv hO) | (refine own_stR (hO := hO) (h := ?_); clear hO; intro wv hO) | (refine own_st1 (hO := hO) (h := ?_); clear hO; intro wv hO))) | ((with_reducible refine is_append ?_); (first | (refine own_ap (o := ⟨some 34, _, _, _, _, _⟩) (hO := hO) (h := ?_); clear hO; intro g34 c34 wv hO))) | (go_at_call 23; (with_reducible refine (pvalid2_any hZ (hO.tapeIn (by (repeat (first | exact List.mem_cons_self | refine List.mem_cons_of_mem _ ?_))) (by (intro s hs; repeat (first | exact hs | exact List.mem_append_left _ hs | apply List.mem_append_right | apply List.mem_cons_of_mem))) hT.le)).mono ?_); rintro e wv ⟨v, i1, rfl, hv, hk, hT1⟩; replace hO := hO.after (by (repeat (first | exact Upd.here | apply Upd.there))) hk hT1.blk; replace hT := hT1; clear hT1 hk; obtain ⟨l1, G1, O1, C1, rfl, hc1, hv1, hn1, ho1, hE1, hb1, g1, g2⟩ := hv) | (go_at_call 22; (with_reducible refine (bend_any hZ (hO.tapeIn (by (repeat (first | exact List.mem_cons_self | refine List.mem_cons_of_mem _ ?_))) (by (intro s hs; repeat (first | exact hs | exact List.mem_append_left _ hs | apply List.mem_append_right | apply List.mem_cons_of_mem))) hT.le) hv1 ho1 hb1 g1 g2).mono ?_); rintro e wv ⟨v, i1, rfl, hv, hk, hT1⟩; replace hO := hO.after (by (repeat (first | exact Upd.here | apply Upd.there))) hk hT1.blk; replace hT := hT1; clear hT1 hk; obtain ⟨l2, hv2, hn2, hb2, g3⟩ := hv) | (go_at_call 21; refine (preads_any _ hv2 hb2 (by omega)).mono ?_; rintro e wv ⟨rfl, hb⟩; replace hO := hO.call hb; clear hb) | ((with_reducible refine is_load ?_); (refine own_ldW (hO := hO) (h := ?_))) | ((with_reducible refine is_store ?_); (refine own_stW (hO := hO) (h := ?_); clear hO; intro wv hO)))
      go_roundw
      case rel => exact ⟨k + 1, _, by omega, by go_num, (hO.tapeIn (by (repeat (first | exact List.mem_cons_self | refine List.mem_cons_of_mem _ ?_))) (by (intro s hs; repeat (first | exact hs | exact List.mem_append_left _ hs | apply List.mem_append_right | apply List.mem_cons_of_mem))) hT.le), hO⟩
      case measure => simp [intOf]; omega
    · have d1 : decide ((k : Int) < 4) = false := by simp; omega
      by_cases hbig : 1000 < l.length
      · have d2 : decide (1000 < (l.length : Int)) = true := by simp; omega
        go_wp2_with (first | ((with_reducible refine is_load ?_); (first | (refine own_ldP hO (h := ?_)) | (refine own_ld (h := ?_)))) | ((with_reducible refine is_store ?_); (first | (refine own_stRp (hO := hO) (h := ?_); clear hO; intro wv hO) | (refine own_st1p (hO := hO) (h := ?_); clear hO; intro wv hO) | (refine own_stR (hO := hO) (h := ?_); clear hO; intro wv hO) | (refine own_st1 (hO := hO) (h := ?_); clear hO; intro wv hO))) | ((with_reducible refine is_append ?_); (first | (refine own_ap (o := ⟨some 34, _, _, _, _, _⟩) (hO := hO) (h := ?_); clear hO; intro g34 c34 wv hO))) | (go_at_call 18; refine (psane_any _ (hO.tops ht (by simp))).mono ?_; rintro e wv ⟨rfl, hb⟩; replace hO := hO.call hb; clear hb) | ((with_reducible refine is_load ?_); (refine own_ldW (hO := hO) (h := ?_))) | ((with_reducible refine is_store ?_); (refine own_stW (hO := hO) (h := ?_); clear hO; intro wv hO)))
        go_ret
        exact ⟨rfl, hO.keep.below⟩
      · have d2 : decide (1000 < (l.length : Int)) = false := by simp; omega
        have hrd := fun w hv => preads_any (v := .slice a l.length c) (l := l) w hv hb (by omega)
        by_cases hsm : l.length < 20
        · have d3 : decide ((l.length : Int) < 20) = true := by simp; omega
          go_wp2_with (first | ((with_reducible refine is_load ?_); (first | (refine own_ldP hO (h := ?_)) | (refine own_ld (h := ?_)))) | ((with_reducible refine is_store ?_); (first | (refine own_stRp (hO := hO) (h := ?_); clear hO; intro wv hO) | (refine own_st1p (hO := hO) (h := ?_); clear hO; intro wv hO) | (refine own_stR (hO := hO) (h := ?_); clear hO; intro wv hO) | (refine own_st1 (hO := hO) (h := ?_); clear hO; intro wv hO))) | ((with_reducible refine is_append ?_); (first | (refine own_ap (o := ⟨some 34, _, _, _, _, _⟩) (hO := hO) (h := ?_); clear hO; intro g34 c34 wv hO))) | (go_at_call 18; refine (psane_any _ (hO.tops ht (by simp))).mono ?_; rintro e wv ⟨rfl, hb⟩; replace hO := hO.call hb; clear hb) | (go_at_call 21; (with_reducible refine (hrd _ ?_).mono ?_); (focus exact hv0.below hO.keep.below); rintro e wv ⟨rfl, hb9⟩; replace hO := hO.call hb9; clear hb9) | ((with_reducible refine is_load ?_); (refine own_ldW (hO := hO) (h := ?_))) | ((with_reducible refine is_store ?_); (refine own_stW (hO := hO) (h := ?_); clear hO; intro wv hO)))
          go_ret
          exact ⟨rfl, hO.keep.below⟩
        · have d3 : decide ((l.length : Int) < 20) = false := by simp; omega
          obtain ⟨x1, hx1⟩ : ∃ x1, ((((l.set 0 69).set 2 ((l.length : Int) / 256)).set 3 ((l.length : Int) % 256)).set 6 0).set 7 0 = x1 := ⟨_, rfl⟩
          have hn1 : x1.length = l.length := by rw [← hx1]; simp
          have hb1 : BOk x1 := by rw [← hx1]; exact ((((hb.set 0 (by omega) (by omega)).set 2 (by omega) (by omega)).set 3 (by omega) (by omega)).set 6 (by omega) (by omega)).set 7 (by omega) (by omega)
          have HX := Lib.hid hx1
          have hm := fun v w hv => mend_any (v := v) (l := x1) false w hv hb1 (by omega) (by omega)
          have hny := (mendF_length x1 false).trans hn1
          have hby := mendF_ok hb1 false
          generalize mendF x1 false = y at *
          have hry := fun v w hv => preads_any (v := v) (l := y) w hv hby (by omega)
          clear hx1 hb hby hb1 d1 d2
          go_wp2_with (first | ((with_reducible refine is_load ?_); (first | (refine own_ldP hO (h := ?_)) | (refine own_ld (h := ?_)))) | ((with_reducible refine is_store ?_); (first | (refine own_stRp (hO := hO) (h := ?_); clear hO; intro wv hO) | (refine own_st1p (hO := hO) (h := ?_); clear hO; intro wv hO) | (refine own_stR (hO := hO) (h := ?_); clear hO; intro wv hO) | (refine own_st1 (hO := hO) (h := ?_); clear hO; intro wv hO))) | ((with_reducible refine is_append ?_); (first | (refine own_ap (o := ⟨some 34, _, _, _, _, _⟩) (hO := hO) (h := ?_); clear hO; intro g34 c34 wv hO))) | ((with_reducible refine is_build ?_); (refine own_build0 (o := ⟨some 32, _, _, _, _, _⟩) hO (by rfl) rfl slice_u8 ?_); clear hO; intro n32 wv hO) | ((with_reducible refine is_append ?_); (refine own_appendP (o := ⟨some 34, _, _, _, _, _⟩) hO rfl rfl slice_u8 rfl rfl (src_of_cells (hO.isRo hv0 (by intro s hs; repeat (first | exact hs | exact List.mem_append_left _ hs | apply List.mem_append_right | apply List.mem_cons_of_mem))) (by simp [bc_length]; try omega)) (bc_one _) (fun _ => by repeat (first | exact UpdR.here | apply UpdR.there)) (by first | omega | (simp; omega)) (by unfold maxLen; first | omega | (simp; omega)) (by first | omega | (simp; done) | (simp; omega)) ?_); clear hO; intro g34 c34 wv hO; (try simp only [Nat.zero_add, List.nil_append] at hO)) | (go_at_call 21; (with_reducible refine (hrd _ ?_).mono ?_); (focus exact hv0.below hO.keep.below); rintro e wv ⟨rfl, hb9⟩; replace hO := hO.call hb9; clear hb9) | (go_at_call 24; (rw [HX.out] at hO); refine (hm _ _ (show OwnsB _ 0 _ x1 by unfold OwnsB; rw [hn1]; exact hO.row _ List.mem_cons_self)).mono ?_; rintro e wv ⟨rfl, hk9, hr'⟩; rw [hn1] at hr'; replace hO := hO.afterRow .here hk9 hr'; clear hk9 hr') | (go_at_call 21; (with_reducible refine (hry _ _ ?_).mono ?_); (focus (show IsB _ _ y; unfold IsB; rw [hny]; exact hO.rowIs List.mem_cons_self)); rintro e wv ⟨rfl, hb9⟩; replace hO := hO.call hb9; clear hb9) | (go_at_call 18; refine (psane_any _ (hO.tops ht (by simp))).mono ?_; rintro e wv ⟨rfl, hb⟩; replace hO := hO.call hb; clear hb) | ((with_reducible refine is_load ?_); (refine own_ldW (hO := hO) (h := ?_))) | ((with_reducible refine is_store ?_); (refine own_stW (hO := hO) (h := ?_); clear hO; intro wv hO)))
          go_ret
          exact ⟨rfl, hO.keep.below⟩
end Go.Proofs.YtjfiipbjphabeaaDoor
