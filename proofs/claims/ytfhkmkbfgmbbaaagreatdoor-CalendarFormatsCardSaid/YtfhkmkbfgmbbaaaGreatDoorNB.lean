/- The reference's Format. -/
import Derived.Test.YtfhkmkbfgmbbaaaGreatDoorNA
import Derived.Test.YtfhkmkbfgmbbaaaGreatDoorMH
import Derived.Test.YtfhkmkbfgmbbaaaGreatDoorMI
namespace Go.Proofs.YtfhkmkbfgmbbaaaGreatDoor
open Go.RowKit
set_option maxRecDepth 100000
set_option maxHeartbeats 4000000 in
theorem rinter_any {va vb : Value} {la lb : List Rg} (w : World) (hva : IsCells w va la.length (rcs la)) (hvb : IsCells w vb lb.length (rcs lb)) (na : la.length ≤ 1000000000) (nb : lb.length ≤ 1000000000) (ba : BndR la) (bb : BndR lb) :
    Calls Tryz.prog 24 #[va, vb] w (RetRgs w (canI la lb)) := by
  have fa := isCells_form hva
  have fb := isCells_form hvb
  have za := rcs_nil_of la
  have zb := rcs_nil_of lb
  have hO := own_cellsA (own_cellsA (own_start [] w) hvb) hva
  obtain ⟨a1, c1, rfl, -⟩ := formC_view fa
  obtain ⟨a2, c2, rfl, -⟩ := formC_view fb
  have hk := fun w h1 h2 => rkeepI_any (va := .slice a1 la.length c1) (vb := .slice a2 lb.length c2) (la := la) (lb := lb) w h1 h2 (by omega) (by omega) (fun r hr => by have := ba r hr; omega) (fun r hr => by have := bb r hr; omega)
  clear hva hvb
  go_enter Tryz.func24, Tryz.ntmps24
  go_wp2_with (go_at_call 43; (with_reducible refine (hk _ (hO.isC fa za (by intro q hq; repeat (exact List.mem_append_left _ hq))) (hO.isC fb zb (by intro q hq; repeat (first | exact List.mem_append_left _ hq | apply List.mem_append_right)))).mono ?_); rintro e wv ⟨v9, rfl, ⟨hv9, hn9⟩, hb9⟩; have hs9 := hO.keep.size; replace hO := hO.call hb9)
  go_ret
  exact ⟨v9, rfl, ⟨hv9, fun g h => Nat.le_trans hs9 (hn9 g h)⟩, hO.keep.below⟩
set_option maxHeartbeats 16000000 in
theorem rformat_any {vl : Value} {l : List Rg} (w : World) (hv : IsCells w vl l.length (rcs l)) (hn : l.length ≤ 1000000000) (hb : BndR l) :
    Calls Tryz.prog 10 #[vl] w (RetTexts w (if winB 10079 l then fmtF l else [])) := by
  have hO := own_cellsA (own_start [] w) hv
  simp only [List.append_nil] at hO
  have hdy := rdays_any
  have hva := fun w' h => rwin_any (vl := vl) (l := l) w' h (by omega) hb
  obtain ⟨a, c, rfl, ha⟩ := formC_view (isCells_form hv)
  cases hw : winB 10079 l with
  | false =>
    rw [hw] at hva
    rw [if_neg Bool.false_ne_true]
    go_enter Tryz.func10, Tryz.ntmps10
    go_wp2_with (go_at_call 23; (with_reducible refine (hva _ (hv.below hO.keep.below)).mono ?_); rintro e wv ⟨rfl, hb⟩; replace hO := hO.call hb; clear hb)
    go_ret
    exact ⟨_, rfl, ⟨.inl ⟨rfl, rfl, rfl⟩, fun g h => by cases h⟩, hO.keep.below⟩
  | true =>
    rw [hw] at hva
    rw [if_pos rfl]
    have hwk := winB_iff.1 hw
    obtain ⟨hc, -⟩ := wok_can hwk
    clear hw hwk
    by_cases hl0 : l.length = 0
    · have hF : fmtF l = nevW := by unfold fmtF; rw [if_pos (List.length_eq_zero_iff.1 hl0)]
      rw [hF]
      clear hF
      have g1 : ((l.length : Int) == 0) = true := beq_iff_eq.2 (by omega)
      clear hl0
      go_enter Tryz.func10, Tryz.ntmps10
      go_wp2_with (first | (go_at_call 23; (with_reducible refine (hva _ (hv.below hO.keep.below)).mono ?_); rintro e wv ⟨rfl, hb⟩; replace hO := hO.call hb; clear hb) | ((with_reducible refine is_build ?_); (refine' own_buildP (o := ⟨some 14, _, _, _, _, _⟩) [.string ⟨#[110, 101, 118, 101, 114]⟩] hO (by rfl) rfl slice_strings rfl rfl (by rfl) (by decide) (by decide) ?_); clear hO; intro n14 wv hO))
      go_ret
      exact ⟨_, rfl, ⟨.inr ⟨n14, 0, 1, rfl, Nat.le_refl _, own_chunkAt hO List.mem_cons_self⟩, own_chunkNew hO List.mem_cons_self 1 1⟩, hO.keep.below⟩
    · have g1 : ((l.length : Int) == 0) = false := beq_eq_false_iff_ne.2 (by omega)
      have hF : fmtF l = wordsF (partsW l 7) := by unfold fmtF; rw [if_neg (fun h => hl0 (by rw [h]; rfl))]
      rw [hF]
      clear hF
      go_enter Tryz.func10, Tryz.ntmps10
      go_wp2_with (go_at_call 23; (with_reducible refine (hva _ (hv.below hO.keep.below)).mono ?_); rintro e wv ⟨rfl, hb⟩; replace hO := hO.call hb; clear hb)
      replace hO := hO.nilRow 9 1
      go_loopw [3, 4] (fun r q wr => ∃ (d : Nat) (m : List Bs), d ≤ 7 ∧ q = .int .i64 d ∧ Hid (m = wordsF (partsW l d)) ∧ Own [] w [] [⟨r, m.length, scs m, 9, 1⟩] (roS (.slice a l.length c) (rcs l)) wr) (fun _ q _ => 7 - (intOf q).toNat)
      case atStart => exact ⟨0, [], by omega, rfl, Lib.hid rfl, hO⟩
      case round =>
        clear hO
        obtain ⟨d, m, hd, rfl, HM, hO⟩ := hrel
        have s0 : IntKind.i64.wrap ((d : Int) + 1) = (d : Int) + 1 := IntWalk.i64_in _ (by omega)
        by_cases hlt : d < 7
        · have g2 : decide ((d : Int) < 7) = true := decide_eq_true (by omega)
          have hk : d < dayL.length := hlt
          have uz := scs_at hk
          have hT := dayT_at hk
          have hD : canI l [⟨1440 * d, 1440 * d + 1439⟩] = interD (1440 * d) (1440 * d + 1439) l := inter_day hc hb d hlt
          have hIn := fun q (hq : q ∈ interD (1440 * d) (1440 * d + 1439) l) => interD_in hq
          have hDL := interD_len (1440 * d) (1440 * d + 1439) l
          have HZ := Lib.hid (prt_zero l d)
          have HA := Lib.hid (prt_all l d)
          have HS : Hid (∀ (i : Nat) (h : i < (interD (1440 * d) (1440 * d + 1439) l).length), prt l d (i + 1) = prt l d i ++ [(d, (interD (1440 * d) (1440 * d + 1439) l)[i])]) := Lib.hid fun i h => prt_step h
          have hPL : ∀ i, (wordsF (prt l d i)).length ≤ 21 * l.length := fun i => by
            have h1 := words_le (prt l d i)
            have h2 := prt_len l d i
            have h3 : (d + 1) * l.length ≤ 7 * l.length := Nat.mul_le_mul_right _ (by omega)
            omega
          have hI : ∀ n w, IsCells w (.slice a l.length c) l.length (rcs l) → IsCells w (.slice (some ⟨n, 0, none⟩) 1 1) 1 [.int .u32 (1440 * (d : Int)), .int .u32 (1440 * (d : Int) + 1439)] → Calls Tryz.prog 24 #[.slice a l.length c, .slice (some ⟨n, 0, none⟩) 1 1] w (RetRgs w (interD (1440 * d) (1440 * d + 1439) l)) := fun n w h1 h2 => by
            have h3 := rinter_any (lb := [⟨1440 * d, 1440 * d + 1439⟩]) w h1 h2 (by omega) (by simp) hb (fun r hr => by
              obtain rfl := List.mem_singleton.1 hr
              dsimp only; omega)
            rwa [hD] at h3
          clear hD
          have h15 : ∃ A : Int, A = 1440 * (d : Int) := ⟨_, rfl⟩
          obtain ⟨A, hA⟩ := h15
          have t1 : IntKind.i64.wrap (1440 * (d : Int)) = A := by rw [IntWalk.i64_in _ (by omega)]; omega
          have a0 : 0 ≤ A := by omega
          have a1 : A ≤ 8640 := by omega
          rw [← hA] at hI hIn hDL HA HS
          generalize interD A (A + 1439) l = D at *
          rw [show dayL[d] = dayT d from hT.symm] at uz
          clear hT
          generalize hz : dayT d = z at *
          have HQ : Hid (∀ (r : Rg), tmT d r = timeT (r.lo - A).toNat ++ 45 :: timeT (r.hi - A + 1).toNat) := Lib.hid fun r => by rw [hA]; rfl
          have HY := Lib.hid hz
          clear hA hz
          have t2 : IntKind.u32.wrap A = A := by rw [IntKind.wrap_u32]; omega
          have t3 : IntKind.i64.wrap (A + 1440) = A + 1440 := IntWalk.i64_in _ (by omega)
          have t4 : IntKind.i64.wrap (A + 1440 - 1) = A + 1439 := by rw [IntWalk.i64_in _ (by omega)]; omega
          have t5 : IntKind.u32.wrap (A + 1439) = A + 1439 := by rw [IntKind.wrap_u32]; omega
          go_wp2_with (first | ((with_reducible refine is_build ?_); (refine' own_build1 (o := ⟨some 27, _, _, _, _, _⟩) hO (by rfl) rfl rfl ?hu ?hf ?_; (case hu => (with_reducible (exact und_Ranges))); (case hf => kernel_rfl); clear hO; intro n27 wv hO)) | (go_at_call 24; (with_reducible refine (hI _ _ (hv.below hO.keep.below) (lit_cells (own_chunkAt hO List.mem_cons_self))).mono ?_); rintro e wv ⟨v9, rfl, ⟨hv9, hn9⟩, hb9⟩; have hf9 := isCells_form hv9; replace hO := hO.gainC hb9 hv9 hn9; clear hb9 hv9 hn9; obtain ⟨a9, c9, rfl, ha9⟩ := hf9.view; clear hf9))
          replace hO := hO.sub (X' := []) (List.nil_sublist _) (.refl _) (fun _ h => h)
          clear t1 t2 t3 t4 t5
          go_loopw [3, 7] (fun r q wr => ∃ (i : Nat) (m : List Bs), i ≤ D.length ∧ q = .int .i64 i ∧ Hid (m = wordsF (prt l d i)) ∧ Own [] w [] [⟨r, m.length, scs m, 9, 1⟩] (roS (.slice a9 D.length c9) (rcs D) ++ roS (.slice a l.length c) (rcs l)) wr) (fun _ q _ => D.length - (intOf q).toNat)
          case atStart => exact ⟨0, m, by omega, rfl, Lib.hid (by rw [HZ.out]; exact HM.out), hO⟩
          case round =>
            clear hO HM
            obtain ⟨i, m, hi, rfl, HM, hO⟩ := hrel
            have s9 : IntKind.i64.wrap ((i : Int) + 1) = (i : Int) + 1 := IntWalk.i64_in _ (by omega)
            have hml := hPL i
            rw [← HM.out] at hml
            by_cases hlt2 : i < D.length
            · have g3 : decide ((i : Int) < (D.length : Int)) = true := decide_eq_true (by omega)
              obtain ⟨g9, o9, rfl⟩ := ha9 (by omega)
              rw [show roS (.slice (some ⟨g9, o9, none⟩) D.length c9) (rcs D) = [⟨g9, o9, rcs D⟩] from rfl, List.cons_append, List.nil_append] at hO
              have y1 := rcs_two hlt2
              obtain ⟨v1, v2⟩ := rcs_at hlt2
              obtain ⟨b1, b2, b3⟩ := hIn _ (List.getElem_mem hlt2)
              have HS2 := Lib.hid (HS.out i hlt2)
              have HQ2 := Lib.hid (HQ.out D[i])
              generalize D[i] = r at *
              have h5 : ∀ w, Calls Tryz.prog 26 #[.int .i64 (r.lo - A)] w fun e w' => e = .returned (.string ⟨(timeT (r.lo - A).toNat).toArray⟩) ∧ Below w.heap.size w w' := fun w => by
                have h := rtext_any (r.lo - A).toNat w (by omega)
                rwa [Int.toNat_of_nonneg (by omega)] at h
              have h6 : ∀ w, Calls Tryz.prog 26 #[.int .i64 (r.hi - A + 1)] w fun e w' => e = .returned (.string ⟨(timeT (r.hi - A + 1).toNat).toArray⟩) ∧ Below w.heap.size w w' := fun w => by
                have h := rtext_any (r.hi - A + 1).toNat w (by omega)
                rwa [Int.toNat_of_nonneg (by omega)] at h
              have l1 := timeT_len (r.lo - A).toNat
              have l2 := timeT_len (r.hi - A + 1).toNat
              generalize timeT (r.lo - A).toNat = x at *
              generalize timeT (r.hi - A + 1).toNat = y at *
              have k1 : ¬ 9223372036854775807 < x.length + 1 := by omega
              have k2 : ¬ 9223372036854775807 < x.length + 1 + y.length := by omega
              have t1 : IntKind.u32.wrap (r.lo - A) = r.lo - A := by rw [IntKind.wrap_u32]; omega
              have t2 : IntKind.u32.wrap (r.hi - A) = r.hi - A := by rw [IntKind.wrap_u32]; omega
              have t3 : IntKind.i64.wrap (r.lo - A) = r.lo - A := IntWalk.i64_in _ (by omega)
              have t4 : IntKind.i64.wrap (r.hi - A) = r.hi - A := IntWalk.i64_in _ (by omega)
              have t5 : IntKind.i64.wrap (r.hi - A + 1) = r.hi - A + 1 := IntWalk.i64_in _ (by omega)
              clear l1 l2 HQ HZ HA hPL hI b1 b2 b3
              by_cases hp : 0 < m.length
              · have g4 : decide ((m.length : Int) > 0) = true := decide_eq_true (by omega)
                have HW := Lib.hid (words_more (l := prt l d i) (d, r) (by rw [← HM.out]; exact hp))
                have HE : Hid (m ++ [[44]] ++ [z, x ++ ([45] ++ y)] = wordsF (prt l d (i + 1))) := Lib.hid (by
                  rw [HS2.out, HW.out, ← HM.out, HY.out, HQ2.out]; rfl)
                have HC : Hid (scs m ++ [Value.string ⟨#[44]⟩] ++ [Value.string ⟨z.toArray⟩, Value.string ⟨(x ++ ([45] ++ y)).toArray⟩] = scs (m ++ [[44]] ++ [z, x ++ ([45] ++ y)])) := Lib.hid (by simp [scs])
                clear HM HS2 HW HQ2
                obtain ⟨a7, c7, rfl, -⟩ := own_view hO List.mem_cons_self
                go_upto_region 16 with (first | ((with_reducible refine is_append ?_); (refine own_apV (o := ⟨some 40, _, _, _, _, _⟩) (hO := hO) (h := ?_); clear hO; intro g40 c40 wv hO)) | ((with_reducible refine is_build ?_); (refine' own_buildP (o := ⟨some 39, _, _, _, _, _⟩) [.string ⟨#[44]⟩] hO (by rfl) rfl slice_strings rfl rfl (by rfl) (by decide) (by decide) ?_); clear hO; intro n39 wv hO))
                refine wp_region_held (S := (Own [] w [] [] [⟨g9, o9, rcs D⟩])) (by kernel_rfl) ?_
                replace hO := hO.drew
                have hC : (Own [] w [] [] [⟨g9, o9, rcs D⟩]) _ := hO.cls
                refine wpAnyH_tk 0 hC ?_
                (go_big_quiet_want; (go_big_quiet_op; (go_big_quiet_on))); (refine wpQuiet_nil ?_)
                refine wpAnyH_tk 2 hC ?_
                (go_big_quiet_want; (go_big_quiet_op; (go_big_quiet_on))); (refine wpQuiet_nil ?_)
                refine wpAnyH_tk 5 hC ?_
                (go_big_quiet_want; (go_big_quiet_op; (go_big_quiet_on))); (refine wpQuiet_nil ?_)
                refine wpAnyH_tk 6 hC ?_
                (go_big_quiet_want; (go_big_quiet_op; (go_big_quiet_on))); (refine wpQuiet_nil ?_)
                refine wpAnyH_tk 7 hC ?_
                (go_big_quiet_want; (go_big_quiet_op; ((refine ⟨_, fun _ _ => rfl, ?_⟩); go_big_quiet_on))); (refine wpQuiet_nil ?_)
                refine wpAnyH_tk 8 hC ?_
                (go_big_quiet_want; (go_big_quiet_op; ((refine ⟨_, fun _ _ => rfl, ?_⟩); go_big_quiet_on))); (refine wpQuiet_nil ?_)
                refine wpAnyH_tk 9 hC ?_
                (go_big_quiet_want; ((with_reducible refine is_loadQ ?_); (refine q_ldV (h := ?_)); (try simp only [Act.put]); (try simp only [List.setIfInBounds_toArray, List.set_cons_zero, List.set_cons_succ]); go_big_quiet_on)); (refine wpQuiet_nil ?_)
                refine wpAnyH_tk 10 hC ?_
                (go_big_quiet_want; (go_big_quiet_op; (go_big_quiet_on))); (refine wpQuiet_nil ?_)
                refine wpAnyH_tk 11 hC ?_
                (go_big_quiet_want; (go_big_quiet_op; ((refine ⟨_, fun _ _ => rfl, ?_⟩); go_big_quiet_on))); (refine wpQuiet_nil ?_)
                refine wpAnyH_tk 12 hC ?_
                (go_big_quiet_want; (go_big_quiet_op; ((refine ⟨_, fun _ _ => rfl, ?_⟩); go_big_quiet_on))); (refine wpQuiet_nil ?_)
                refine wpAnyH_tk 15 hC ?_
                (go_big_quiet_want; (go_big_quiet_op; (go_big_quiet_on))); (refine wpQuiet_nil ?_)
                refine wpAnyH_tk 16 hC ?_
                (go_big_quiet_want; (go_big_quiet_op; (go_big_quiet_on))); (refine wpQuiet_nil ?_)
                refine wpAnyH_tk 17 hC ?_
                (go_big_quiet_want; (go_big_quiet_op; ((refine ⟨_, fun _ _ => rfl, ?_⟩); go_big_quiet_on))); (refine wpQuiet_nil ?_)
                refine wpAnyH_tk 18 hC ?_
                (go_big_quiet_want; (go_big_quiet_op; ((refine ⟨_, fun _ _ => rfl, ?_⟩); go_big_quiet_on))); (refine wpQuiet_nil ?_)
                refine wpAnyH_tk 19 hC ?_
                (go_big_quiet_want; ((with_reducible refine is_loadQ ?_); (refine q_ldV (h := ?_)); (try simp only [Act.put]); (try simp only [List.setIfInBounds_toArray, List.set_cons_zero, List.set_cons_succ]); go_big_quiet_on)); (refine wpQuiet_nil ?_)
                refine wpAnyH_tk 20 hC ?_
                (go_big_quiet_want; (go_big_quiet_op; (go_big_quiet_on))); (refine wpQuiet_nil ?_)
                refine wpAnyH_tk 21 hC ?_
                (go_big_quiet_want; (go_big_quiet_op; ((refine ⟨_, fun _ _ => rfl, ?_⟩); go_big_quiet_on))); (refine wpQuiet_nil ?_)
                refine wpAnyH_tk 22 hC ?_
                (go_big_quiet_want; (go_big_quiet_op; ((refine ⟨_, fun _ _ => rfl, ?_⟩); go_big_quiet_on))); (refine wpQuiet_nil ?_)
                refine wpAnyH_tk 23 hC ?_
                (go_big_quiet_want; (go_big_quiet_op; ((refine ⟨_, fun _ _ => rfl, ?_⟩); go_big_quiet_on))); (refine wpQuiet_nil ?_)
                refine wpAnyH_1 1 ?_
                rotate_left 1
                all_goals
                  refine wpOp_of_listL rfl ?_
                  ((refine wpList_step (fun K hK => ?_)); go_simp; ((go_at_call 25; (with_reducible refine (hdy _).mono ?_); rintro e wv ⟨gd, rfl, hvd, hnd, hbd⟩; replace hO := hO.gainC hbd hvd hnd; clear hbd hvd hnd; rw [show ∀ m : Nat, roS (.slice (some ⟨gd, 0, none⟩) m m) (scs dayL) = [⟨gd, 0, scs dayL⟩] from fun _ => rfl, List.cons_append, List.nil_append] at hO); (try simp only []); (refine hK _ _ ?_); clear hK K))
                  refine wpList_done (qk_intro ?_)
                  replace hC : (Own [] w [] [] [⟨g9, o9, rcs D⟩]) _ := hO.cls
                  refine ⟨hC, ?_⟩
                refine wpAnyH_tk 3 hC ?_
                (go_big_quiet_want; (go_big_quiet_op; ((refine ⟨_, fun _ _ => rfl, ?_⟩); go_big_quiet_on))); (refine wpQuiet_nil ?_)
                refine wpAnyH_all (rs := [4, 13]) (by kernel_rfl) (by simp) (ord_cons ?_ (ord_cons ?_ ord_nil))
                rotate_left 2
                all_goals
                  refine wpOp_of_listL rfl ?_
                  (first | ((with_reducible refine is_load ?_); (refine own_ldV (h := ?_))) | ((refine wpList_step (fun K hK => ?_)); go_simp; ((go_at_call 26; (with_reducible refine (h5 _).mono ?_); rintro e wv ⟨rfl, hb⟩; replace hO := hO.call hb; clear hb); (try simp only []); (refine hK _ _ ?_); clear hK K))); (try simp only [Act.put]); (try simp only [List.setIfInBounds_toArray, List.set_cons_zero, List.set_cons_succ])
                  refine wpList_done (qk_intro ?_)
                  replace hC : (Own [] w [] [] [⟨g9, o9, rcs D⟩]) _ := hO.cls
                  refine ⟨hC, ?_⟩
                refine wpAnyH_1 13 ?_
                rotate_left 1
                refine wpAnyH_tk 14 hC ?_
                (go_big_quiet_want; (go_big_quiet_op; ((refine ⟨_, fun _ _ => rfl, ?_⟩); go_big_quiet_on))); (refine wpQuiet_nil ?_)
                refine wpAnyH_all (rs := [4, 24]) (by kernel_rfl) (by simp) (ord_cons ?_ (ord_cons ?_ ord_nil))
                rotate_left 2
                all_goals
                  refine wpOp_of_listL rfl ?_
                  (first | ((with_reducible refine is_load ?_); (refine own_ldV (h := ?_))) | ((refine wpList_step (fun K hK => ?_)); go_simp; ((first | (go_at_call 26; (with_reducible refine (h5 _).mono ?_); rintro e wv ⟨rfl, hb⟩; replace hO := hO.call hb; clear hb) | (go_at_call 26; (with_reducible refine (h6 _).mono ?_); rintro e wv ⟨rfl, hb⟩; replace hO := hO.call hb; clear hb)); (try simp only []); (refine hK _ _ ?_); clear hK K))); (try simp only [Act.put]); (try simp only [List.setIfInBounds_toArray, List.set_cons_zero, List.set_cons_succ])
                  refine wpList_done (qk_intro ?_)
                  replace hC : (Own [] w [] [] [⟨g9, o9, rcs D⟩]) _ := hO.cls
                  refine ⟨hC, ?_⟩
                refine wpAnyH_tk 14 hC ?_
                (go_big_quiet_want; (go_big_quiet_op; ((refine ⟨_, fun _ _ => rfl, ?_⟩); go_big_quiet_on))); (refine wpQuiet_nil ?_)
                refine wpAnyH_1 24 ?_
                rotate_left 1
                refine wpAnyH_1 24 ?_
                rotate_left 1
                refine wpAnyH_tk 25 hC ?_
                (go_big_quiet_want; (go_big_quiet_op; ((refine ⟨_, fun _ _ => rfl, ?_⟩); go_big_quiet_on))); (refine wpQuiet_nil ?_)
                refine wpAnyH_1 4 ?_
                rotate_left 1
                all_goals
                  refine wpOp_of_listL rfl ?_
                  (first | ((with_reducible refine is_load ?_); (refine own_ldV (h := ?_))) | ((refine wpList_step (fun K hK => ?_)); go_simp; ((go_at_call 26; (with_reducible refine (h6 _).mono ?_); rintro e wv ⟨rfl, hb⟩; replace hO := hO.call hb; clear hb); (try simp only []); (refine hK _ _ ?_); clear hK K))); (try simp only [Act.put]); (try simp only [List.setIfInBounds_toArray, List.set_cons_zero, List.set_cons_succ])
                  refine wpList_done (qk_intro ?_)
                  replace hC : (Own [] w [] [] [⟨g9, o9, rcs D⟩]) _ := hO.cls
                  refine ⟨hC, ?_⟩
                refine wpAnyH_tk 25 hC ?_
                (go_big_quiet_want; (go_big_quiet_op; ((refine ⟨_, fun _ _ => rfl, ?_⟩); go_big_quiet_on))); (refine wpQuiet_nil ?_)
                refine wpAnyH_1 26 ?_
                rotate_left 1
                refine wpAnyH_tk 25 hC ?_
                (go_big_quiet_want; (go_big_quiet_op; ((refine ⟨_, fun _ _ => rfl, ?_⟩); go_big_quiet_on))); (refine wpQuiet_nil ?_)
                refine wpAnyH_1 26 ?_
                rotate_left 1
                refine wpAnyH_1 26 ?_
                rotate_left 1
                all_goals
                  refine wpOp_of_listL rfl ?_
                  ((with_reducible refine is_build ?_); (refine' own_buildP (o := ⟨some 67, _, _, _, _, _⟩) [.string ⟨z.toArray⟩, .string (⟨x.toArray⟩ ++ ⟨#[45]⟩ ++ ⟨y.toArray⟩)] hO (by rfl) rfl slice_strings rfl rfl (by rfl) (by decide) (by decide) ?_); clear hO; intro n67 wv hO); (try simp only [Act.put]); (try simp only [List.setIfInBounds_toArray, List.set_cons_zero, List.set_cons_succ])
                  refine wpList_done (qk_intro ?_)
                  replace hC : (Own [] w [] [] [⟨g9, o9, rcs D⟩]) _ := hO.cls
                  refine ⟨hC, ?_⟩
                refine wpAnyH_1 27 ?_
                rotate_left 1
                refine wpAnyH_1 27 ?_
                rotate_left 1
                refine wpAnyH_1 27 ?_
                rotate_left 1
                all_goals
                  refine wpOp_of_listL rfl ?_
                  ((with_reducible refine is_append ?_); (refine own_apV (o := ⟨some 68, _, _, _, _, _⟩) (hO := hO) (h := ?_); clear hO; intro g68 c68 wv hO)); (try simp only [Act.put]); (try simp only [List.setIfInBounds_toArray, List.set_cons_zero, List.set_cons_succ])
                  refine wpList_done (qk_intro ?_)
                  replace hC : (Own [] w [] [] [⟨g9, o9, rcs D⟩]) _ := hO.cls
                  refine ⟨hC, ?_⟩
                refine wpAnyH_1 28 ?_
                rotate_left 1
                refine wpAnyH_1 28 ?_
                rotate_left 1
                refine wpAnyH_1 28 ?_
                rotate_left 1
                all_goals
                  refine wpOp_of_listL rfl ?_
                  ((refine wpList_step (fun K hK => ?_)); go_simp; ((refine hK _ _ ?_); clear hK K))
                  refine wpList_done (qk_intro ?_)
                  replace hC : (Own [] w [] [] [⟨g9, o9, rcs D⟩]) _ := hO.cls
                  refine ⟨hC, ?_⟩
                refine wpAnyH_done (by kernel_rfl) ?_ _
                rotate_left
                refine wpAnyH_done (by kernel_rfl) ?_ _
                rotate_left
                refine wpAnyH_done (by kernel_rfl) ?_ _
                rotate_left
                all_goals clear hC
                all_goals
                  rw [show (⟨x.toArray⟩ : ByteArray) ++ ⟨#[45]⟩ ++ ⟨y.toArray⟩ = ⟨(x ++ ([45] ++ y)).toArray⟩ from cat3 x [45] y] at hO
                  rw [HC.out] at hO
                  go_wp2_with fail
                  go_roundw
                  case rel => exact ⟨i + 1, _, by omega, by go_num, HE, by (repeat rw [List.length_append]); exact hO.sub (X' := []) (by repeat (first | exact List.Sublist.refl _ | apply List.Sublist.cons)) (.refl _) (fun _ h => List.mem_cons_of_mem _ h)⟩
                  case measure => simp [intOf]; omega
              · have g4 : decide ((m.length : Int) > 0) = false := decide_eq_false (by omega)
                have HW := Lib.hid (words_new (l := prt l d i) (d, r) (by rw [← HM.out]; exact hp))
                have HE : Hid (m ++ [z, x ++ ([45] ++ y)] = wordsF (prt l d (i + 1))) := Lib.hid (by
                  rw [HS2.out, HW.out.2, HM.out, HW.out.1, HY.out, HQ2.out]; rfl)
                have HC : Hid (scs m ++ [Value.string ⟨z.toArray⟩, Value.string ⟨(x ++ ([45] ++ y)).toArray⟩] = scs (m ++ [z, x ++ ([45] ++ y)])) := Lib.hid (by simp [scs])
                clear HM HS2 HW HQ2
                obtain ⟨a7, c7, rfl, -⟩ := own_view hO List.mem_cons_self
                go_upto_region 16 with (fail)
                refine wp_region_held (S := (Own [] w [] [] [⟨g9, o9, rcs D⟩])) (by kernel_rfl) ?_
                replace hO := hO.drew
                have hC : (Own [] w [] [] [⟨g9, o9, rcs D⟩]) _ := hO.cls
                refine wpAnyH_tk 0 hC ?_
                (go_big_quiet_want; (go_big_quiet_op; (go_big_quiet_on))); (refine wpQuiet_nil ?_)
                refine wpAnyH_tk 2 hC ?_
                (go_big_quiet_want; (go_big_quiet_op; (go_big_quiet_on))); (refine wpQuiet_nil ?_)
                refine wpAnyH_tk 5 hC ?_
                (go_big_quiet_want; (go_big_quiet_op; (go_big_quiet_on))); (refine wpQuiet_nil ?_)
                refine wpAnyH_tk 6 hC ?_
                (go_big_quiet_want; (go_big_quiet_op; (go_big_quiet_on))); (refine wpQuiet_nil ?_)
                refine wpAnyH_tk 7 hC ?_
                (go_big_quiet_want; (go_big_quiet_op; ((refine ⟨_, fun _ _ => rfl, ?_⟩); go_big_quiet_on))); (refine wpQuiet_nil ?_)
                refine wpAnyH_tk 8 hC ?_
                (go_big_quiet_want; (go_big_quiet_op; ((refine ⟨_, fun _ _ => rfl, ?_⟩); go_big_quiet_on))); (refine wpQuiet_nil ?_)
                refine wpAnyH_tk 9 hC ?_
                (go_big_quiet_want; ((with_reducible refine is_loadQ ?_); (refine q_ldV (h := ?_)); (try simp only [Act.put]); (try simp only [List.setIfInBounds_toArray, List.set_cons_zero, List.set_cons_succ]); go_big_quiet_on)); (refine wpQuiet_nil ?_)
                refine wpAnyH_tk 10 hC ?_
                (go_big_quiet_want; (go_big_quiet_op; (go_big_quiet_on))); (refine wpQuiet_nil ?_)
                refine wpAnyH_tk 11 hC ?_
                (go_big_quiet_want; (go_big_quiet_op; ((refine ⟨_, fun _ _ => rfl, ?_⟩); go_big_quiet_on))); (refine wpQuiet_nil ?_)
                refine wpAnyH_tk 12 hC ?_
                (go_big_quiet_want; (go_big_quiet_op; ((refine ⟨_, fun _ _ => rfl, ?_⟩); go_big_quiet_on))); (refine wpQuiet_nil ?_)
                refine wpAnyH_tk 15 hC ?_
                (go_big_quiet_want; (go_big_quiet_op; (go_big_quiet_on))); (refine wpQuiet_nil ?_)
                refine wpAnyH_tk 16 hC ?_
                (go_big_quiet_want; (go_big_quiet_op; (go_big_quiet_on))); (refine wpQuiet_nil ?_)
                refine wpAnyH_tk 17 hC ?_
                (go_big_quiet_want; (go_big_quiet_op; ((refine ⟨_, fun _ _ => rfl, ?_⟩); go_big_quiet_on))); (refine wpQuiet_nil ?_)
                refine wpAnyH_tk 18 hC ?_
                (go_big_quiet_want; (go_big_quiet_op; ((refine ⟨_, fun _ _ => rfl, ?_⟩); go_big_quiet_on))); (refine wpQuiet_nil ?_)
                refine wpAnyH_tk 19 hC ?_
                (go_big_quiet_want; ((with_reducible refine is_loadQ ?_); (refine q_ldV (h := ?_)); (try simp only [Act.put]); (try simp only [List.setIfInBounds_toArray, List.set_cons_zero, List.set_cons_succ]); go_big_quiet_on)); (refine wpQuiet_nil ?_)
                refine wpAnyH_tk 20 hC ?_
                (go_big_quiet_want; (go_big_quiet_op; (go_big_quiet_on))); (refine wpQuiet_nil ?_)
                refine wpAnyH_tk 21 hC ?_
                (go_big_quiet_want; (go_big_quiet_op; ((refine ⟨_, fun _ _ => rfl, ?_⟩); go_big_quiet_on))); (refine wpQuiet_nil ?_)
                refine wpAnyH_tk 22 hC ?_
                (go_big_quiet_want; (go_big_quiet_op; ((refine ⟨_, fun _ _ => rfl, ?_⟩); go_big_quiet_on))); (refine wpQuiet_nil ?_)
                refine wpAnyH_tk 23 hC ?_
                (go_big_quiet_want; (go_big_quiet_op; ((refine ⟨_, fun _ _ => rfl, ?_⟩); go_big_quiet_on))); (refine wpQuiet_nil ?_)
                refine wpAnyH_1 1 ?_
                rotate_left 1
                all_goals
                  refine wpOp_of_listL rfl ?_
                  ((refine wpList_step (fun K hK => ?_)); go_simp; ((go_at_call 25; (with_reducible refine (hdy _).mono ?_); rintro e wv ⟨gd, rfl, hvd, hnd, hbd⟩; replace hO := hO.gainC hbd hvd hnd; clear hbd hvd hnd; rw [show ∀ m : Nat, roS (.slice (some ⟨gd, 0, none⟩) m m) (scs dayL) = [⟨gd, 0, scs dayL⟩] from fun _ => rfl, List.cons_append, List.nil_append] at hO); (try simp only []); (refine hK _ _ ?_); clear hK K))
                  refine wpList_done (qk_intro ?_)
                  replace hC : (Own [] w [] [] [⟨g9, o9, rcs D⟩]) _ := hO.cls
                  refine ⟨hC, ?_⟩
                refine wpAnyH_tk 3 hC ?_
                (go_big_quiet_want; (go_big_quiet_op; ((refine ⟨_, fun _ _ => rfl, ?_⟩); go_big_quiet_on))); (refine wpQuiet_nil ?_)
                refine wpAnyH_all (rs := [4, 13]) (by kernel_rfl) (by simp) (ord_cons ?_ (ord_cons ?_ ord_nil))
                rotate_left 2
                all_goals
                  refine wpOp_of_listL rfl ?_
                  (first | ((with_reducible refine is_load ?_); (refine own_ldV (h := ?_))) | ((refine wpList_step (fun K hK => ?_)); go_simp; ((go_at_call 26; (with_reducible refine (h5 _).mono ?_); rintro e wv ⟨rfl, hb⟩; replace hO := hO.call hb; clear hb); (try simp only []); (refine hK _ _ ?_); clear hK K))); (try simp only [Act.put]); (try simp only [List.setIfInBounds_toArray, List.set_cons_zero, List.set_cons_succ])
                  refine wpList_done (qk_intro ?_)
                  replace hC : (Own [] w [] [] [⟨g9, o9, rcs D⟩]) _ := hO.cls
                  refine ⟨hC, ?_⟩
                refine wpAnyH_1 13 ?_
                rotate_left 1
                refine wpAnyH_tk 14 hC ?_
                (go_big_quiet_want; (go_big_quiet_op; ((refine ⟨_, fun _ _ => rfl, ?_⟩); go_big_quiet_on))); (refine wpQuiet_nil ?_)
                refine wpAnyH_all (rs := [4, 24]) (by kernel_rfl) (by simp) (ord_cons ?_ (ord_cons ?_ ord_nil))
                rotate_left 2
                all_goals
                  refine wpOp_of_listL rfl ?_
                  (first | ((with_reducible refine is_load ?_); (refine own_ldV (h := ?_))) | ((refine wpList_step (fun K hK => ?_)); go_simp; ((first | (go_at_call 26; (with_reducible refine (h5 _).mono ?_); rintro e wv ⟨rfl, hb⟩; replace hO := hO.call hb; clear hb) | (go_at_call 26; (with_reducible refine (h6 _).mono ?_); rintro e wv ⟨rfl, hb⟩; replace hO := hO.call hb; clear hb)); (try simp only []); (refine hK _ _ ?_); clear hK K))); (try simp only [Act.put]); (try simp only [List.setIfInBounds_toArray, List.set_cons_zero, List.set_cons_succ])
                  refine wpList_done (qk_intro ?_)
                  replace hC : (Own [] w [] [] [⟨g9, o9, rcs D⟩]) _ := hO.cls
                  refine ⟨hC, ?_⟩
                refine wpAnyH_tk 14 hC ?_
                (go_big_quiet_want; (go_big_quiet_op; ((refine ⟨_, fun _ _ => rfl, ?_⟩); go_big_quiet_on))); (refine wpQuiet_nil ?_)
                refine wpAnyH_1 24 ?_
                rotate_left 1
                refine wpAnyH_1 24 ?_
                rotate_left 1
                refine wpAnyH_tk 25 hC ?_
                (go_big_quiet_want; (go_big_quiet_op; ((refine ⟨_, fun _ _ => rfl, ?_⟩); go_big_quiet_on))); (refine wpQuiet_nil ?_)
                refine wpAnyH_1 4 ?_
                rotate_left 1
                all_goals
                  refine wpOp_of_listL rfl ?_
                  (first | ((with_reducible refine is_load ?_); (refine own_ldV (h := ?_))) | ((refine wpList_step (fun K hK => ?_)); go_simp; ((go_at_call 26; (with_reducible refine (h6 _).mono ?_); rintro e wv ⟨rfl, hb⟩; replace hO := hO.call hb; clear hb); (try simp only []); (refine hK _ _ ?_); clear hK K))); (try simp only [Act.put]); (try simp only [List.setIfInBounds_toArray, List.set_cons_zero, List.set_cons_succ])
                  refine wpList_done (qk_intro ?_)
                  replace hC : (Own [] w [] [] [⟨g9, o9, rcs D⟩]) _ := hO.cls
                  refine ⟨hC, ?_⟩
                refine wpAnyH_tk 25 hC ?_
                (go_big_quiet_want; (go_big_quiet_op; ((refine ⟨_, fun _ _ => rfl, ?_⟩); go_big_quiet_on))); (refine wpQuiet_nil ?_)
                refine wpAnyH_1 26 ?_
                rotate_left 1
                refine wpAnyH_tk 25 hC ?_
                (go_big_quiet_want; (go_big_quiet_op; ((refine ⟨_, fun _ _ => rfl, ?_⟩); go_big_quiet_on))); (refine wpQuiet_nil ?_)
                refine wpAnyH_1 26 ?_
                rotate_left 1
                refine wpAnyH_1 26 ?_
                rotate_left 1
                all_goals
                  refine wpOp_of_listL rfl ?_
                  ((with_reducible refine is_build ?_); (refine' own_buildP (o := ⟨some 67, _, _, _, _, _⟩) [.string ⟨z.toArray⟩, .string (⟨x.toArray⟩ ++ ⟨#[45]⟩ ++ ⟨y.toArray⟩)] hO (by rfl) rfl slice_strings rfl rfl (by rfl) (by decide) (by decide) ?_); clear hO; intro n67 wv hO); (try simp only [Act.put]); (try simp only [List.setIfInBounds_toArray, List.set_cons_zero, List.set_cons_succ])
                  refine wpList_done (qk_intro ?_)
                  replace hC : (Own [] w [] [] [⟨g9, o9, rcs D⟩]) _ := hO.cls
                  refine ⟨hC, ?_⟩
                refine wpAnyH_1 27 ?_
                rotate_left 1
                refine wpAnyH_1 27 ?_
                rotate_left 1
                refine wpAnyH_1 27 ?_
                rotate_left 1
                all_goals
                  refine wpOp_of_listL rfl ?_
                  ((with_reducible refine is_append ?_); (refine own_apV (o := ⟨some 68, _, _, _, _, _⟩) (hO := hO) (h := ?_); clear hO; intro g68 c68 wv hO)); (try simp only [Act.put]); (try simp only [List.setIfInBounds_toArray, List.set_cons_zero, List.set_cons_succ])
                  refine wpList_done (qk_intro ?_)
                  replace hC : (Own [] w [] [] [⟨g9, o9, rcs D⟩]) _ := hO.cls
                  refine ⟨hC, ?_⟩
                refine wpAnyH_1 28 ?_
                rotate_left 1
                refine wpAnyH_1 28 ?_
                rotate_left 1
                refine wpAnyH_1 28 ?_
                rotate_left 1
                all_goals
                  refine wpOp_of_listL rfl ?_
                  ((refine wpList_step (fun K hK => ?_)); go_simp; ((refine hK _ _ ?_); clear hK K))
                  refine wpList_done (qk_intro ?_)
                  replace hC : (Own [] w [] [] [⟨g9, o9, rcs D⟩]) _ := hO.cls
                  refine ⟨hC, ?_⟩
                refine wpAnyH_done (by kernel_rfl) ?_ _
                rotate_left
                refine wpAnyH_done (by kernel_rfl) ?_ _
                rotate_left
                refine wpAnyH_done (by kernel_rfl) ?_ _
                rotate_left
                all_goals clear hC
                all_goals
                  rw [show (⟨x.toArray⟩ : ByteArray) ++ ⟨#[45]⟩ ++ ⟨y.toArray⟩ = ⟨(x ++ ([45] ++ y)).toArray⟩ from cat3 x [45] y] at hO
                  rw [HC.out] at hO
                  go_wp2_with fail
                  go_roundw
                  case rel => exact ⟨i + 1, _, by omega, by go_num, HE, by (repeat rw [List.length_append]); exact hO.sub (X' := []) (by repeat (first | exact List.Sublist.refl _ | apply List.Sublist.cons)) (.refl _) (fun _ h => List.mem_cons_of_mem _ h)⟩
                  case measure => simp [intOf]; omega
            · have g3 : decide ((i : Int) < (D.length : Int)) = false := decide_eq_false (by omega)
              have HE : Hid (m = wordsF (partsW l (d + 1))) := Lib.hid (by
                rw [HM.out, show i = D.length by omega, HA.out])
              clear HM
              go_wp2_with fail
              go_roundw
              case rel => exact ⟨d + 1, m, by omega, by go_num, HE, hO.sub (X' := []) (List.nil_sublist _) (.refl _) (fun s hs => List.mem_append_right _ hs)⟩
              case measure => simp [intOf]; omega
        · have g2 : decide ((d : Int) < 7) = false := decide_eq_false (by omega)
          obtain rfl : d = 7 := by omega
          have HE := HM.out
          subst HE
          clear HM
          go_wp2_with fail
          go_ret
          exact ⟨_, rfl, ⟨hO.rowIs List.mem_cons_self, own_new hO List.mem_cons_self⟩, hO.keep.below⟩
end Go.Proofs.YtfhkmkbfgmbbaaaGreatDoor
