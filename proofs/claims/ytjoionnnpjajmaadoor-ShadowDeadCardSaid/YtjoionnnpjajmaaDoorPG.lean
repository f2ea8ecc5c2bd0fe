/- Package shadow: Clean. -/
import Derived.ScopeJumps
import Derived.WalkMore
import Derived.Test.YtjoionnnpjajmaaDoorPC
import Derived.Test.YtjoionnnpjajmaaDoorPF
namespace Go.Proofs.YtjoionnnpjajmaaDoor
open Go.RowKit
set_option maxRecDepth 100000
theorem wp_scope_jumps2 {P : Program} {a : Act} {w : World} {Q : Exit → Act → World → Prop} {c rest : Code} (l : Nat) (J : Act → World → Prop) (μ : Act → World → Nat) (hf : findLabel c l = some (Code.skip.seq rest))
  (pass : ∀ a w, J a w → rest.wp P (Exit.jump l (fun a' w' => J a' w' ∧ μ a' w' < μ a w) Q) a w) (first : (∀ a w, J a w → rest.wp P (Exit.jump l J Q) a w) → c.wp P (Exit.jump l J Q) a w) : (Code.scope c).wp P Q a w :=
 wp_scope_jumps l J μ hf (first fun a w h => wp_mono (pass a w h) fun e a' w' hq => by
  cases e <;> first | exact hq | exact ⟨hq.1, hq.2.1⟩) fun a w h => wp_seq (wp_skip (pass a w h))
set_option maxHeartbeats 32000000 in
theorem sClean_any {vt : Value} {t : List Rul} (w : World) (ht : Tops w) (hv : IsTable w vt t) (kt : okT t) (hl : t.length ≤ 1000000000000) :
  Calls Tryd.prog 8 #[vt] w (ClPost w (clR t)) := by
 have hO := own_argR hv
 have h1 : ∀ w, Tops w → IsTable w vt t → Calls Tryd.prog 23 #[vt] w fun e w' => e = .returned (.bool (validT t)) ∧ Below w.heap.size w w' := fun w ht hv => fValid_any w ht hv (by omega)
 obtain ⟨a, c, rfl, ha⟩ := hv.view
 cases hV : validT t with
 | false =>
  rw [hV] at h1
  have HR : Hid (clR t = ([], [], 1)) := Lib.hid (by unfold clR; rw [hV, if_neg Bool.false_ne_true])
  clear hV
  go_enter Tryd.func8, Tryd.ntmps8
  go_wp2_with (first | refine ldNT ?_ | ((first | refine stNT hO ?_ | refine st1NT hO ?_); clear hO; intro wv hO) | (refine bl9T 25 hO ?_; clear hO; intro n25 wv hO) | (refine bl9T 49 hO ?_; clear hO; intro n49 wv hO) | (refine ap9T 17 hO ?_; clear hO; intro g17 c17 wv hO) | (refine ap9T 26 hO ?_; clear hO; intro g26 c26 wv hO) | (refine ap9T 50 hO ?_; clear hO; intro g50 c50 wv hO))
  go_step3
  go_wp2_with (first | refine ldNT ?_ | ((first | refine stNT hO ?_ | refine st1NT hO ?_); clear hO; intro wv hO) | (refine bl9T 25 hO ?_; clear hO; intro n25 wv hO) | (refine bl9T 49 hO ?_; clear hO; intro n49 wv hO) | (refine ap9T 17 hO ?_; clear hO; intro g17 c17 wv hO) | (refine ap9T 26 hO ?_; clear hO; intro g26 c26 wv hO) | (refine ap9T 50 hO ?_; clear hO; intro g50 c50 wv hO) | (go_at_call 23; (with_reducible refine (h1 _ (hO.tops ht (by simp)) (hv.keep0 hO)).mono ?_); rintro e wv ⟨rfl, hb9⟩; replace hO := hO.call hb9; clear hb9))
  rw [Exit.noGoto_ret]
  go_ret3
  rw [HR.out]
  exact ⟨_, _, rfl, table_nil _, new_nilS _, nums_nil _, new_nilS _, hO.keep.below⟩
 | true =>
  rw [hV] at h1
  go_enter Tryd.func8, Tryd.ntmps8
  go_wp2_with (first | refine ldNT ?_ | ((first | refine stNT hO ?_ | refine st1NT hO ?_); clear hO; intro wv hO) | (refine bl9T 25 hO ?_; clear hO; intro n25 wv hO) | (refine bl9T 49 hO ?_; clear hO; intro n49 wv hO) | (refine ap9T 17 hO ?_; clear hO; intro g17 c17 wv hO) | (refine ap9T 26 hO ?_; clear hO; intro g26 c26 wv hO) | (refine ap9T 50 hO ?_; clear hO; intro g50 c50 wv hO))
  refine wp_scope_jumps2 0 (fun a' w' => ∃ (u : List Rul) (ix rm : List Int) (v5 v6 v7 u1 u2 u3 u4 u8 u9 u10 u11 u12 u13 u14 u15 u16 u17 u18 u19 u20 u21 u22 u23 u24 u25 u26 u27 u28 u29 u30 u31 u32 u33 u34 u35 u36 u37 u38 u39 u40 u41 u42 u43 u44 u45 u46 u47 u48 u49 u50 u51 u52 u53 u54 u55 u56 u57 u58 u59 u60 u61 : Value), a' = { tmps := #[.slice a t.length c, u1, u2, u3, u4, v5, v6, v7, u8, u9, u10, u11, u12, u13, u14, u15, u16, u17, u18, u19, u20, u21, u22, u23, u24, u25, u26, u27, u28, u29, u30, u31, u32, u33, u34, u35, u36, u37, u38, u39, u40, u41, u42, u43, u44, u45, u46, u47, u48, u49, u50, u51, u52, u53, u54, u55, u56, u57, u58, u59, u60, u61], defers := [] } ∧ Hid (ix.length = u.length) ∧ Hid (rm.length + u.length = t.length) ∧ Hid (clF u ix rm 0 = clF t (upTo t.length) [] 0) ∧ okT u ∧ FormR v5 u ∧ Hid (NewFrom w v5) ∧ Own [] w [] [⟨v7, rm.length, ints rm, 3, 1⟩, ⟨v6, ix.length, ints ix, 3, 1⟩] (roS v5 (cellsR u)) w') (fun a' _ => lenV (a'.tmps.getD 5 undef)) rfl ?_ ?_
  ·rintro a1 w1 ⟨u, ix, rm, v5, v6, v7, u1, u2, u3, u4, u8, u9, u10, u11, u12, u13, u14, u15, u16, u17, u18, u19, u20, u21, u22, u23, u24, u25, u26, u27, u28, u29, u30, u31, u32, u33, u34, u35, u36, u37, u38, u39, u40, u41, u42, u43, u44, u45, u46, u47, u48, u49, u50, u51, u52, u53, u54, u55, u56, u57, u58, u59, u60, u61, rfl, HX, HRM, HC, ku, hf0, HN, hO⟩
   have nrm : rm.length ≤ t.length := by have := HRM.out; omega
   have nix : ix.length ≤ t.length := by have := HX.out; have := HRM.out; omega
   have nu : u.length ≤ t.length := by have := HRM.out; omega
   obtain ⟨a0, c0, rfl, ha0⟩ := hf0.view
   obtain ⟨a6, c6, hv6, ha6⟩ := rowview11 (hO.row _ (List.mem_cons_of_mem _ List.mem_cons_self))
   dsimp only at hv6 ha6
   subst hv6
   go_wp2_with (first | refine ldNT ?_ | ((first | refine stNT hO ?_ | refine st1NT hO ?_); clear hO; intro wv hO) | (refine bl9T 25 hO ?_; clear hO; intro n25 wv hO) | (refine bl9T 49 hO ?_; clear hO; intro n49 wv hO) | (refine ap9T 17 hO ?_; clear hO; intro g17 c17 wv hO) | (refine ap9T 26 hO ?_; clear hO; intro g26 c26 wv hO) | (refine ap9T 50 hO ?_; clear hO; intro g50 c50 wv hO))
   go_loopw [5, 6, 7, 30] (fun q5 q6 q7 q wr => ∃ i : Nat, i ≤ u.length ∧ q5 = .slice a0 u.length c0 ∧ q6 = .slice a6 ix.length c6 ∧ q7 = v7 ∧ q = .int .i64 i ∧ Hid (clF u ix rm i = clF t (upTo t.length) [] 0) ∧ Own [] w [] [⟨v7, rm.length, ints rm, 3, 1⟩, ⟨.slice a6 ix.length c6, ix.length, ints ix, 3, 1⟩] (roS (.slice a0 u.length c0) (cellsR u)) wr) (fun _ _ _ q _ => u.length - (intOf q).toNat)
   case atStart => exact ⟨0, by omega, rfl, rfl, rfl, rfl, HC, hO⟩
   case round =>
    clear hO HC
    obtain ⟨i, hi, rfl, rfl, rfl, rfl, HC, hO⟩ := hrel
    have s1 : IntKind.i64.wrap ((i : Int) + 1) = (i : Int) + 1 := IntWalk.i64_in _ (by omega)
    by_cases hlt : i < u.length
    ·have h2 : ∀ w, Tops w → IsTable w (.slice a0 u.length c0) u → Calls Tryd.prog 24 #[.slice a0 u.length c0, .int .i64 i] w (StPost w (stF u i)) := fun w ht hv => sstate_any w ht hv ku (by omega) hlt
     cases hs : stF u i with
     | none =>
      rw [hs] at h2
      have HR := Lib.hid (clR_none hV (HC.out.symm.trans (clF_none hlt hs)))
      clear hs HC
      go_wp2_with (first | refine ldNT ?_ | ((first | refine stNT hO ?_ | refine st1NT hO ?_); clear hO; intro wv hO) | (refine bl9T 25 hO ?_; clear hO; intro n25 wv hO) | (refine bl9T 49 hO ?_; clear hO; intro n49 wv hO) | (refine ap9T 17 hO ?_; clear hO; intro g17 c17 wv hO) | (refine ap9T 26 hO ?_; clear hO; intro g26 c26 wv hO) | (refine ap9T 50 hO ?_; clear hO; intro g50 c50 wv hO) | (go_at_call 24; (with_reducible refine (h2 _ (hO.tops ht (by simp)) (hO.isRm hf0)).mono ?_); rintro e wv hpo; obtain ⟨v9, rfl, hb9⟩ := StPost.no hpo; replace hO := hO.call hb9; clear hb9 hpo))
      (try simp only [Exit.jump])
      go_ret3
      rw [HR.out]
      exact ⟨_, _, rfl, table_nil _, new_nilS _, nums_nil _, new_nilS _, hO.keep.below⟩
     | some x =>
      obtain ⟨e, b⟩ := x
      rw [hs] at h2
      cases b with
      | false =>
       have HC2 := Lib.hid ((clF_go hlt hs).symm.trans HC.out)
       clear hs HC
       go_wp2_with (first | refine ldNT ?_ | ((first | refine stNT hO ?_ | refine st1NT hO ?_); clear hO; intro wv hO) | (refine bl9T 25 hO ?_; clear hO; intro n25 wv hO) | (refine bl9T 49 hO ?_; clear hO; intro n49 wv hO) | (refine ap9T 17 hO ?_; clear hO; intro g17 c17 wv hO) | (refine ap9T 26 hO ?_; clear hO; intro g26 c26 wv hO) | (refine ap9T 50 hO ?_; clear hO; intro g50 c50 wv hO) | (go_at_call 24; (with_reducible refine (h2 _ (hO.tops ht (by simp)) (hO.isRm hf0)).mono ?_); rintro e wv hpo; obtain ⟨v9, rfl, -, -, hb9⟩ := StPost.yes hpo; replace hO := hO.call hb9; clear hb9 hpo))
       go_roundw
       case rel => exact ⟨i + 1, by omega, rfl, rfl, rfl, by go_num, HC2, hO⟩
       case measure => simp [intOf]; omega
      | true =>
       have HC2 := (clF_rm (ix := ix) (rm := rm) hlt hs).symm.trans HC.out
       clear hs HC
       have hii : i < ix.length := by have := HX.out; omega
       rw [getD_at hii] at HC2
       have h3 : ∀ w, IsTable w (.slice a0 u.length c0) u → Calls Tryd.prog 25 #[.slice a0 u.length c0, .int .i64 i] w (RetTable w (woF u i)) := fun w hv => swithout_any w hv hlt (by omega)
       have HWL := Lib.hid (woF_length hlt)
       have HWI := Lib.hid (woF_length hii)
       have ku2 := okT_wo ku i
       have c1 := ints_get hii
       obtain ⟨g6, rfl⟩ := ha6 (by omega)
       have h4 := fun w hr => sdelete_any (g := g6) (c := c6) (l := ix) (i := i) w hr hii (by omega)
       generalize ix[i] = z at *
       generalize woF u i = u2 at *
       go_wp2_with (first | refine ldNT ?_ | ((first | refine stNT hO ?_ | refine st1NT hO ?_); clear hO; intro wv hO) | (refine bl9T 25 hO ?_; clear hO; intro n25 wv hO) | (refine bl9T 49 hO ?_; clear hO; intro n49 wv hO) | (refine ap9T 17 hO ?_; clear hO; intro g17 c17 wv hO) | (refine ap9T 26 hO ?_; clear hO; intro g26 c26 wv hO) | (refine ap9T 50 hO ?_; clear hO; intro g50 c50 wv hO) | (go_at_call 24; (with_reducible refine (h2 _ (hO.tops ht (by simp)) (hO.isRm hf0)).mono ?_); rintro e wv hpo; obtain ⟨v9, rfl, -, -, hb9⟩ := StPost.yes hpo; replace hO := hO.call hb9; clear hb9 hpo) | ((with_reducible refine is_build ?_); (refine' own_buildP (o := ⟨some 49, _, _, _, _, _⟩) [.int .i64 z] hO (by rfl) rfl slice_Ints rfl rfl (by rfl) (by decide) (by decide) ?_); clear hO; intro n49 wv hO) | ((with_reducible refine is_append ?_); (refine own_append (o := ⟨some 50, _, _, _, _, _⟩) hO rfl rfl slice_Ints rfl rfl (by (repeat (first | exact List.mem_cons_self | refine List.mem_cons_of_mem _ ?_))) rfl (by omega) rfl (fun _ _ => by repeat (first | exact UpdR.here | apply UpdR.there)) (by first | omega | (simp; omega)) (by unfold maxLen; first | omega | (simp; omega)) ?_); clear hO; intro g50 c50 wv hO) | (go_at_call 25; (with_reducible refine (h3 _ (hO.isRm hf0)).mono ?_); rintro e wv ⟨v8, rfl, ⟨hv9, hn9⟩, hb9⟩; have hf8 := hv9.form; have HLV := Lib.hid (lenV_form hv9.form); have hn8 : NewFrom w v8 := (fun g hg => Nat.le_trans hO.keep.size (hn9 g hg)); replace hO := hO.gainR hb9 hv9 hn9; clear hb9 hv9 hn9 h3) | (go_at_call 26; (with_reducible refine (h4 _ (hO.row _ (List.mem_cons_of_mem _ List.mem_cons_self))).mono ?_); rintro e wv ⟨rfl, hk9, hr9⟩; replace hO := hO.afterRow2 (.there .here) hk9 hr9 rfl; clear hk9 hr9 h4))
       go_step3
       refine ⟨rfl, ⟨u2, woF ix i, rm ++ [z], _, _, _, _, _, _, _, _, _, _, _, _, _, _, _, _, _, _, _, _, _, _, _, _, _, _, _, _, _, _, _, _, _, _, _, _, _, _, _, _, _, _, _, _, _, _, _, _, _, _, _, _, _, _, _, _, _, _, _, _, _, rfl, Lib.hid (by rw [HWI.out, HWL.out, HX.out]), Lib.hid (by rw [HWL.out, List.length_append]; have := HRM.out; simp; omega), Lib.hid HC2, ku2, hf8, Lib.hid hn8, ?_⟩, ?_⟩
       ·rw [List.length_append, ints_app, HWI.out]
        exact hO.sub (.cons _ (.refl _)) (.refl _) (fun q hq => List.mem_append_left _ hq)
       ·show lenV v8 < lenV (.slice a0 u.length c0)
        rw [HLV.out, HWL.out]
        simp only [lenV]
        omega
    ·obtain rfl : i = u.length := by omega
     have HR := Lib.hid (clR_some hV (HC.out.symm.trans (clF_end (by omega))))
     go_wp2_with (first | refine ldNT ?_ | ((first | refine stNT hO ?_ | refine st1NT hO ?_); clear hO; intro wv hO) | (refine bl9T 25 hO ?_; clear hO; intro n25 wv hO) | (refine bl9T 49 hO ?_; clear hO; intro n49 wv hO) | (refine ap9T 17 hO ?_; clear hO; intro g17 c17 wv hO) | (refine ap9T 26 hO ?_; clear hO; intro g26 c26 wv hO) | (refine ap9T 50 hO ?_; clear hO; intro g50 c50 wv hO))
     (try simp only [Exit.jump])
     go_ret3
     rw [HR.out]
     exact ⟨_, _, rfl, hO.isR hf0 (by intro q hq; repeat (first | exact hq | exact List.mem_append_left _ hq | apply List.mem_append_right | apply List.mem_cons_of_mem)), HN.out, hO.rowNums rfl List.mem_cons_self, own_new hO List.mem_cons_self, hO.keep.below⟩
  ·intro hrest
   replace hO := hO.nilRow 42 11
   go_wp2_with (first | refine ldNT ?_ | ((first | refine stNT hO ?_ | refine st1NT hO ?_); clear hO; intro wv hO) | (refine bl9T 25 hO ?_; clear hO; intro n25 wv hO) | (refine bl9T 49 hO ?_; clear hO; intro n49 wv hO) | (refine ap9T 17 hO ?_; clear hO; intro g17 c17 wv hO) | (refine ap9T 26 hO ?_; clear hO; intro g26 c26 wv hO) | (refine ap9T 50 hO ?_; clear hO; intro g50 c50 wv hO) | (go_at_call 23; (with_reducible refine (h1 _ (hO.tops ht (by simp)) (hv.keep0 hO)).mono ?_); rintro e wv ⟨rfl, hb9⟩; replace hO := hO.call hb9; clear hb9) | ((with_reducible refine is_append ?_); (refine own_appendA (o := ⟨some 17, _, _, _, _, _⟩) hO rfl rfl slice_Table rfl rfl (src_table (hv.keep0 hO) (m := t.length) (Nat.le_refl _)) (cellsR_one' _) (fun _ => by repeat (first | exact UpdR.here | apply UpdR.there)) (by first | omega | (simp; omega)) (by unfold maxLen; first | omega | (simp; omega)) ?_); clear hO; intro g17 c17 wv hO; (try simp only [Nat.zero_add, List.nil_append] at hO)))
   clear h1
   rw [List.take_length] at hO
   have hf0 := (own_table hO List.mem_cons_self).form
   have HN := Lib.hid (own_new hO List.mem_cons_self)
   replace hO := hO.rowRoX.nilRow 3 1
   go_loopw [6, 20] (fun v q wr => ∃ k : Nat, k ≤ t.length ∧ q = .int .i64 k ∧ Own [] w [] [⟨v, k, ints (upTo k), 3, 1⟩] (roS (.slice g17 t.length c17) (cellsR t)) wr) (fun _ q _ => t.length - (intOf q).toNat)
   case atStart => exact ⟨0, by omega, rfl, hO.sub (.refl _) (.refl _) (fun q hq => List.mem_append_left _ hq)⟩
   case round =>
    clear hO
    obtain ⟨k, hk, rfl, hO⟩ := hrel
    have s1 : IntKind.i64.wrap ((k : Int) + 1) = (k : Int) + 1 := IntWalk.i64_in _ (by omega)
    by_cases hlt : k < t.length
    ·have hy := upTo_succ k
     go_wp2_with (first | refine ldNT ?_ | ((first | refine stNT hO ?_ | refine st1NT hO ?_); clear hO; intro wv hO) | (refine bl9T 25 hO ?_; clear hO; intro n25 wv hO) | (refine bl9T 49 hO ?_; clear hO; intro n49 wv hO) | (refine ap9T 17 hO ?_; clear hO; intro g17 c17 wv hO) | (refine ap9T 26 hO ?_; clear hO; intro g26 c26 wv hO) | (refine ap9T 50 hO ?_; clear hO; intro g50 c50 wv hO) | ((with_reducible refine is_build ?_); (refine' own_buildP (o := ⟨some 25, _, _, _, _, _⟩) [.int .i64 k] hO (by rfl) rfl slice_Ints rfl rfl (by rfl) (by decide) (by decide) ?_); clear hO; intro n25 wv hO) | ((with_reducible refine is_append ?_); (refine own_append (o := ⟨some 26, _, _, _, _, _⟩) hO rfl rfl slice_Ints rfl rfl (by (repeat (first | exact List.mem_cons_self | refine List.mem_cons_of_mem _ ?_))) rfl (by omega) rfl (fun _ _ => by repeat (first | exact UpdR.here | apply UpdR.there)) (by first | omega | (simp; omega)) (by unfold maxLen; first | omega | (simp; omega)) ?_); clear hO; intro g26 c26 wv hO))
     go_roundw
     case rel =>
      refine ⟨k + 1, by omega, by go_num, ?_⟩
      rw [hy, ints_app]
      exact hO.sub (.cons _ (.refl _)) (.refl _) (fun _ h => h)
     case measure => simp [intOf]; omega
    ·obtain rfl : k = t.length := by omega
     go_wp2_with (first | refine ldNT ?_ | ((first | refine stNT hO ?_ | refine st1NT hO ?_); clear hO; intro wv hO) | (refine bl9T 25 hO ?_; clear hO; intro n25 wv hO) | (refine bl9T 49 hO ?_; clear hO; intro n49 wv hO) | (refine ap9T 17 hO ?_; clear hO; intro g17 c17 wv hO) | (refine ap9T 26 hO ?_; clear hO; intro g26 c26 wv hO) | (refine ap9T 50 hO ?_; clear hO; intro g50 c50 wv hO))
     go_step3
     rename_i hK9
     refine hK9 _ _ ?_
     replace hO := hO.nilRow 3 1
     exact hrest _ _ ⟨t, upTo t.length, [], _, _, _, _, _, _, _, _, _, _, _, _, _, _, _, _, _, _, _, _, _, _, _, _, _, _, _, _, _, _, _, _, _, _, _, _, _, _, _, _, _, _, _, _, _, _, _, _, _, _, _, _, _, _, _, _, _, _, _, _, _, rfl, Lib.hid (upTo_length _), Lib.hid (by simp), Lib.hid rfl, kt, hf0, HN, by rw [upTo_length]; exact hO⟩
end Go.Proofs.YtjoionnnpjajmaaDoor
