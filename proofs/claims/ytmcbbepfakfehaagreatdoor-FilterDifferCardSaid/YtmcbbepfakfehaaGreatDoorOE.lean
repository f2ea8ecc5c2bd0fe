/- The reference of filter tables: Valid, Decide, Of, Same; the law's boxes. -/
import Derived.Test.YtmcbbepfakfehaaGreatDoorOC
import Derived.Test.YtmcbbepfakfehaaGreatDoorMB
import Derived.Test.YtmcbbepfakfehaaGreatDoorOD
import Derived.Test.YtmcbbepfakfehaaGreatDoorOA
import Derived.Test.YtmcbbepfakfehaaGreatDoorOB
namespace Go.Proofs.YtmcbbepfakfehaaGreatDoor
open Go.RowKit
set_option maxRecDepth 100000
theorem fields_rul : ∃ f0 f1 : Field, ((Tryz.prog).fieldsOf 53).toList = [f0, f1] ∧ (f0.name = "Match" ∧ f0.type = 51 ∧ f0.offset = 0) ∧ (f1.name = "Permit" ∧ f1.type = 4 ∧ f1.offset = 10) := by
 have hm : ((Tryz.prog).fieldsOf 53).toList.map (fun f => (f.name, f.type, f.offset)) = [("Match", 51, 0), ("Permit", 4, 10)] := by kernel_rfl
 generalize ((Tryz.prog).fieldsOf 53).toList = l at *
 have hl : l.length = 2 := by simpa using congrArg List.length hm
 cases l with
 | nil => simp at hl
 | cons f0 l => cases l with
  | nil => simp at hl
  | cons f1 l => cases l with
   | nil =>
    simp only [List.map_cons, List.map_nil, List.cons.injEq, Prod.mk.injEq, and_true] at hm
    exact ⟨f0, f1, rfl, hm.1, hm.2⟩
   | cons f2 l => simp at hl
section
variable (w : World)
theorem stoodU : (Tryz.prog).stoodInHeld 53 = false := by kernel_rfl
theorem fieldsU : (Tryz.prog).underlying 53 = some (.struct ((Tryz.prog).fieldsOf 53)) := by kernel_rfl
theorem part_match (r : Rul) : (part 51 (rlcs r).toArray 0).run Tryz.prog w = .ok (bv r.1) w := by kernel_rfl
theorem part_permit (r : Rul) : (part 4 (rlcs r).toArray 10).run Tryz.prog w = .ok (.bool r.2) w := by kernel_rfl
theorem eq_bool (d : Nat) (a b : Bool) : (Op.equalIn (d + 1) 4 (.bool a) (.bool b)).run Tryz.prog w = .ok (decide (a = b)) w := by
 cases a <;> cases b <;> simp [go_sem, Op.equalIn]
theorem eq_rul (d : Nat) (a b : Rul) : (Op.equalIn (d + 1 + 1 + 1 + 1) 53 (rlv a) (rlv b)).run Tryz.prog w = .ok (decide (a = b)) w := by
 rw [run_equalIn_struct w (d + 1 + 1 + 1) _ _ _ fieldsU stoodU]
 obtain ⟨f0, f1, e, ⟨n0, t0, o0⟩, n1, t1, o1⟩ := fields_rul
 have d0 : ("Match" ≠ "_") := by decide
 have d1 : ("Permit" ≠ "_") := by decide
 rw [e]
 simp only [Op.eqFields, n0, t0, o0, n1, t1, o1, if_pos d0, if_pos d1, Sem.run_bind, part_match, Result.andThen_ok, eq_bx]
 obtain ⟨x, p⟩ := a
 obtain ⟨y, q⟩ := b
 by_cases h0 : x = y <;> by_cases h1 : p = q <;> simp [h0, h1, Sem.run_pure, Sem.run_bind, part_permit, eq_bool]
theorem run_neq_rul (a b : Rul) : (binOp .neq 53 (.agg (rlcs a).toArray) (.agg (rlcs b).toArray)).run Tryz.prog w = .ok (.bool (!decide (a = b))) w := by
 rw [run_neq_struct]
 rw [show (10000 : Nat) = 9996 + 1 + 1 + 1 + 1 from rfl, eq_rul, Result.andThen_ok]
theorem guard_rul (op : BinOp) (x y : Operand) (u v : Array Value) : (eqGuard op 53 x y (.agg u) (.agg v)).run Tryz.prog w = .ok () w := run_eqGuard_agg w op _ x y u v (by kernel_rfl)
end
attribute [go_sem high] run_neq_rul guard_rul
set_option maxHeartbeats 2000000 in
theorem lboxes_any {vt : Value} {t : List Rul} (w : World) (hv : IsTable w vt t) (hl : t.length ≤ 1000000000000) :
  Calls Tryz.prog 8 #[vt] w (RetBoxes w (t.map (·.1))) := by
 have hO := own_argR hv
 obtain ⟨a, c, rfl, ha⟩ := hv.view
 clear hv
 go_enter Tryz.func8, Tryz.ntmps8
 go_wp2_with (first | ((with_reducible refine is_load ?_); refine own_ldT (h := ?_)) | ((with_reducible refine is_store ?_); (first | refine own_stRT (hO := hO) (h := ?_) | refine own_st1T (hO := hO) (h := ?_)); clear hO; intro wv hO) | ((with_reducible refine is_build ?_); (first | (refine' own_build1 (o := ⟨some 17, _, _, _, _, _⟩) hO (by rfl) rfl rfl ?hu ?hf ?_; (case hu => (with_reducible (first | exact Tryz.underlying34 | exact und_Set | exact und_Groups | exact und_Ranges | exact und_Table))); (case hf => kernel_rfl); clear hO; intro n17 wv hO))) | ((with_reducible refine is_append ?_); refine own_apT (o := ⟨some 18, _, _, _, _, _⟩) (hO := hO) (h := ?_); clear hO; intro g18 c18 wv hO))
 replace hO := hO.nilRow 51 10
 go_loopw [3, 4] (fun r i wr => ∃ k : Nat, k ≤ t.length ∧ i = .int .i64 k ∧ Own [] w [] [⟨r, ((t.take k).map (·.1)).length, cellsB ((t.take k).map (·.1)), 51, 10⟩] (roS (.slice a t.length c) (cellsR t)) wr) (fun _ i _ => t.length - (intOf i).toNat)
 case atStart => exact ⟨0, by omega, rfl, hO⟩
 case round =>
  clear hO
  obtain ⟨k, hk, rfl, hO⟩ := hrel
  by_cases hlt : k < t.length
  ·obtain ⟨g, o, rfl⟩ := ha (by omega)
   simp only [roS] at hO
   have HT : Hid ((t.take (k + 1)).map (·.1) = (t.take k).map (·.1) ++ [t[k].1]) := Lib.hid (by rw [List.take_succ_eq_append_getElem hlt, List.map_append]; rfl)
   have hle : ((t.take k).map (·.1)).length ≤ k := by rw [List.length_map]; exact List.length_take_le _ _
   have t1 := tk_match t hlt
   generalize (t.take k).map (·.1) = m at *
   generalize t[k] = r at *
   go_wp2_with (first | ((with_reducible refine is_load ?_); refine own_ldT (h := ?_)) | ((with_reducible refine is_store ?_); (first | refine own_stRT (hO := hO) (h := ?_) | refine own_st1T (hO := hO) (h := ?_)); clear hO; intro wv hO) | ((with_reducible refine is_build ?_); (first | (refine' own_build1 (o := ⟨some 17, _, _, _, _, _⟩) hO (by rfl) rfl rfl ?hu ?hf ?_; (case hu => (with_reducible (first | exact Tryz.underlying34 | exact und_Set | exact und_Groups | exact und_Ranges | exact und_Table))); (case hf => kernel_rfl); clear hO; intro n17 wv hO))) | ((with_reducible refine is_append ?_); refine own_apT (o := ⟨some 18, _, _, _, _, _⟩) (hO := hO) (h := ?_); clear hO; intro g18 c18 wv hO))
   go_roundw
   case rel =>
    refine ⟨k + 1, by omega, by go_num, ?_⟩
    rw [HT.out, List.length_append, cellsB_append, cellsB_one]
    exact hO.sub (.cons _ (.refl _)) (.refl _) (fun _ h => h)
   case measure => simp [intOf]; omega
  ·obtain rfl : k = t.length := by omega
   rw [List.take_length] at hO
   go_wp2_with (first | ((with_reducible refine is_load ?_); refine own_ldT (h := ?_)) | ((with_reducible refine is_store ?_); (first | refine own_stRT (hO := hO) (h := ?_) | refine own_st1T (hO := hO) (h := ?_)); clear hO; intro wv hO) | ((with_reducible refine is_build ?_); (first | (refine' own_build1 (o := ⟨some 17, _, _, _, _, _⟩) hO (by rfl) rfl rfl ?hu ?hf ?_; (case hu => (with_reducible (first | exact Tryz.underlying34 | exact und_Set | exact und_Groups | exact und_Ranges | exact und_Table))); (case hf => kernel_rfl); clear hO; intro n17 wv hO))) | ((with_reducible refine is_append ?_); refine own_apT (o := ⟨some 18, _, _, _, _, _⟩) (hO := hO) (h := ?_); clear hO; intro g18 c18 wv hO))
   go_ret
   exact ⟨_, rfl, ⟨own_boxes hO List.mem_cons_self, own_new hO List.mem_cons_self⟩, hO.keep.below⟩
end Go.Proofs.YtmcbbepfakfehaaGreatDoor

/- The reference of filter tables: Permitted, Effective, Prune. -/
namespace Go.Proofs.YtmcbbepfakfehaaGreatDoor
open Go.RowKit
set_option maxRecDepth 100000
theorem drop_boxes {t : List Rul} {k : Nat} : ∀ b ∈ boxesT (t.drop k), b ∈ boxesT t := fun b hb => by
 obtain ⟨r, hr, rfl⟩ := List.mem_map.1 hb
 exact boxesT_mem (List.mem_of_mem_drop hr)
set_option maxHeartbeats 8000000 in
theorem rPermitted_any {vt : Value} {t : List Rul} (w : World) (hv : IsTable w vt t) (kt : okT t) (hl : t.length ≤ 20) :
  Calls Tryz.prog 21 #[vt] w (SetPost w (permF t)) := by
 have hO := own_argR hv
 have s0 : IntKind.i64.wrap ((t.length : Int) - 1) = (t.length : Int) - 1 := IntWalk.i64_in _ (by omega)
 obtain ⟨e, he⟩ := tab_ends t
 have HEn := Lib.hid he
 clear he
 obtain ⟨a, c, rfl, ha⟩ := hv.view
 clear hv
 go_enter Tryz.func21, Tryz.ntmps21
 go_wp2_with (first | ((with_reducible refine is_load ?_); refine own_ldT (h := ?_)) | ((with_reducible refine is_store ?_); (first | refine own_stRT (hO := hO) (h := ?_) | refine own_st1T (hO := hO) (h := ?_)); clear hO; intro wv hO) | ((with_reducible refine is_build ?_); (first | (refine' own_build1 (o := ⟨some 21, _, _, _, _, _⟩) hO (by rfl) rfl rfl ?hu ?hf ?_; (case hu => (with_reducible (first | exact Tryz.underlying34 | exact und_Set | exact und_Groups | exact und_Ranges | exact und_Table))); (case hf => kernel_rfl); clear hO; intro n21 wv hO))))
 go_loopw [4, 5] (fun q4 q5 wr => ∃ (k : Nat) (s : List Bx), k ≤ t.length ∧ q5 = .int .i64 ((k : Int) - 1) ∧ Hid (permF (t.drop k) = some s) ∧ Hid (FormB q4 s) ∧ Hid (NewFrom w q4) ∧ Own [] w [] [] (roS q4 (cellsB s) ++ roS (.slice a t.length c) (cellsR t)) wr) (fun _ q5 _ => (intOf q5 + 1).toNat)
 case atStart => exact ⟨t.length, [], by omega, rfl, Lib.hid (by rw [List.drop_length]; rfl), Lib.hid (.inl ⟨rfl, rfl⟩), Lib.hid (fun g hg => by cases hg), hO.sub (.refl _) (.refl _) (fun q hq => by simpa [roS] using hq)⟩
 case round =>
  clear hO s0
  obtain ⟨k, s, hk, hq, HE, HFm, HN, hO⟩ := hrel
  cases k with
  | zero =>
   obtain rfl : u5 = .int .i64 (-1) := hq
   rw [List.drop_zero] at HE
   go_wp2_with (first | ((with_reducible refine is_load ?_); refine own_ldT (h := ?_)) | ((with_reducible refine is_store ?_); (first | refine own_stRT (hO := hO) (h := ?_) | refine own_st1T (hO := hO) (h := ?_)); clear hO; intro wv hO) | ((with_reducible refine is_build ?_); (first | (refine' own_build1 (o := ⟨some 21, _, _, _, _, _⟩) hO (by rfl) rfl rfl ?hu ?hf ?_; (case hu => (with_reducible (first | exact Tryz.underlying34 | exact und_Set | exact und_Groups | exact und_Ranges | exact und_Table))); (case hf => kernel_rfl); clear hO; intro n21 wv hO))))
   go_ret2
   exact ⟨_, hO.keep.below, .inl ⟨s, HE.out, rfl, hO.isB HFm.out (fun q hq => List.mem_append_left _ hq), HN.out⟩⟩
  | succ j =>
   obtain rfl : u5 = .int .i64 (j : Int) := by rw [hq]; exact congrArg _ (by omega)
   clear hq
   have g1 : decide ((0 : Int) ≤ (j : Int)) = true := decide_eq_true (by omega)
   have s1 : IntKind.i64.wrap ((j : Int) - 1) = (j : Int) - 1 := IntWalk.i64_in _ (by omega)
   obtain ⟨g, o, rfl⟩ := ha (by omega)
   have hlt : j < t.length := by omega
   have hO2 := hO.sub (S' := ⟨g, o, cellsR t⟩ :: roS u4 (cellsB s)) (.refl _) (.refl _) (fun q hq => (List.mem_cons.1 hq).elim (fun h => List.mem_append_right _ (by rw [h]; exact List.mem_cons_self)) (fun h => List.mem_append_left _ h))
   replace hO := hO2
   clear hO2
   have kb := okL_one (kt _ (List.getElem_mem hlt))
   have hsp := (permF_spec (fun q hq => kt q (List.mem_of_mem_drop hq)) HE.out).1
   have ks := hsp.ok
   have ns : s.length ≤ 1000000000 := Nat.le_trans hsp.2.1 (by omega)
   have es := ((HEn.out.sub drop_boxes).of_perm HE.out).ends
   have eb := (HEn.out.one (boxesT_mem (List.getElem_mem hlt))).ends
   have hdr := permF_drop hlt
   rw [HE.out] at hdr
   dsimp only at hdr
   have t1 := tk_match t hlt
   have t2 := cr_permit t hlt
   clear hsp HE
   generalize t[j] = r at *
   obtain ⟨b, p⟩ := r
   dsimp only at t1 t2 kb hdr eb
   have h1 := fun v2 w ha hb => rsub4_any (va := u4) (vb := v2) (la := s) (lb := [b]) w ha hb ks kb ns (by simp) es eb (by omega) (by omega)
   have h2 := fun v2 w ha hb => runion4_any (va := u4) (vb := v2) (la := s) (lb := [b]) w ha hb ks kb ns (by simp) es eb (by omega) (by omega)
   clear es eb
   cases p
   ·rw [if_neg Bool.false_ne_true] at hdr
    cases hof : ofF exB s [b] with
    | none =>
     rw [hof] at h1 hdr
     have HR := Lib.hid (permF_up hdr)
     clear hdr hof
     go_wp2_with (first | ((with_reducible refine is_load ?_); refine own_ldT (h := ?_)) | ((with_reducible refine is_store ?_); (first | refine own_stRT (hO := hO) (h := ?_) | refine own_st1T (hO := hO) (h := ?_)); clear hO; intro wv hO) | ((with_reducible refine is_build ?_); (first | (refine' own_build1 (o := ⟨some 21, _, _, _, _, _⟩) hO (by rfl) rfl rfl ?hu ?hf ?_; (case hu => (with_reducible (first | exact Tryz.underlying34 | exact und_Set | exact und_Groups | exact und_Ranges | exact und_Table))); (case hf => kernel_rfl); clear hO; intro n21 wv hO))) | (go_at_call 38; (with_reducible refine (h1 _ _ (hO.isB HFm.out (fun q hq => List.mem_cons_of_mem _ hq)) (one_boxesC hO List.mem_cons_self)).mono ?_); rintro e wv hpo; obtain ⟨rfl, hb9⟩ := hpo.no; replace hO := hO.call hb9; clear hb9 hpo))
     go_ret2
     exact ⟨.slice none 0 0, hO.keep.below, .inr ⟨HR.out, rfl⟩⟩
    | some s' =>
     rw [hof] at h1 hdr
     have HR := Lib.hid hdr
     clear hdr hof
     go_wp2_with (first | ((with_reducible refine is_load ?_); refine own_ldT (h := ?_)) | ((with_reducible refine is_store ?_); (first | refine own_stRT (hO := hO) (h := ?_) | refine own_st1T (hO := hO) (h := ?_)); clear hO; intro wv hO) | ((with_reducible refine is_build ?_); (first | (refine' own_build1 (o := ⟨some 21, _, _, _, _, _⟩) hO (by rfl) rfl rfl ?hu ?hf ?_; (case hu => (with_reducible (first | exact Tryz.underlying34 | exact und_Set | exact und_Groups | exact und_Ranges | exact und_Table))); (case hf => kernel_rfl); clear hO; intro n21 wv hO))) | (go_at_call 38; (with_reducible refine (h1 _ _ (hO.isB HFm.out (fun q hq => List.mem_cons_of_mem _ hq)) (one_boxesC hO List.mem_cons_self)).mono ?_); rintro e wv hpo; obtain ⟨v3, rfl, hv9, hn9, hb9⟩ := hpo.yes; have HF3 := Lib.hid hv9.form; have hs9 := hO.keep.size; replace hO := hO.gainB hb9 hv9 hn9; clear hb9 hv9 hpo; replace hO := hO.bring))
     go_roundw
     case rel => exact ⟨j, s', by omega, rfl, HR, HF3, Lib.hid (fun g hg => Nat.le_trans hs9 (hn9 g hg)), hO.sub (.cons _ (.refl _)) (.refl _) (fun q hq => (List.mem_append.1 hq).elim (fun h => List.mem_cons_of_mem _ (List.mem_append_left _ h)) (fun h => by obtain rfl := List.mem_singleton.1 h; exact List.mem_cons_self))⟩
     case measure => simp [intOf] <;> omega
   ·rw [if_pos rfl] at hdr
    cases hof : ofF orB s [b] with
    | none =>
     rw [hof] at h2 hdr
     have HR := Lib.hid (permF_up hdr)
     clear hdr hof
     go_wp2_with (first | ((with_reducible refine is_load ?_); refine own_ldT (h := ?_)) | ((with_reducible refine is_store ?_); (first | refine own_stRT (hO := hO) (h := ?_) | refine own_st1T (hO := hO) (h := ?_)); clear hO; intro wv hO) | ((with_reducible refine is_build ?_); (first | (refine' own_build1 (o := ⟨some 21, _, _, _, _, _⟩) hO (by rfl) rfl rfl ?hu ?hf ?_; (case hu => (with_reducible (first | exact Tryz.underlying34 | exact und_Set | exact und_Groups | exact und_Ranges | exact und_Table))); (case hf => kernel_rfl); clear hO; intro n21 wv hO))) | (go_at_call 38; (with_reducible refine (h1 _ _ (hO.isB HFm.out (fun q hq => List.mem_cons_of_mem _ hq)) (one_boxesC hO List.mem_cons_self)).mono ?_); rintro e wv hpo; obtain ⟨v4, rfl, -, -, hb9⟩ := hpo.uni; replace hO := hO.call hb9; clear hb9 hpo) | (go_at_call 39; (with_reducible refine (h2 _ _ (hO.isB HFm.out (fun q hq => List.mem_cons_of_mem _ hq)) (one_boxesC hO List.mem_cons_self)).mono ?_); rintro e wv hpo; obtain ⟨rfl, hb9⟩ := hpo.no; replace hO := hO.call hb9; clear hb9 hpo))
     go_ret2
     exact ⟨.slice none 0 0, hO.keep.below, .inr ⟨HR.out, rfl⟩⟩
    | some s' =>
     rw [hof] at h2 hdr
     have HR := Lib.hid hdr
     clear hdr hof
     go_wp2_with (first | ((with_reducible refine is_load ?_); refine own_ldT (h := ?_)) | ((with_reducible refine is_store ?_); (first | refine own_stRT (hO := hO) (h := ?_) | refine own_st1T (hO := hO) (h := ?_)); clear hO; intro wv hO) | ((with_reducible refine is_build ?_); (first | (refine' own_build1 (o := ⟨some 21, _, _, _, _, _⟩) hO (by rfl) rfl rfl ?hu ?hf ?_; (case hu => (with_reducible (first | exact Tryz.underlying34 | exact und_Set | exact und_Groups | exact und_Ranges | exact und_Table))); (case hf => kernel_rfl); clear hO; intro n21 wv hO))) | (go_at_call 38; (with_reducible refine (h1 _ _ (hO.isB HFm.out (fun q hq => List.mem_cons_of_mem _ hq)) (one_boxesC hO List.mem_cons_self)).mono ?_); rintro e wv hpo; obtain ⟨v4, rfl, -, -, hb9⟩ := hpo.uni; replace hO := hO.call hb9; clear hb9 hpo) | (go_at_call 39; (with_reducible refine (h2 _ _ (hO.isB HFm.out (fun q hq => List.mem_cons_of_mem _ hq)) (one_boxesC hO List.mem_cons_self)).mono ?_); rintro e wv hpo; obtain ⟨v3, rfl, hv9, hn9, hb9⟩ := hpo.yes; have HF3 := Lib.hid hv9.form; have hs9 := hO.keep.size; replace hO := hO.gainB hb9 hv9 hn9; clear hb9 hv9 hpo))
     go_roundw
     case rel => exact ⟨j, s', by omega, rfl, HR, HF3, Lib.hid (fun g hg => Nat.le_trans hs9 (hn9 g hg)), hO.sub (.cons _ (.refl _)) (.refl _) (fun q hq => (List.mem_append.1 hq).elim (fun h => List.mem_append_left _ h) (fun h => List.mem_append_right _ (by obtain rfl := List.mem_singleton.1 h; exact List.mem_cons_self)))⟩
     case measure => simp [intOf] <;> omega

end Go.Proofs.YtmcbbepfakfehaaGreatDoor
