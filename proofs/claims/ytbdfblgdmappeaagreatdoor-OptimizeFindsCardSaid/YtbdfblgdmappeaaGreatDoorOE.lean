/- The reference of filter tables: Valid, Decide, Of, Same; the law's boxes. -/
import Derived.Test.YtbdfblgdmappeaaGreatDoorOC
import Derived.Test.YtbdfblgdmappeaaGreatDoorMB
import Derived.Test.YtbdfblgdmappeaaGreatDoorOD
import Derived.Test.YtbdfblgdmappeaaGreatDoorOA
import Derived.Test.YtbdfblgdmappeaaGreatDoorOB
namespace Go.Proofs.YtbdfblgdmappeaaGreatDoor
open Go.RowKit
set_option maxRecDepth 100000
theorem fields_rul : ∃ f0 f1 : Field, ((Tryz.prog).fieldsOf 100).toList = [f0, f1] ∧ (f0.name = "Match" ∧ f0.type = 98 ∧ f0.offset = 0) ∧ (f1.name = "Permit" ∧ f1.type = 4 ∧ f1.offset = 10) := by
 have hm : ((Tryz.prog).fieldsOf 100).toList.map (fun f => (f.name, f.type, f.offset)) = [("Match", 98, 0), ("Permit", 4, 10)] := by kernel_rfl
 generalize ((Tryz.prog).fieldsOf 100).toList = l at *
 have hl : l.length = 2 := by simpa using congrArg List.length hm
 cases l with
 | nil => simp at hl
 | cons f0 l => cases l with
  | nil => simp at hl
  | cons f1 l => cases l with
   | nil =>
    simp only [List.map_cons, List.map_nil, List.cons.injEq, Prod.mk.injEq, and_true] at hm
    exact ⟨f0, f1, rfl, hm.1, hm.2⟩
   | cons f2 l => simp at hl
section
variable (w : World)
theorem stoodU : (Tryz.prog).stoodInHeld 100 = false := by kernel_rfl
theorem fieldsU : (Tryz.prog).underlying 100 = some (.struct ((Tryz.prog).fieldsOf 100)) := by kernel_rfl
theorem part_match (r : Rul) : (part 98 (rlcs r).toArray 0).run Tryz.prog w = .ok (bv r.1) w := by kernel_rfl
theorem part_permit (r : Rul) : (part 4 (rlcs r).toArray 10).run Tryz.prog w = .ok (.bool r.2) w := by kernel_rfl
theorem eq_bool (d : Nat) (a b : Bool) : (Op.equalIn (d + 1) 4 (.bool a) (.bool b)).run Tryz.prog w = .ok (decide (a = b)) w := by
 cases a <;> cases b <;> simp [go_sem, Op.equalIn]
theorem eq_rul (d : Nat) (a b : Rul) : (Op.equalIn (d + 1 + 1 + 1 + 1) 100 (rlv a) (rlv b)).run Tryz.prog w = .ok (decide (a = b)) w := by
 rw [run_equalIn_struct w (d + 1 + 1 + 1) _ _ _ fieldsU stoodU]
 obtain ⟨f0, f1, e, ⟨n0, t0, o0⟩, n1, t1, o1⟩ := fields_rul
 have d0 : ("Match" ≠ "_") := by decide
 have d1 : ("Permit" ≠ "_") := by decide
 rw [e]
 simp only [Op.eqFields, n0, t0, o0, n1, t1, o1, if_pos d0, if_pos d1, Sem.run_bind, part_match, Result.andThen_ok, eq_bx]
 obtain ⟨x, p⟩ := a
 obtain ⟨y, q⟩ := b
 by_cases h0 : x = y <;> by_cases h1 : p = q <;> simp [h0, h1, Sem.run_pure, Sem.run_bind, part_permit, eq_bool]
theorem run_neq_rul (a b : Rul) : (binOp .neq 100 (.agg (rlcs a).toArray) (.agg (rlcs b).toArray)).run Tryz.prog w = .ok (.bool (!decide (a = b))) w := by
 rw [run_neq_struct]
 rw [show (10000 : Nat) = 9996 + 1 + 1 + 1 + 1 from rfl, eq_rul, Result.andThen_ok]
theorem guard_rul (op : BinOp) (x y : Operand) (u v : Array Value) : (eqGuard op 100 x y (.agg u) (.agg v)).run Tryz.prog w = .ok () w := run_eqGuard_agg w op _ x y u v (by kernel_rfl)
end
attribute [go_sem high] run_neq_rul guard_rul
set_option maxHeartbeats 2000000 in
theorem rValid8_any {vt : Value} {t : List Rul} (w : World) (hv : IsTable w vt t) (hl : t.length ≤ 9223372036854775806) :
  Calls Tryz.prog 46 #[vt] w fun e w' => e = .returned (.bool (validT t)) ∧ Below w.heap.size w w' := by
 have hO := own_argR hv
 obtain ⟨a, c, rfl, ha⟩ := hv.view
 clear hv
 unfold validT
 go_enter Tryz.func46, Tryz.ntmps46
 go_wp2_with fail
 go_loopw [3] (fun i wr => ∃ k : Nat, k ≤ t.length ∧ i = .int .i64 k ∧ Hid ((t.take k).all (fun r => vld r.1) = true) ∧ Own [] w [] [] (roS (.slice a t.length c) (cellsR t)) wr) (fun i _ => t.length - (intOf i).toNat)
 case atStart => exact ⟨0, by omega, rfl, Lib.hid rfl, hO⟩
 case round =>
  clear hO
  obtain ⟨k, hk, rfl, HA, hO⟩ := hrel
  by_cases hlt : k < t.length
  ·obtain ⟨g, o, rfl⟩ := ha (by omega)
   simp only [roS] at hO
   have hvv := fun w => rvalid_any t[k].1 w
   have t1 := tk_match t hlt
   cases hb : vld t[k].1
   ·rw [hb] at hvv
    have HF := Lib.hid (all_not (p := fun r : Rul => vld r.1) hlt hb)
    clear hb
    generalize t[k] = r at *
    go_wp2_with (first | refine ldNT ?_ | (go_at_call 105; refine (hvv _).mono ?_; rintro e wv ⟨rfl, hb⟩; replace hO := hO.call hb; clear hb))
    go_ret
    exact ⟨by rw [HF.out]; rfl, hO.keep.below⟩
   ·rw [hb] at hvv
    have HF := Lib.hid (all_take (p := fun r : Rul => vld r.1) hlt HA.out hb)
    clear hb
    generalize t[k] = r at *
    go_wp2_with (first | refine ldNT ?_ | (go_at_call 105; refine (hvv _).mono ?_; rintro e wv ⟨rfl, hb⟩; replace hO := hO.call hb; clear hb))
    go_roundw
    case rel => exact ⟨k + 1, by omega, by go_num, HF, hO⟩
    case measure => simp [intOf]; omega
  ·obtain rfl : k = t.length := by omega
   rw [List.take_length] at HA
   go_wp2_with fail
   go_ret
   exact ⟨ret_bool (by rw [HA.out, Bool.true_and]; exact decide_eq_decide.2 (by omega)), hO.keep.below⟩
theorem roS_argR2 {w : World} {v u : Value} {l m : List Rul} (h : IsTable w v l) (k : IsTable w u m) : Own [] w [] [] (roS v (cellsR l) ++ roS u (cellsR m)) w := (own_argR k).addTable h
set_option maxHeartbeats 2000000 in
theorem rSame8_any (v u : Value) (l m : List Rul) (w : World) (hv : IsTable w v l) (hu : IsTable w u m) (hm : l.length ≤ 9223372036854775806) (hm2 : m.length ≤ 9223372036854775806) :
  Calls Tryz.prog 16 #[v, u] w fun e w' => e = .returned (.bool (decide (l = m))) ∧ Below w.heap.size w w' := by
 have hO := roS_argR2 hv hu
 obtain ⟨a, c, rfl, ha⟩ := hv.view
 obtain ⟨a2, c2, rfl, ha2⟩ := hu.view
 clear hv hu
 by_cases hl : l.length = m.length
 ·have q : ((l.length : Int) != (m.length : Int)) = false := by simp [hl]
  have HL := Lib.hid hl
  clear hl
  go_enter Tryz.func16, Tryz.ntmps16
  go_wp2_with fail
  go_loopw [5] (fun i wr => ∃ k : Nat, k ≤ l.length ∧ i = .int .i64 k ∧ l.take k = m.take k ∧ Own [] w [] [] (roS (.slice a l.length c) (cellsR l) ++ roS (.slice a2 m.length c2) (cellsR m)) wr) (fun i _ => l.length - (intOf i).toNat)
  case atStart => exact ⟨0, by omega, rfl, by simp, hO⟩
  case round =>
   clear hO
   obtain ⟨k, hk, rfl, hin, hO⟩ := hrel
   have HI := Lib.hid hin
   clear hin
   by_cases hlt : k < l.length
   ·have hlt2 : k < m.length := by have := HL.out; omega
    obtain ⟨g, o, rfl⟩ := ha (by omega)
    obtain ⟨g2, o2, rfl⟩ := ha2 (by omega)
    simp only [roS, List.cons_append, List.nil_append] at hO
    have t1 := tk_rule l hlt
    have t2 := tk_rule m hlt2
    by_cases he : l[k] = m[k]
    ·have q1 : (!decide (l[k] = m[k])) = false := by simp [he]
     have HE := Lib.hid he
     clear he
     go_wp2_with fail
     (refine own_quiet hO (by kernel_rfl) (by kernel_rfl) ?_; clear hO; (repeat (go_big_quiet_want; (first | ((with_reducible refine is_loadQ ?_); (refine q_ldT (h := ?_)); (try simp only [Act.put]); (try simp only [sI9, sZ9, sS9]); go_big_quiet_on) | (go_big_quiet_op; (first | go_big_quiet_on | ((refine ⟨_, fun _ _ => rfl, ?_⟩); go_big_quiet_on)))))); (refine wpQuiet_nil ?_); intro wv hO)
     go_wp2_with fail
     go_roundw
     case rel => exact ⟨k + 1, by omega, by go_num, by rw [List.take_succ_eq_append_getElem hlt, List.take_succ_eq_append_getElem hlt2, HI.out, HE.out], hO⟩
     case measure => simp [intOf]; omega
    ·have q1 : (!decide (l[k] = m[k])) = true := by simp [he]
     have E := Lib.hid (show decide (l = m) = false by simp; intro e; subst e; exact he rfl)
     clear he
     go_wp2_with fail
     (refine own_quiet hO (by kernel_rfl) (by kernel_rfl) ?_; clear hO; (repeat (go_big_quiet_want; (first | ((with_reducible refine is_loadQ ?_); (refine q_ldT (h := ?_)); (try simp only [Act.put]); (try simp only [sI9, sZ9, sS9]); go_big_quiet_on) | (go_big_quiet_op; (first | go_big_quiet_on | ((refine ⟨_, fun _ _ => rfl, ?_⟩); go_big_quiet_on)))))); (refine wpQuiet_nil ?_); intro wv hO)
     go_wp2_with fail
     go_ret
     exact ⟨ret_bool E.out.symm, hO.keep.below⟩
   ·obtain rfl : k = l.length := by omega
    have E := Lib.hid (show decide (l = m) = true by
     have h := HI.out; rw [List.take_length, HL.out, List.take_length] at h; simpa using h)
    go_wp2_with fail
    go_ret
    exact ⟨ret_bool E.out.symm, hO.keep.below⟩
 ·have q : ((l.length : Int) != (m.length : Int)) = true := by simp; omega
  have E := Lib.hid (show decide (l = m) = false by simp; intro e; exact hl (by rw [e]))
  clear hl
  go_enter Tryz.func16, Tryz.ntmps16
  go_wp2_with fail
  go_ret
  exact ⟨ret_bool E.out.symm, hO.keep.below⟩
theorem SetPost.uni2 {w w' : World} {r : Option (List Bx)} {e : Ending} (h : SetPost w r e w') : ∃ v, e = .returned (.tuple #[v, .int .i64 (ecd r)]) ∧ IsBoxes w' v (r.getD []) ∧ NewFrom w v ∧ Below w.heap.size w w' ∧ (r = none → v = .slice none 0 0) := by
 obtain ⟨v, hb, ⟨l, rfl, h2, h3, h4⟩ | ⟨rfl, h2⟩⟩ := h
 ·exact ⟨v, h2, h3, h4, hb, fun h => by cases h⟩
 ·exact ⟨_, h2, .inl ⟨rfl, rfl⟩, fun g hg => (by cases hg), hb, fun _ => rfl⟩
theorem drop_boxes {t : List Rul} {k : Nat} : ∀ b ∈ boxesT (t.drop k), b ∈ boxesT t := fun b hb => by
 obtain ⟨r, hr, rfl⟩ := List.mem_map.1 hb
 exact boxesT_mem (List.mem_of_mem_drop hr)
set_option maxHeartbeats 8000000 in
theorem rPermitted_any {vt : Value} {t : List Rul} (w : World) (hv : IsTable w vt t) (kt : okT t) (hl : t.length ≤ 20) :
  Calls Tryz.prog 107 #[vt] w (SetPost w (permF t)) := by
 have hO := own_argR hv
 have s0 : IntKind.i64.wrap ((t.length : Int) - 1) = (t.length : Int) - 1 := IntWalk.i64_in _ (by omega)
 obtain ⟨e, he⟩ := tab_ends t
 have HEn := Lib.hid he
 clear he
 obtain ⟨a, c, rfl, ha⟩ := hv.view
 clear hv
 go_enter Tryz.func107, Tryz.ntmps107
 go_wp2_with fail
 go_loopw [4, 5] (fun q4 q5 wr => ∃ (k : Nat) (s : List Bx), k ≤ t.length ∧ q5 = .int .i64 ((k : Int) - 1) ∧ Hid (permF (t.drop k) = some s) ∧ Hid (FormB q4 s) ∧ Hid (NewFrom w q4) ∧ Own [] w [] [] (roS q4 (cellsB s) ++ roS (.slice a t.length c) (cellsR t)) wr) (fun _ q5 _ => (intOf q5 + 1).toNat)
 case atStart => exact ⟨t.length, [], by omega, rfl, Lib.hid (by rw [List.drop_length]; rfl), Lib.hid (.inl ⟨rfl, rfl⟩), Lib.hid (fun g hg => by cases hg), hO.sub (.refl _) (.refl _) (fun q hq => by simpa [roS] using hq)⟩
 case round =>
  clear hO s0
  obtain ⟨k, s, hk, hq, HE, HFm, HN, hO⟩ := hrel
  cases k with
  | zero =>
   obtain rfl : u5 = .int .i64 (-1) := hq
   rw [List.drop_zero] at HE
   go_wp2_with fail
   go_ret2
   exact ⟨_, hO.keep.below, .inl ⟨s, HE.out, rfl, hO.isB HFm.out (fun q hq => List.mem_append_left _ hq), HN.out⟩⟩
  | succ j =>
   obtain rfl : u5 = .int .i64 (j : Int) := by rw [hq]; exact congrArg _ (by omega)
   clear hq
   have g1 : decide ((0 : Int) ≤ (j : Int)) = true := decide_eq_true (by omega)
   have s1 : IntKind.i64.wrap ((j : Int) - 1) = (j : Int) - 1 := IntWalk.i64_in _ (by omega)
   obtain ⟨g, o, rfl⟩ := ha (by omega)
   have hlt : j < t.length := by omega
   have hO2 := hO.sub (S' := ⟨g, o, cellsR t⟩ :: roS u4 (cellsB s)) (.refl _) (.refl _) (fun q hq => (List.mem_cons.1 hq).elim (fun h => List.mem_append_right _ (by rw [h]; exact List.mem_cons_self)) (fun h => List.mem_append_left _ h))
   replace hO := hO2
   clear hO2
   have kb := okL_one (kt _ (List.getElem_mem hlt))
   have hsp := (permF_spec (fun q hq => kt q (List.mem_of_mem_drop hq)) HE.out).1
   have ks := hsp.ok
   have ns : s.length ≤ 1000000000 := Nat.le_trans hsp.2.1 (by omega)
   have es := ((HEn.out.sub drop_boxes).of_perm HE.out).ends
   have eb := (HEn.out.one (boxesT_mem (List.getElem_mem hlt))).ends
   have hdr := permF_drop hlt
   rw [HE.out] at hdr
   dsimp only at hdr
   have t1 := tk_match t hlt
   have t2 := cr_permit t hlt
   clear hsp HE
   generalize t[j] = r at *
   obtain ⟨b, p⟩ := r
   dsimp only at t1 t2 kb hdr eb
   have h1 := fun v2 w ha hb => rsub4_any (va := u4) (vb := v2) (la := s) (lb := [b]) w ha hb ks kb ns (by simp) es eb (by omega) (by omega)
   have h2 := fun v2 w ha hb => runion4_any (va := u4) (vb := v2) (la := s) (lb := [b]) w ha hb ks kb ns (by simp) es eb (by omega) (by omega)
   clear es eb
   cases p
   ·rw [if_neg Bool.false_ne_true] at hdr
    cases hof : ofF exB s [b] with
    | none =>
     rw [hof] at h1 hdr
     have HR := Lib.hid (permF_up hdr)
     clear hdr hof
     go_wp2_with (first | refine ldNT ?_ | (refine' own_build1 (o := ⟨some 21, _, _, _, _, _⟩) hO (by rfl) rfl rfl ?hu ?hf ?_; (case hu => (with_reducible (exact Tryz.underlying81))); (case hf => kernel_rfl); clear hO; intro n21 wv hO) | (go_at_call 79; (with_reducible refine (h1 _ _ (hO.isB HFm.out (fun q hq => List.mem_cons_of_mem _ hq)) (one_boxesC hO List.mem_cons_self)).mono ?_); rintro e wv hpo; obtain ⟨rfl, hb9⟩ := hpo.no; replace hO := hO.call hb9; clear hb9 hpo))
     go_ret2
     exact ⟨.slice none 0 0, hO.keep.below, .inr ⟨HR.out, rfl⟩⟩
    | some s' =>
     rw [hof] at h1 hdr
     have HR := Lib.hid hdr
     clear hdr hof
     go_wp2_with (first | refine ldNT ?_ | (refine' own_build1 (o := ⟨some 21, _, _, _, _, _⟩) hO (by rfl) rfl rfl ?hu ?hf ?_; (case hu => (with_reducible (exact Tryz.underlying81))); (case hf => kernel_rfl); clear hO; intro n21 wv hO) | (go_at_call 79; (with_reducible refine (h1 _ _ (hO.isB HFm.out (fun q hq => List.mem_cons_of_mem _ hq)) (one_boxesC hO List.mem_cons_self)).mono ?_); rintro e wv hpo; obtain ⟨v3, rfl, hv9, hn9, hb9⟩ := hpo.yes; have HF3 := Lib.hid hv9.form; have hs9 := hO.keep.size; replace hO := hO.gainB hb9 hv9 hn9; clear hb9 hv9 hpo; replace hO := hO.bring))
     go_roundw
     case rel => exact ⟨j, s', by omega, rfl, HR, HF3, Lib.hid (fun g hg => Nat.le_trans hs9 (hn9 g hg)), hO.sub (.cons _ (.refl _)) (.refl _) (fun q hq => (List.mem_append.1 hq).elim (fun h => List.mem_cons_of_mem _ (List.mem_append_left _ h)) (fun h => by obtain rfl := List.mem_singleton.1 h; exact List.mem_cons_self))⟩
     case measure => simp [intOf] <;> omega
   ·rw [if_pos rfl] at hdr
    cases hof : ofF orB s [b] with
    | none =>
     rw [hof] at h2 hdr
     have HR := Lib.hid (permF_up hdr)
     clear hdr hof
     go_wp2_with (first | refine ldNT ?_ | (refine' own_build1 (o := ⟨some 21, _, _, _, _, _⟩) hO (by rfl) rfl rfl ?hu ?hf ?_; (case hu => (with_reducible (exact Tryz.underlying81))); (case hf => kernel_rfl); clear hO; intro n21 wv hO) | (go_at_call 79; (with_reducible refine (h1 _ _ (hO.isB HFm.out (fun q hq => List.mem_cons_of_mem _ hq)) (one_boxesC hO List.mem_cons_self)).mono ?_); rintro e wv hpo; obtain ⟨v4, rfl, -, -, hb9⟩ := hpo.uni; replace hO := hO.call hb9; clear hb9 hpo) | (go_at_call 75; (with_reducible refine (h2 _ _ (hO.isB HFm.out (fun q hq => List.mem_cons_of_mem _ hq)) (one_boxesC hO List.mem_cons_self)).mono ?_); rintro e wv hpo; obtain ⟨rfl, hb9⟩ := hpo.no; replace hO := hO.call hb9; clear hb9 hpo))
     go_ret2
     exact ⟨.slice none 0 0, hO.keep.below, .inr ⟨HR.out, rfl⟩⟩
    | some s' =>
     rw [hof] at h2 hdr
     have HR := Lib.hid hdr
     clear hdr hof
     go_wp2_with (first | refine ldNT ?_ | (refine' own_build1 (o := ⟨some 21, _, _, _, _, _⟩) hO (by rfl) rfl rfl ?hu ?hf ?_; (case hu => (with_reducible (exact Tryz.underlying81))); (case hf => kernel_rfl); clear hO; intro n21 wv hO) | (go_at_call 79; (with_reducible refine (h1 _ _ (hO.isB HFm.out (fun q hq => List.mem_cons_of_mem _ hq)) (one_boxesC hO List.mem_cons_self)).mono ?_); rintro e wv hpo; obtain ⟨v4, rfl, -, -, hb9⟩ := hpo.uni; replace hO := hO.call hb9; clear hb9 hpo) | (go_at_call 75; (with_reducible refine (h2 _ _ (hO.isB HFm.out (fun q hq => List.mem_cons_of_mem _ hq)) (one_boxesC hO List.mem_cons_self)).mono ?_); rintro e wv hpo; obtain ⟨v3, rfl, hv9, hn9, hb9⟩ := hpo.yes; have HF3 := Lib.hid hv9.form; have hs9 := hO.keep.size; replace hO := hO.gainB hb9 hv9 hn9; clear hb9 hv9 hpo))
     go_roundw
     case rel => exact ⟨j, s', by omega, rfl, HR, HF3, Lib.hid (fun g hg => Nat.le_trans hs9 (hn9 g hg)), hO.sub (.cons _ (.refl _)) (.refl _) (fun q hq => (List.mem_append.1 hq).elim (fun h => List.mem_append_left _ h) (fun h => List.mem_append_right _ (by obtain rfl := List.mem_singleton.1 h; exact List.mem_cons_self)))⟩
     case measure => simp [intOf] <;> omega
set_option maxHeartbeats 8000000 in
theorem rEff_any {vt : Value} {t : List Rul} {i : Nat} (w : World) (hv : IsTable w vt t) (kt : okT t) (hl : t.length ≤ 20) (hi : i < t.length) :
  Calls Tryz.prog 106 #[vt, .int .i64 i] w (SetPost w (effF t i)) := by
 have hO := own_argR hv
 obtain ⟨e, he⟩ := tab_ends t
 obtain ⟨a, c, rfl, ha⟩ := hv.view
 clear hv
 obtain ⟨g, o, rfl⟩ := ha (by omega)
 clear ha
 have kb := okL_one (kt _ (List.getElem_mem hi))
 have hE : leftF ((t.take i).drop 0) (makeF [t[i].1]) = effF t i := by rw [effF_left hi, List.drop_zero]
 have hS0 : ∀ x, makeF [t[i].1] = some x → IsSet x ∧ EndsAt (2 * t.length) e x := fun x hx => ⟨makeF_isSet kb hx, (he.one (boxesT_mem (List.getElem_mem hi))).of_make hx⟩
 have t1 := tk_match t hi
 have g1 : decide ((i : Int) < 0) = false := decide_eq_false (by omega)
 have g2 : decide ((t.length : Int) ≤ (i : Int)) = false := decide_eq_false (by omega)
 generalize t[i] = q0 at *
 have hm := fun v2 w hb => rmake_any (vl := v2) (l := [q0.1]) w hb kb (by simp)
 have HE := Lib.hid hE
 have HS := Lib.hid hS0
 have HEn := Lib.hid he
 clear hE hS0 kb he
 generalize makeF [q0.1] = r0 at *
 simp only [roS] at hO
 go_enter Tryz.func106, Tryz.ntmps106
 go_wp2_with (first | refine ldNT ?_ | (refine' own_build1 (o := ⟨some 23, _, _, _, _, _⟩) hO (by rfl) rfl rfl ?hu ?hf ?_; (case hu => (with_reducible (exact Tryz.underlying81))); (case hf => kernel_rfl); clear hO; intro n23 wv hO) | (go_at_call 73; (with_reducible refine (hm _ _ (one_boxesC hO List.mem_cons_self)).mono ?_); rintro e wv hpo; obtain ⟨v3, rfl, hv9, hn9, hb9, HZ⟩ := hpo.uni2; have HF3 := Lib.hid hv9.form; have HZ3 := Lib.hid HZ; have hs9 := hO.keep.size; replace hO := hO.gainB hb9 hv9 hn9; clear hb9 hv9 hpo HZ))
 clear g1 g2 t1 hm
 go_loopw [6, 7, 8] (fun q6 q7 q8 wr => ∃ (k : Nat) (r : Option (List Bx)), k ≤ i ∧ q8 = .int .i64 k ∧ q7 = .int .i64 (ecd r) ∧ Hid (leftF ((t.take i).drop k) r = effF t i) ∧ Hid (∀ x, r = some x → IsSet x ∧ EndsAt (2 * t.length) e x) ∧ Hid (FormB q6 (r.getD [])) ∧ Hid (r = none → q6 = .slice none 0 0) ∧ Hid (NewFrom w q6) ∧ Own [] w [] [] (roS q6 (cellsB (r.getD [])) ++ [⟨g, o, cellsR t⟩]) wr) (fun _ _ q8 _ => i - (intOf q8).toNat)
 case atStart => exact ⟨0, r0, by omega, rfl, rfl, HE, HS, HF3, HZ3, Lib.hid (fun g hg => Nat.le_trans hs9 (hn9 g hg)), hO.sub (.cons _ (.refl _)) (.refl _) (fun _ h => h)⟩
 case round =>
  clear hO HE HS HF3 hn9 hs9 HZ3
  obtain ⟨k, r, hk, rfl, rfl, HE, HS, HFm, HZ, HN, hO⟩ := hrel
  cases r with
  | none =>
   rw [leftF_none] at HE
   obtain rfl := HZ.out rfl
   simp only [ecd_none, Option.getD_none] at *
   go_wp2_with fail
   go_ret2
   exact ⟨.slice none 0 0, hO.keep.below, .inr ⟨HE.out.symm, rfl⟩⟩
  | some x =>
   by_cases hlt : k < i
   ·have hkt : k < t.length := by omega
    have hO2 := hO.sub (S' := ⟨g, o, cellsR t⟩ :: roS u6 (cellsB ((some x).getD []))) (.refl _) (.refl _) (fun q hq => (List.mem_cons.1 hq).elim (fun h => List.mem_append_right _ (by rw [h]; exact List.mem_cons_self)) (fun h => List.mem_append_left _ h))
    replace hO := hO2
    clear hO2
    have hst := leftF_step hlt (by omega : i ≤ t.length) (some x)
    rw [HE.out] at hst
    have t1 := tk_match t hkt
    have kb := okL_one (kt _ (List.getElem_mem hkt))
    obtain ⟨hsx, hex⟩ := HS.out x rfl
    have eb := HEn.out.one (boxesT_mem (List.getElem_mem hkt))
    dsimp only at hst
    generalize t[k] = q at *
    have h1 := fun v2 w ha hb => rsub4_any (va := u6) (vb := v2) (la := x) (lb := [q.1]) w ha hb hsx.ok kb (Nat.le_trans hsx.2.1 (by omega)) (by simp) hex.ends eb.ends (by omega) (by omega)
    have HS2 : Hid (∀ y, ofF exB x [q.1] = some y → IsSet y ∧ EndsAt (2 * t.length) e y) := Lib.hid fun y hy => ⟨ofF_isSet hsx.ok kb hy, hex.of_of eb hy⟩
    have HR := Lib.hid hst.symm
    clear hst hsx kb HS HE eb hex
    generalize ofF exB x [q.1] = r2 at *
    have g1 : decide ((k : Int) < (i : Int)) = true := decide_eq_true (by omega)
    simp only [ecd_some, Option.getD_some] at *
    go_wp2_with (first | refine ldNT ?_ | (refine' own_build1 (o := ⟨some 43, _, _, _, _, _⟩) hO (by rfl) rfl rfl ?hu ?hf ?_; (case hu => (with_reducible (exact Tryz.underlying81))); (case hf => kernel_rfl); clear hO; intro n43 wv hO) | (go_at_call 79; (with_reducible refine (h1 _ _ (hO.isB HFm.out (fun q hq => List.mem_cons_of_mem _ hq)) (one_boxesC hO List.mem_cons_self)).mono ?_); rintro e wv hpo; obtain ⟨v3, rfl, hv9, hn9, hb9, HZ⟩ := hpo.uni2; have HF3 := Lib.hid hv9.form; have HZ3 := Lib.hid HZ; have hs9 := hO.keep.size; replace hO := hO.gainB hb9 hv9 hn9; clear hb9 hv9 hpo HZ))
    go_roundw
    case rel => exact ⟨k + 1, r2, by omega, by go_num, rfl, HR, HS2, HF3, HZ3, Lib.hid (fun g hg => Nat.le_trans hs9 (hn9 g hg)), hO.sub (.cons _ (.refl _)) (.refl _) (fun q hq => (List.mem_append.1 hq).elim (fun h => List.mem_append_left _ h) (fun h => List.mem_append_right _ (by obtain rfl := List.mem_singleton.1 h; exact List.mem_cons_self)))⟩
    case measure => simp [intOf] <;> omega
   ·obtain rfl : k = i := by omega
    have hd : (t.take k).drop k = [] := List.drop_of_length_le (by simp; omega)
    have g1 : decide ((k : Int) < (k : Int)) = false := decide_eq_false (by omega)
    rw [hd, leftF] at HE
    simp only [ecd_some, Option.getD_some] at *
    go_wp2_with fail
    go_ret2
    exact ⟨_, hO.keep.below, .inl ⟨x, HE.out.symm, rfl, hO.isB HFm.out (fun q hq => List.mem_append_left _ hq), HN.out⟩⟩
end Go.Proofs.YtbdfblgdmappeaaGreatDoor
