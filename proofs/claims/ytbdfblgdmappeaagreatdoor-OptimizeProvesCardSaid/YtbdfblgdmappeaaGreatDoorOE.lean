/- The reference of filter tables: Valid, Decide, Of, Same; the law's boxes. -/
import Derived.Test.YtbdfblgdmappeaaGreatDoorOC
import Derived.Test.YtbdfblgdmappeaaGreatDoorMB
import Derived.Test.YtbdfblgdmappeaaGreatDoorOD
import Derived.Test.YtbdfblgdmappeaaGreatDoorOA
import Derived.Test.YtbdfblgdmappeaaGreatDoorOB
namespace Go.Proofs.YtbdfblgdmappeaaGreatDoor
open Go.RowKit
set_option maxRecDepth 100000
theorem fields_rul : ∃ f0 f1 : Field, ((Tryz.prog).fieldsOf 100).toList = [f0, f1] ∧ (f0.name = "Match" ∧ f0.type = 98 ∧ f0.offset = 0) ∧ (f1.name = "Permit" ∧ f1.type = 4 ∧ f1.offset = 10) := by
 have hm : ((Tryz.prog).fieldsOf 100).toList.map (fun f => (f.name, f.type, f.offset)) = [("Match", 98, 0), ("Permit", 4, 10)] := by kernel_rfl
 generalize ((Tryz.prog).fieldsOf 100).toList = l at *
 have hl : l.length = 2 := by simpa using congrArg List.length hm
 cases l with
 | nil => simp at hl
 | cons f0 l => cases l with
  | nil => simp at hl
  | cons f1 l => cases l with
   | nil =>
    simp only [List.map_cons, List.map_nil, List.cons.injEq, Prod.mk.injEq, and_true] at hm
    exact ⟨f0, f1, rfl, hm.1, hm.2⟩
   | cons f2 l => simp at hl
section
variable (w : World)
theorem stoodU : (Tryz.prog).stoodInHeld 100 = false := by kernel_rfl
theorem fieldsU : (Tryz.prog).underlying 100 = some (.struct ((Tryz.prog).fieldsOf 100)) := by kernel_rfl
theorem part_match (r : Rul) : (part 98 (rlcs r).toArray 0).run Tryz.prog w = .ok (bv r.1) w := by kernel_rfl
theorem part_permit (r : Rul) : (part 4 (rlcs r).toArray 10).run Tryz.prog w = .ok (.bool r.2) w := by kernel_rfl
theorem eq_bool (d : Nat) (a b : Bool) : (Op.equalIn (d + 1) 4 (.bool a) (.bool b)).run Tryz.prog w = .ok (decide (a = b)) w := by
 cases a <;> cases b <;> simp [go_sem, Op.equalIn]
theorem eq_rul (d : Nat) (a b : Rul) : (Op.equalIn (d + 1 + 1 + 1 + 1) 100 (rlv a) (rlv b)).run Tryz.prog w = .ok (decide (a = b)) w := by
 rw [run_equalIn_struct w (d + 1 + 1 + 1) _ _ _ fieldsU stoodU]
 obtain ⟨f0, f1, e, ⟨n0, t0, o0⟩, n1, t1, o1⟩ := fields_rul
 have d0 : ("Match" ≠ "_") := by decide
 have d1 : ("Permit" ≠ "_") := by decide
 rw [e]
 simp only [Op.eqFields, n0, t0, o0, n1, t1, o1, if_pos d0, if_pos d1, Sem.run_bind, part_match, Result.andThen_ok, eq_bx]
 obtain ⟨x, p⟩ := a
 obtain ⟨y, q⟩ := b
 by_cases h0 : x = y <;> by_cases h1 : p = q <;> simp [h0, h1, Sem.run_pure, Sem.run_bind, part_permit, eq_bool]
theorem run_neq_rul (a b : Rul) : (binOp .neq 100 (.agg (rlcs a).toArray) (.agg (rlcs b).toArray)).run Tryz.prog w = .ok (.bool (!decide (a = b))) w := by
 rw [run_neq_struct]
 rw [show (10000 : Nat) = 9996 + 1 + 1 + 1 + 1 from rfl, eq_rul, Result.andThen_ok]
theorem guard_rul (op : BinOp) (x y : Operand) (u v : Array Value) : (eqGuard op 100 x y (.agg u) (.agg v)).run Tryz.prog w = .ok () w := run_eqGuard_agg w op _ x y u v (by kernel_rfl)
end
attribute [go_sem high] run_neq_rul guard_rul
set_option maxHeartbeats 2000000 in
theorem rDecide_any {vt : Value} {t : List Rul} (h : Hd) (w : World) (ho : h.ok) (hvt : IsTable w vt t) (hl : t.length ≤ 9223372036854775806) :
  Calls Tryz.prog 25 #[vt, hv h] w fun e w' => e = .returned (.tuple #[.bool (decP t h), .int .i64 (decI t h)]) ∧ Below w.heap.size w w' := by
 have hO := own_argR hvt
 obtain ⟨a, c, rfl, ha⟩ := hvt.view
 clear hvt
 go_enter Tryz.func25, Tryz.ntmps25
 go_wp2_with (refine bx9 3 hO ?_; clear hO; intro n3 wv hO)
 go_loopw [6] (fun i wr => ∃ k : Nat, k ≤ t.length ∧ i = .int .i64 k ∧ Hid (∀ r ∈ t.take k, hasB r.1 h = false) ∧ Own [] w [⟨n3, hcs h, 48⟩] [] (roS (.slice a t.length c) (cellsR t)) wr) (fun i _ => t.length - (intOf i).toNat)
 case atStart => exact ⟨0, by omega, rfl, Lib.hid (fun r hr => by cases hr), hO⟩
 case round =>
  clear hO
  obtain ⟨k, hk, rfl, HA, hO⟩ := hrel
  by_cases hlt : k < t.length
  ·obtain ⟨g, o, rfl⟩ := ha (by omega)
   simp only [roS] at hO
   have hvv := fun w => rcontains_any t[k].1 h w ho
   have t1 := tk_match t hlt
   have t2 := cr_permit t hlt
   cases hb : hasB t[k].1 h
   ·rw [hb] at hvv
    have HF := Lib.hid (miss_take hlt HA.out hb)
    clear hb
    generalize t[k] = r at *
    go_wp2_with fail
    (refine own_quiet hO (by kernel_rfl) (by kernel_rfl) ?_; clear hO; (repeat (go_big_quiet_want; (first | ((with_reducible refine is_loadQ ?_); (refine q_ldT (h := ?_)); (try simp only [Act.put]); (try simp only [sI9, sZ9, sS9]); go_big_quiet_on) | (go_big_quiet_op; (first | go_big_quiet_on | ((refine ⟨_, fun _ _ => rfl, ?_⟩); go_big_quiet_on) | go_big_quiet_call ((intro hq; go_at_call 58; exact q_call (hvv _) hq))))))); (refine wpQuiet_nil ?_); intro wv hO)
    go_wp2_with fail
    go_roundw
    case rel => exact ⟨k + 1, by omega, by go_num, HF, hO⟩
    case measure => simp [intOf]; omega
   ·rw [hb] at hvv
    have HF := Lib.hid (dec_here hlt HA.out hb)
    clear hb
    generalize t[k] = r at *
    go_wp2_with fail
    (refine own_quiet hO (by kernel_rfl) (by kernel_rfl) ?_; clear hO; (repeat (go_big_quiet_want; (first | ((with_reducible refine is_loadQ ?_); (refine q_ldT (h := ?_)); (try simp only [Act.put]); (try simp only [sI9, sZ9, sS9]); go_big_quiet_on) | (go_big_quiet_op; (first | go_big_quiet_on | ((refine ⟨_, fun _ _ => rfl, ?_⟩); go_big_quiet_on) | go_big_quiet_call ((intro hq; go_at_call 58; exact q_call (hvv _) hq))))))); (refine wpQuiet_nil ?_); intro wv hO)
    go_wp2_with (refine ldNT ?_)
    go_ret2
    exact ⟨by rw [HF.out.1, HF.out.2]; rfl, hO.keep.below⟩
  ·obtain rfl : k = t.length := by omega
   rw [List.take_length] at HA
   have HF := Lib.hid (dec_none HA.out)
   go_wp2_with fail
   go_ret2
   exact ⟨by rw [HF.out.1, HF.out.2]; rfl, hO.keep.below⟩
theorem roS_argR2 {w : World} {v u : Value} {l m : List Rul} (h : IsTable w v l) (k : IsTable w u m) : Own [] w [] [] (roS v (cellsR l) ++ roS u (cellsR m)) w := (own_argR k).addTable h
set_option maxHeartbeats 2000000 in
theorem rSame8_any (v u : Value) (l m : List Rul) (w : World) (hv : IsTable w v l) (hu : IsTable w u m) (hm : l.length ≤ 9223372036854775806) (hm2 : m.length ≤ 9223372036854775806) :
  Calls Tryz.prog 16 #[v, u] w fun e w' => e = .returned (.bool (decide (l = m))) ∧ Below w.heap.size w w' := by
 have hO := roS_argR2 hv hu
 obtain ⟨a, c, rfl, ha⟩ := hv.view
 obtain ⟨a2, c2, rfl, ha2⟩ := hu.view
 clear hv hu
 by_cases hl : l.length = m.length
 ·have q : ((l.length : Int) != (m.length : Int)) = false := by simp [hl]
  have HL := Lib.hid hl
  clear hl
  go_enter Tryz.func16, Tryz.ntmps16
  go_wp2_with fail
  go_loopw [5] (fun i wr => ∃ k : Nat, k ≤ l.length ∧ i = .int .i64 k ∧ l.take k = m.take k ∧ Own [] w [] [] (roS (.slice a l.length c) (cellsR l) ++ roS (.slice a2 m.length c2) (cellsR m)) wr) (fun i _ => l.length - (intOf i).toNat)
  case atStart => exact ⟨0, by omega, rfl, by simp, hO⟩
  case round =>
   clear hO
   obtain ⟨k, hk, rfl, hin, hO⟩ := hrel
   have HI := Lib.hid hin
   clear hin
   by_cases hlt : k < l.length
   ·have hlt2 : k < m.length := by have := HL.out; omega
    obtain ⟨g, o, rfl⟩ := ha (by omega)
    obtain ⟨g2, o2, rfl⟩ := ha2 (by omega)
    simp only [roS, List.cons_append, List.nil_append] at hO
    have t1 := tk_rule l hlt
    have t2 := tk_rule m hlt2
    by_cases he : l[k] = m[k]
    ·have q1 : (!decide (l[k] = m[k])) = false := by simp [he]
     have HE := Lib.hid he
     clear he
     go_wp2_with fail
     (refine own_quiet hO (by kernel_rfl) (by kernel_rfl) ?_; clear hO; (repeat (go_big_quiet_want; (first | ((with_reducible refine is_loadQ ?_); (refine q_ldT (h := ?_)); (try simp only [Act.put]); (try simp only [sI9, sZ9, sS9]); go_big_quiet_on) | (go_big_quiet_op; (first | go_big_quiet_on | ((refine ⟨_, fun _ _ => rfl, ?_⟩); go_big_quiet_on)))))); (refine wpQuiet_nil ?_); intro wv hO)
     go_wp2_with fail
     go_roundw
     case rel => exact ⟨k + 1, by omega, by go_num, by rw [List.take_succ_eq_append_getElem hlt, List.take_succ_eq_append_getElem hlt2, HI.out, HE.out], hO⟩
     case measure => simp [intOf]; omega
    ·have q1 : (!decide (l[k] = m[k])) = true := by simp [he]
     have E := Lib.hid (show decide (l = m) = false by simp; intro e; subst e; exact he rfl)
     clear he
     go_wp2_with fail
     (refine own_quiet hO (by kernel_rfl) (by kernel_rfl) ?_; clear hO; (repeat (go_big_quiet_want; (first | ((with_reducible refine is_loadQ ?_); (refine q_ldT (h := ?_)); (try simp only [Act.put]); (try simp only [sI9, sZ9, sS9]); go_big_quiet_on) | (go_big_quiet_op; (first | go_big_quiet_on | ((refine ⟨_, fun _ _ => rfl, ?_⟩); go_big_quiet_on)))))); (refine wpQuiet_nil ?_); intro wv hO)
     go_wp2_with fail
     go_ret
     exact ⟨ret_bool E.out.symm, hO.keep.below⟩
   ·obtain rfl : k = l.length := by omega
    have E := Lib.hid (show decide (l = m) = true by
     have h := HI.out; rw [List.take_length, HL.out, List.take_length] at h; simpa using h)
    go_wp2_with fail
    go_ret
    exact ⟨ret_bool E.out.symm, hO.keep.below⟩
 ·have q : ((l.length : Int) != (m.length : Int)) = true := by simp; omega
  have E := Lib.hid (show decide (l = m) = false by simp; intro e; exact hl (by rw [e]))
  clear hl
  go_enter Tryz.func16, Tryz.ntmps16
  go_wp2_with fail
  go_ret
  exact ⟨ret_bool E.out.symm, hO.keep.below⟩
end Go.Proofs.YtbdfblgdmappeaaGreatDoor
