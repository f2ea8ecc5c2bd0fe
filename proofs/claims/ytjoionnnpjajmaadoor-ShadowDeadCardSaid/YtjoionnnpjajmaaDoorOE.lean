/- The reference of filter tables: Valid, Decide, Of, Same; the law's boxes. -/
import Derived.Test.YtjoionnnpjajmaaDoorOC
import Derived.Test.YtjoionnnpjajmaaDoorMB
import Derived.Test.YtjoionnnpjajmaaDoorOD
import Derived.Test.YtjoionnnpjajmaaDoorOA
import Derived.Test.YtjoionnnpjajmaaDoorOB
namespace Go.Proofs.YtjoionnnpjajmaaDoor
open Go.RowKit
set_option maxRecDepth 100000
theorem fields_rul : ∃ f0 f1 : Field, ((Tryd.prog).fieldsOf 42).toList = [f0, f1] ∧ (f0.name = "Match" ∧ f0.type = 40 ∧ f0.offset = 0) ∧ (f1.name = "Permit" ∧ f1.type = 4 ∧ f1.offset = 10) := by
 have hm : ((Tryd.prog).fieldsOf 42).toList.map (fun f => (f.name, f.type, f.offset)) = [("Match", 40, 0), ("Permit", 4, 10)] := by kernel_rfl
 generalize ((Tryd.prog).fieldsOf 42).toList = l at *
 have hl : l.length = 2 := by simpa using congrArg List.length hm
 cases l with
 | nil => simp at hl
 | cons f0 l => cases l with
  | nil => simp at hl
  | cons f1 l => cases l with
   | nil =>
    simp only [List.map_cons, List.map_nil, List.cons.injEq, Prod.mk.injEq, and_true] at hm
    exact ⟨f0, f1, rfl, hm.1, hm.2⟩
   | cons f2 l => simp at hl
section
variable (w : World)
theorem stoodU : (Tryd.prog).stoodInHeld 42 = false := by kernel_rfl
theorem fieldsU : (Tryd.prog).underlying 42 = some (.struct ((Tryd.prog).fieldsOf 42)) := by kernel_rfl
theorem part_match (r : Rul) : (part 40 (rlcs r).toArray 0).run Tryd.prog w = .ok (bv r.1) w := by kernel_rfl
theorem part_permit (r : Rul) : (part 4 (rlcs r).toArray 10).run Tryd.prog w = .ok (.bool r.2) w := by kernel_rfl
theorem eq_bool (d : Nat) (a b : Bool) : (Op.equalIn (d + 1) 4 (.bool a) (.bool b)).run Tryd.prog w = .ok (decide (a = b)) w := by
 cases a <;> cases b <;> simp [go_sem, Op.equalIn]
theorem eq_rul (d : Nat) (a b : Rul) : (Op.equalIn (d + 1 + 1 + 1 + 1) 42 (rlv a) (rlv b)).run Tryd.prog w = .ok (decide (a = b)) w := by
 rw [run_equalIn_struct w (d + 1 + 1 + 1) _ _ _ fieldsU stoodU]
 obtain ⟨f0, f1, e, ⟨n0, t0, o0⟩, n1, t1, o1⟩ := fields_rul
 have d0 : ("Match" ≠ "_") := by decide
 have d1 : ("Permit" ≠ "_") := by decide
 rw [e]
 simp only [Op.eqFields, n0, t0, o0, n1, t1, o1, if_pos d0, if_pos d1, Sem.run_bind, part_match, Result.andThen_ok, eq_bx]
 obtain ⟨x, p⟩ := a
 obtain ⟨y, q⟩ := b
 by_cases h0 : x = y <;> by_cases h1 : p = q <;> simp [h0, h1, Sem.run_pure, Sem.run_bind, part_permit, eq_bool]
theorem run_neq_rul (a b : Rul) : (binOp .neq 42 (.agg (rlcs a).toArray) (.agg (rlcs b).toArray)).run Tryd.prog w = .ok (.bool (!decide (a = b))) w := by
 rw [run_neq_struct]
 rw [show (10000 : Nat) = 9996 + 1 + 1 + 1 + 1 from rfl, eq_rul, Result.andThen_ok]
theorem guard_rul (op : BinOp) (x y : Operand) (u v : Array Value) : (eqGuard op 42 x y (.agg u) (.agg v)).run Tryd.prog w = .ok () w := run_eqGuard_agg w op _ x y u v (by kernel_rfl)
end
attribute [go_sem high] run_neq_rul guard_rul
set_option maxHeartbeats 2000000 in
theorem rDecide_any {vt : Value} {t : List Rul} (h : Hd) (w : World) (ho : h.ok) (hvt : IsTable w vt t) (hl : t.length ≤ 9223372036854775806) :
  Calls Tryd.prog 11 #[vt, hv h] w fun e w' => e = .returned (.tuple #[.bool (decP t h), .int .i64 (decI t h)]) ∧ Below w.heap.size w w' := by
 have hO := own_argR hvt
 obtain ⟨a, c, rfl, ha⟩ := hvt.view
 clear hvt
 go_enter Tryd.func11, Tryd.ntmps11
 go_wp2_with (first | refine ldNT ?_ | ((first | refine stNT hO ?_ | refine st1NT hO ?_); clear hO; intro wv hO) | (refine bx9 3 hO ?_; clear hO; intro n3 wv hO))
 go_loopw [6] (fun i wr => ∃ k : Nat, k ≤ t.length ∧ i = .int .i64 k ∧ Hid (∀ r ∈ t.take k, hasB r.1 h = false) ∧ Own [] w [⟨n3, hcs h, 26⟩] [] (roS (.slice a t.length c) (cellsR t)) wr) (fun i _ => t.length - (intOf i).toNat)
 case atStart => exact ⟨0, by omega, rfl, Lib.hid (fun r hr => by cases hr), hO⟩
 case round =>
  clear hO
  obtain ⟨k, hk, rfl, HA, hO⟩ := hrel
  by_cases hlt : k < t.length
  ·obtain ⟨g, o, rfl⟩ := ha (by omega)
   simp only [roS] at hO
   have hvv := fun w => rcontains_any t[k].1 h w ho
   have t1 := tk_match t hlt
   have t2 := cr_permit t hlt
   cases hb : hasB t[k].1 h
   ·rw [hb] at hvv
    have HF := Lib.hid (miss_take hlt HA.out hb)
    clear hb
    generalize t[k] = r at *
    go_wp2_with (first | refine ldNT ?_ | ((first | refine stNT hO ?_ | refine st1NT hO ?_); clear hO; intro wv hO) | (refine bx9 3 hO ?_; clear hO; intro n3 wv hO))
    (try simp only [Act.put]); (refine own_quiet hO (by kernel_rfl) (by kernel_rfl) ?_; clear hO; (repeat (first | go_big_quiet_skip | (go_big_quiet_want; (first | ((with_reducible refine is_loadQ ?_); (first | (refine q_ldT (h := ?_))); (try simp only [Act.put]); (try simp only [sI9, sZ9, sS9]); go_big_quiet_on) | (go_big_quiet_op; (first | go_big_quiet_on | ((refine ⟨_, fun _ _ => rfl, ?_⟩); go_big_quiet_on) | go_big_quiet_call ((intro hq; go_at_call 30; exact q_call (hvv _) hq)))))))); (refine wpQuiet_nil ?_); intro wv hO)
    go_wp2_with (first | refine ldNT ?_ | ((first | refine stNT hO ?_ | refine st1NT hO ?_); clear hO; intro wv hO) | (refine bx9 3 hO ?_; clear hO; intro n3 wv hO))
    go_roundw
    case rel => exact ⟨k + 1, by omega, by go_num, HF, hO⟩
    case measure => simp [intOf]; omega
   ·rw [hb] at hvv
    have HF := Lib.hid (dec_here hlt HA.out hb)
    clear hb
    generalize t[k] = r at *
    go_wp2_with (first | refine ldNT ?_ | ((first | refine stNT hO ?_ | refine st1NT hO ?_); clear hO; intro wv hO) | (refine bx9 3 hO ?_; clear hO; intro n3 wv hO))
    (try simp only [Act.put]); (refine own_quiet hO (by kernel_rfl) (by kernel_rfl) ?_; clear hO; (repeat (first | go_big_quiet_skip | (go_big_quiet_want; (first | ((with_reducible refine is_loadQ ?_); (first | (refine q_ldT (h := ?_))); (try simp only [Act.put]); (try simp only [sI9, sZ9, sS9]); go_big_quiet_on) | (go_big_quiet_op; (first | go_big_quiet_on | ((refine ⟨_, fun _ _ => rfl, ?_⟩); go_big_quiet_on) | go_big_quiet_call ((intro hq; go_at_call 30; exact q_call (hvv _) hq)))))))); (refine wpQuiet_nil ?_); intro wv hO)
    go_wp2_with (first | refine ldNT ?_ | ((first | refine stNT hO ?_ | refine st1NT hO ?_); clear hO; intro wv hO) | (refine bx9 3 hO ?_; clear hO; intro n3 wv hO))
    go_ret2
    exact ⟨by rw [HF.out.1, HF.out.2]; rfl, hO.keep.below⟩
  ·obtain rfl : k = t.length := by omega
   rw [List.take_length] at HA
   have HF := Lib.hid (dec_none HA.out)
   go_wp2_with (first | refine ldNT ?_ | ((first | refine stNT hO ?_ | refine st1NT hO ?_); clear hO; intro wv hO) | (refine bx9 3 hO ?_; clear hO; intro n3 wv hO))
   go_ret2
   exact ⟨by rw [HF.out.1, HF.out.2]; rfl, hO.keep.below⟩
end Go.Proofs.YtjoionnnpjajmaaDoor
