/- Contracts of the reference of layer 3 (fourth part): Same. -/
import Derived.Test.YtjoionnnpjajmaaDoorMB
import Derived.Test.YtjoionnnpjajmaaDoorMS
namespace Go.Proofs.YtjoionnnpjajmaaDoor
open Go.RowKit
set_option maxRecDepth 100000
set_option maxHeartbeats 1000000 in
theorem rsame_any (v u : Value) (l m : List Bx) (w : World) (hv : IsBoxes w v l) (hu : IsBoxes w u m) (hm : l.length ≤ 9223372036854775806) (hm2 : m.length ≤ 9223372036854775806) :
  Calls Tryd.prog 57 #[v, u] w fun e w' => e = .returned (.bool (decide (l = m))) ∧ Below w.heap.size w w' := by
 have hO := roS_arg2 hv hu
 obtain ⟨a, c, rfl, ha⟩ := hv.view
 obtain ⟨a2, c2, rfl, ha2⟩ := hu.view
 clear hv hu
 by_cases hl : l.length = m.length
 ·have q : ((l.length : Int) != (m.length : Int)) = false := by simp [hl]
  have HL := Lib.hid hl
  clear hl
  go_enter Tryd.func57, Tryd.ntmps57
  go_wp2_with (first | refine ldN ?_ | ((first | refine stN hO ?_ | refine st1N hO ?_); clear hO; intro wv hO))
  go_loopw [5] (fun i wr => ∃ k : Nat, k ≤ l.length ∧ i = .int .i64 k ∧ l.take k = m.take k ∧ Own [] w [] [] (roS (.slice a l.length c) (cellsB l) ++ roS (.slice a2 m.length c2) (cellsB m)) wr) (fun i _ => l.length - (intOf i).toNat)
  case atStart => exact ⟨0, by omega, rfl, by simp, hO⟩
  case round =>
   clear hO
   obtain ⟨k, hk, rfl, hin, hO⟩ := hrel
   have HI := Lib.hid hin
   clear hin
   by_cases hlt : k < l.length
   ·have hlt2 : k < m.length := by have := HL.out; omega
    obtain ⟨g, o, rfl⟩ := ha (by omega)
    obtain ⟨g2, o2, rfl⟩ := ha2 (by omega)
    simp only [roS, List.cons_append, List.nil_append] at hO
    have t1 := tk_box l hlt
    have t2 := tk_box m hlt2
    by_cases he : l[k] = m[k]
    ·have q1 : (!decide (l[k] = m[k])) = false := by simp [he]
     have HE := Lib.hid he
     clear he
     go_wp2_with (first | refine ldN ?_ | ((first | refine stN hO ?_ | refine st1N hO ?_); clear hO; intro wv hO))
     (try simp only [Act.put]); (refine own_quiet hO (by kernel_rfl) (by kernel_rfl) ?_; clear hO; (repeat (first | go_big_quiet_skip | (go_big_quiet_want; (first | ((with_reducible refine is_loadQ ?_); (first | (refine q_ld (h := ?_))); (try simp only [Act.put]); (try simp only [sI9, sZ9, sS9]); go_big_quiet_on) | (go_big_quiet_op; (first | go_big_quiet_on | ((refine ⟨_, fun _ _ => rfl, ?_⟩); go_big_quiet_on) | go_big_quiet_call (fail))))))); (refine wpQuiet_nil ?_); intro wv hO)
     go_wp2_with (first | refine ldN ?_ | ((first | refine stN hO ?_ | refine st1N hO ?_); clear hO; intro wv hO))
     go_roundw
     case rel => exact ⟨k + 1, by omega, by go_num, by rw [List.take_succ_eq_append_getElem hlt, List.take_succ_eq_append_getElem hlt2, HI.out, HE.out], hO⟩
     case measure => simp [intOf]; omega
    ·have q1 : (!decide (l[k] = m[k])) = true := by simp [he]
     have E := Lib.hid (show decide (l = m) = false by simp; intro e; subst e; exact he rfl)
     clear he
     go_wp2_with (first | refine ldN ?_ | ((first | refine stN hO ?_ | refine st1N hO ?_); clear hO; intro wv hO))
     (try simp only [Act.put]); (refine own_quiet hO (by kernel_rfl) (by kernel_rfl) ?_; clear hO; (repeat (first | go_big_quiet_skip | (go_big_quiet_want; (first | ((with_reducible refine is_loadQ ?_); (first | (refine q_ld (h := ?_))); (try simp only [Act.put]); (try simp only [sI9, sZ9, sS9]); go_big_quiet_on) | (go_big_quiet_op; (first | go_big_quiet_on | ((refine ⟨_, fun _ _ => rfl, ?_⟩); go_big_quiet_on) | go_big_quiet_call (fail))))))); (refine wpQuiet_nil ?_); intro wv hO)
     go_wp2_with (first | refine ldN ?_ | ((first | refine stN hO ?_ | refine st1N hO ?_); clear hO; intro wv hO))
     go_ret
     exact ⟨ret_bool E.out.symm, hO.keep.below⟩
   ·obtain rfl : k = l.length := by omega
    have E := Lib.hid (show decide (l = m) = true by
     have h := HI.out; rw [List.take_length, HL.out, List.take_length] at h; simpa using h)
    go_wp2_with (first | refine ldN ?_ | ((first | refine stN hO ?_ | refine st1N hO ?_); clear hO; intro wv hO))
    go_ret
    exact ⟨ret_bool E.out.symm, hO.keep.below⟩
 ·have q : ((l.length : Int) != (m.length : Int)) = true := by simp; omega
  have E := Lib.hid (show decide (l = m) = false by simp; intro e; exact hl (by rw [e]))
  clear hl
  go_enter Tryd.func57, Tryd.ntmps57
  go_wp2_with (first | refine ldN ?_ | ((first | refine stN hO ?_ | refine st1N hO ?_); clear hO; intro wv hO))
  go_ret
  exact ⟨ret_bool E.out.symm, hO.keep.below⟩
end Go.Proofs.YtjoionnnpjajmaaDoor
namespace Go.Proofs.YtjoionnnpjajmaaDoor
set_option maxRecDepth 100000
def IsSet (l : List Bx) : Prop := vL l ∧ l.length ≤ 4096 ∧ Cn 0 5 l
theorem IsSet.setF {l : List Bx} (h : IsSet l) : setF l = some l := by
 unfold Go.Proofs.YtjoionnnpjajmaaDoor.setF validF
 rw [if_pos]
 rw [valF_id h.1, (dvd_zero h.1).2 h.2.2]
 simp [h.2.1]
theorem IsSet.ext {a b : List Bx} (ha : IsSet a) (hb : IsSet b) (h : ∀ p, okP p → inq a p = inq b p) : a = b := Cn.extq ha.2.2 hb.2.2 h
theorem IsSet.full : IsSet [fullBx] := by
 have hv : vL [fullBx] := by
  have h := valF_vL okL_full
  rwa [show valF [fullBx] = [fullBx] by decide +kernel] at h
 exact ⟨hv, by decide, (dvd_zero hv).1 (by decide +kernel)⟩
end Go.Proofs.YtjoionnnpjajmaaDoor
namespace Go.Proofs.YtjoionnnpjajmaaDoor
open Go.RowKit
set_option maxRecDepth 100000
theorem vL.okL {l : List Bx} (h : vL l) : okL l := fun b hb k hk => by
 have h1 := h b hb k hk
 have h2 := topOf_le k
 omega
theorem IsSet.ok {l : List Bx} (h : IsSet l) : okL l := h.1.okL
theorem IsSet.le {l : List Bx} (h : IsSet l) : l.length ≤ 1000000000000 := Nat.le_trans h.2.1 (by omega)
end Go.Proofs.YtjoionnnpjajmaaDoor
