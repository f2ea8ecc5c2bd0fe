/- The tape: Table. -/
import Derived.ChangeArms
import Derived.Test.YtbdfblgdmappeaaGreatDoorOC
import Derived.Test.YtbdfblgdmappeaaGreatDoorMB
import Derived.Test.YtbdfblgdmappeaaGreatDoorMV
import Derived.Test.YtbdfblgdmappeaaGreatDoorOB
import Derived.Test.YtbdfblgdmappeaaGreatDoorOE
import Derived.Test.YtbdfblgdmappeaaGreatDoorOD
namespace Go.Proofs.YtbdfblgdmappeaaGreatDoor
open Go.RowKit
set_option maxRecDepth 100000
end Go.Proofs.YtbdfblgdmappeaaGreatDoor
namespace Go.Proofs.YtbdfblgdmappeaaGreatDoor
open Go.ChangeShapes Go.WideShapes Go.ChangeAt Go.RowKit
set_option maxRecDepth 100000
section
variable {H : Type} {enc : TypeId × Value → H} {w : World} {base : Nat} {spare : Nat → Bool} {held : Bool}
end
end Go.Proofs.YtbdfblgdmappeaaGreatDoor
namespace Go.Proofs.YtbdfblgdmappeaaGreatDoor
open Go.RowKit
set_option maxRecDepth 100000
theorem any_here {α : Type} {p : α → Bool} {l : List α} {k : Nat} (h : k < l.length) (h2 : p l[k] = true) : l.any p = true := List.any_eq_true.2 ⟨_, List.getElem_mem h, h2⟩
theorem any_take {α : Type} {p : α → Bool} {l : List α} {k : Nat} (h : k < l.length) (h1 : (l.take k).any p = false) (h2 : p l[k] = false) : (l.take (k + 1)).any p = false := by
 rw [List.take_succ_eq_append_getElem h, List.any_append, h1, List.any_cons, h2]; rfl
set_option maxHeartbeats 2000000 in
theorem rcontains4_any {vl : Value} {l : List Bx} (h : Hd) (w : World) (ho : h.ok) (hvl : IsBoxes w vl l) (hl : l.length ≤ 9223372036854775806) :
  Calls Tryz.prog 93 #[vl, hv h] w fun e w' => e = .returned (.bool (l.any (hasH h))) ∧ Below w.heap.size w w' := by
 have hO := own_arg hvl
 obtain ⟨a, c, rfl, ha⟩ := hvl.view
 clear hvl
 go_enter Tryz.func93, Tryz.ntmps93
 go_wp2_with (refine bx9 3 hO ?_; clear hO; intro n3 wv hO)
 go_loopw [5] (fun i wr => ∃ k : Nat, k ≤ l.length ∧ i = .int .i64 k ∧ Hid ((l.take k).any (hasH h) = false) ∧ Own [] w [⟨n3, hcs h, 48⟩] [] (roS (.slice a l.length c) (cellsB l)) wr) (fun i _ => l.length - (intOf i).toNat)
 case atStart => exact ⟨0, by omega, rfl, Lib.hid rfl, hO⟩
 case round =>
  clear hO
  obtain ⟨k, hk, rfl, HA, hO⟩ := hrel
  by_cases hlt : k < l.length
  ·obtain ⟨g, o, rfl⟩ := ha (by omega)
   simp only [roS] at hO
   have hvv := fun w => rcontains_any l[k] h w ho
   have t1 := tk_box l hlt
   cases hb : hasB l[k] h
   ·rw [hb] at hvv
    have HF := Lib.hid (any_take (p := hasH h) hlt HA.out hb)
    clear hb
    generalize l[k] = r at *
    go_wp2_with fail
    (refine own_quiet hO (by kernel_rfl) (by kernel_rfl) ?_; clear hO; (repeat (go_big_quiet_want; (first | ((with_reducible refine is_loadQ ?_); (refine q_ldT (h := ?_)); (try simp only [Act.put]); (try simp only [sI9, sZ9, sS9]); go_big_quiet_on) | (go_big_quiet_op; (first | go_big_quiet_on | ((refine ⟨_, fun _ _ => rfl, ?_⟩); go_big_quiet_on) | go_big_quiet_call ((intro hq; go_at_call 58; exact q_call (hvv _) hq))))))); (refine wpQuiet_nil ?_); intro wv hO)
    go_wp2_with fail
    go_roundw
    case rel => exact ⟨k + 1, by omega, by go_num, HF, hO⟩
    case measure => simp [intOf] <;> omega
   ·rw [hb] at hvv
    have HF := Lib.hid (any_here (p := hasH h) hlt hb)
    clear hb
    generalize l[k] = r at *
    go_wp2_with fail
    (refine own_quiet hO (by kernel_rfl) (by kernel_rfl) ?_; clear hO; (repeat (go_big_quiet_want; (first | ((with_reducible refine is_loadQ ?_); (refine q_ldT (h := ?_)); (try simp only [Act.put]); (try simp only [sI9, sZ9, sS9]); go_big_quiet_on) | (go_big_quiet_op; (first | go_big_quiet_on | ((refine ⟨_, fun _ _ => rfl, ?_⟩); go_big_quiet_on) | go_big_quiet_call ((intro hq; go_at_call 58; exact q_call (hvv _) hq))))))); (refine wpQuiet_nil ?_); intro wv hO)
    go_wp2_with fail
    go_ret
    exact ⟨by rw [HF.out]; rfl, hO.keep.below⟩
  ·obtain rfl : k = l.length := by omega
   rw [List.take_length] at HA
   go_wp2_with fail
   go_ret
   exact ⟨by rw [HA.out]; rfl, hO.keep.below⟩
end Go.Proofs.YtbdfblgdmappeaaGreatDoor
