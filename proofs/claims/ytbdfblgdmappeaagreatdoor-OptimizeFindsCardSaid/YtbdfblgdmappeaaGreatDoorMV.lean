/- Contracts of the reference of layer 3 (fourth part): Same. -/
import Derived.Test.YtbdfblgdmappeaaGreatDoorMB
import Derived.Test.YtbdfblgdmappeaaGreatDoorMS
import Derived.Test.YtbdfblgdmappeaaGreatDoorMN
import Derived.Test.YtbdfblgdmappeaaGreatDoorMO
import Derived.Test.YtbdfblgdmappeaaGreatDoorME
import Derived.Test.YtbdfblgdmappeaaGreatDoorMP
namespace Go.Proofs.YtbdfblgdmappeaaGreatDoor
open Go.RowKit
set_option maxRecDepth 100000
set_option maxHeartbeats 1000000 in
theorem rsame_any (v u : Value) (l m : List Bx) (w : World) (hv : IsBoxes w v l) (hu : IsBoxes w u m) (hm : l.length ≤ 9223372036854775806) (hm2 : m.length ≤ 9223372036854775806) :
  Calls Tryz.prog 141 #[v, u] w fun e w' => e = .returned (.bool (decide (l = m))) ∧ Below w.heap.size w w' := by
 have hO := roS_arg2 hv hu
 obtain ⟨a, c, rfl, ha⟩ := hv.view
 obtain ⟨a2, c2, rfl, ha2⟩ := hu.view
 clear hv hu
 by_cases hl : l.length = m.length
 ·have q : ((l.length : Int) != (m.length : Int)) = false := by simp [hl]
  have HL := Lib.hid hl
  clear hl
  go_enter Tryz.func141, Tryz.ntmps141
  go_wp2_with fail
  go_loopw [5] (fun i wr => ∃ k : Nat, k ≤ l.length ∧ i = .int .i64 k ∧ l.take k = m.take k ∧ Own [] w [] [] (roS (.slice a l.length c) (cellsB l) ++ roS (.slice a2 m.length c2) (cellsB m)) wr) (fun i _ => l.length - (intOf i).toNat)
  case atStart => exact ⟨0, by omega, rfl, by simp, hO⟩
  case round =>
   clear hO
   obtain ⟨k, hk, rfl, hin, hO⟩ := hrel
   have HI := Lib.hid hin
   clear hin
   by_cases hlt : k < l.length
   ·have hlt2 : k < m.length := by have := HL.out; omega
    obtain ⟨g, o, rfl⟩ := ha (by omega)
    obtain ⟨g2, o2, rfl⟩ := ha2 (by omega)
    simp only [roS, List.cons_append, List.nil_append] at hO
    have t1 := tk_box l hlt
    have t2 := tk_box m hlt2
    by_cases he : l[k] = m[k]
    ·have q1 : (!decide (l[k] = m[k])) = false := by simp [he]
     have HE := Lib.hid he
     clear he
     go_wp2_with fail
     (refine own_quiet hO (by kernel_rfl) (by kernel_rfl) ?_; clear hO; (repeat (go_big_quiet_want; (first | ((with_reducible refine is_loadQ ?_); (refine q_ld (h := ?_)); (try simp only [Act.put]); (try simp only [sI9, sZ9, sS9]); go_big_quiet_on) | (go_big_quiet_op; (first | go_big_quiet_on | ((refine ⟨_, fun _ _ => rfl, ?_⟩); go_big_quiet_on)))))); (refine wpQuiet_nil ?_); intro wv hO)
     go_wp2_with fail
     go_roundw
     case rel => exact ⟨k + 1, by omega, by go_num, by rw [List.take_succ_eq_append_getElem hlt, List.take_succ_eq_append_getElem hlt2, HI.out, HE.out], hO⟩
     case measure => simp [intOf]; omega
    ·have q1 : (!decide (l[k] = m[k])) = true := by simp [he]
     have E := Lib.hid (show decide (l = m) = false by simp; intro e; subst e; exact he rfl)
     clear he
     go_wp2_with fail
     (refine own_quiet hO (by kernel_rfl) (by kernel_rfl) ?_; clear hO; (repeat (go_big_quiet_want; (first | ((with_reducible refine is_loadQ ?_); (refine q_ld (h := ?_)); (try simp only [Act.put]); (try simp only [sI9, sZ9, sS9]); go_big_quiet_on) | (go_big_quiet_op; (first | go_big_quiet_on | ((refine ⟨_, fun _ _ => rfl, ?_⟩); go_big_quiet_on)))))); (refine wpQuiet_nil ?_); intro wv hO)
     go_wp2_with fail
     go_ret
     exact ⟨ret_bool E.out.symm, hO.keep.below⟩
   ·obtain rfl : k = l.length := by omega
    have E := Lib.hid (show decide (l = m) = true by
     have h := HI.out; rw [List.take_length, HL.out, List.take_length] at h; simpa using h)
    go_wp2_with fail
    go_ret
    exact ⟨ret_bool E.out.symm, hO.keep.below⟩
 ·have q : ((l.length : Int) != (m.length : Int)) = true := by simp; omega
  have E := Lib.hid (show decide (l = m) = false by simp; intro e; exact hl (by rw [e]))
  clear hl
  go_enter Tryz.func141, Tryz.ntmps141
  go_wp2_with fail
  go_ret
  exact ⟨ret_bool E.out.symm, hO.keep.below⟩
end Go.Proofs.YtbdfblgdmappeaaGreatDoor
namespace Go.Proofs.YtbdfblgdmappeaaGreatDoor
set_option maxRecDepth 100000
def IsSet (l : List Bx) : Prop := vL l ∧ l.length ≤ 4096 ∧ Cn 0 5 l
theorem IsSet.setF {l : List Bx} (h : IsSet l) : setF l = some l := by
 unfold Go.Proofs.YtbdfblgdmappeaaGreatDoor.setF validF
 rw [if_pos]
 rw [valF_id h.1, (dvd_zero h.1).2 h.2.2]
 simp [h.2.1]
theorem IsSet.ext {a b : List Bx} (ha : IsSet a) (hb : IsSet b) (h : ∀ p, okP p → inq a p = inq b p) : a = b := Cn.extq ha.2.2 hb.2.2 h
theorem IsSet.full : IsSet [fullBx] := by
 have hv : vL [fullBx] := by
  have h := valF_vL okL_full
  rwa [show valF [fullBx] = [fullBx] by decide +kernel] at h
 exact ⟨hv, by decide, (dvd_zero hv).1 (by decide +kernel)⟩
end Go.Proofs.YtbdfblgdmappeaaGreatDoor
namespace Go.Proofs.YtbdfblgdmappeaaGreatDoor
open Go.RowKit
set_option maxRecDepth 100000
theorem vL.okL {l : List Bx} (h : vL l) : okL l := fun b hb k hk => by
 have h1 := h b hb k hk
 have h2 := topOf_le k
 omega
theorem IsSet.ok {l : List Bx} (h : IsSet l) : okL l := h.1.okL
theorem IsSet.le {l : List Bx} (h : IsSet l) : l.length ≤ 1000000000000 := Nat.le_trans h.2.1 (by omega)
theorem rsame4g_any (v u : Value) (l m : List Bx) (w : World) (hv : IsBoxes w v l) (hu : IsBoxes w u m) (hl : l.length ≤ 9223372036854775806) (hm : m.length ≤ 9223372036854775806) :
  Calls Tryz.prog 80 #[v, u] w fun e w' => e = .returned (.bool (decide (l = m))) ∧ Below w.heap.size w w' := by
 have hO := own_start [] w
 have h1 := fun w hv hu => rsame_any v u l m w hv hu hl hm
 go_enter Tryz.func80, Tryz.ntmps80
 go_wp2_with (go_at_call 141; refine (h1 _ hv hu).mono ?_; rintro e wv ⟨rfl, hb⟩; replace hO := hO.call hb; clear hb)
 go_ret
 exact ⟨rfl, hO.keep.below⟩
def BoxesQ (q : Nat) (w : World) (v : Value) (l : List Bx) : Prop := FormB v l ∧ ∀ s ∈ roS v (cellsB l), w.rangeAt s.g s.o s.xs ∧ (s.xs ≠ [] → s.g ≠ q)
theorem BoxesQ.is {q : Nat} {w : World} {v : Value} {l : List Bx} (h : BoxesQ q w v l) : IsBoxes w v l := by
 rcases h.1 with h1 | ⟨g, o, c, rfl, hc⟩
 ·exact .inl h1
 ·exact .inr ⟨g, o, c, rfl, hc, (h.2 ⟨g, o, cellsB l⟩ (by simp [roS])).1⟩
end Go.Proofs.YtbdfblgdmappeaaGreatDoor
namespace Go.Proofs.YtbdfblgdmappeaaGreatDoor
open Go.ChangeShapes Go.WideShapes Go.ChangeAt Go.RowKit
set_option maxRecDepth 100000
theorem addr_add (g o i : Nat) : (⟨g, o, none⟩ : Addr).add i = ⟨g, o + i, none⟩ := by
 unfold Addr.add
 by_cases h0 : i = 0
 ·rw [if_pos h0, h0]; rfl
 ·rw [if_neg h0]
theorem mapM_get {α β : Type} (f : α → Option β) : ∀ (l : List α) (r : List β), l.mapM f = some r → ∀ (j : Nat) (u : β), ∀ (_ : r[j]? = some u), ∃ x, l[j]? = some x ∧ f x = some u
 | [], r, h, j, u, hj => by
  simp at h
  subst h
  simp at hj
 | x :: l, r, h, j, u, hj => by
  rw [List.mapM_cons] at h
  simp only [Option.bind_eq_bind, Option.bind_eq_some_iff, Option.pure_def, Option.some.injEq] at h
  obtain ⟨y, hy, ys, hys, rfl⟩ := h
  cases j with
  | zero =>
   simp at hj
   subst hj
   exact ⟨x, rfl, hy⟩
  | succ j => exact mapM_get f l ys hys j u (by simpa using hj)
theorem range_of_cells {w : World} {base g o n : Nat} {cs : List Value} (h : w.cells? base ⟨g, o, none⟩ n = some cs) : w.rangeAt g o cs := by
 unfold World.cells? at h
 split at h
 ·intro j u hj
  obtain ⟨x, hx, hf⟩ := mapM_get _ _ _ h j u hj
  rw [List.getElem?_range (by
   have := (List.getElem?_eq_some_iff.1 hx).1
   simpa using this)] at hx
  obtain rfl := Option.some.inj hx
  rw [addr_add] at hf
  exact hf
 ·cases h
section
variable {H : Type} {enc : TypeId × Value → H} {w : World} {base : Nat} {spare : Nat → Bool} {held : Bool}
end
end Go.Proofs.YtbdfblgdmappeaaGreatDoor
namespace Go.Proofs.YtbdfblgdmappeaaGreatDoor
open Go.RowKit
theorem make_set {l x : List Bx} (kl : okL l) (h : makeF l = some x) : IsSet x ∧ ∀ p, okP p → inq x p = inq (valF l) p := by
 obtain ⟨h1, h2, h3⟩ := makeGo_spec (cn_nil 0 5) (by simp) (valF_vL kl) h
 exact ⟨⟨h1.valid rfl, h2, h1⟩, fun p hp => by rw [h3 p hp, inq_nil, Bool.false_or]⟩
theorem IsSet.make {x : List Bx} (h : IsSet x) : makeF x = some x := by
 unfold makeF
 rw [valF_id h.1]
 exact makeGo_canon h.2.2 h.2.1
theorem IsSet.val {x : List Bx} (h : IsSet x) : validF x = true := by
 unfold validF
 rw [valF_id h.1, (dvd_zero h.1).2 h.2.2]
 simp [h.2.1]
end Go.Proofs.YtbdfblgdmappeaaGreatDoor
