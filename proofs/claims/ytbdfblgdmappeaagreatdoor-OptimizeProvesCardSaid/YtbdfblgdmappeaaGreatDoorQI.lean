/- The laws' tables and steps. -/
import Derived.Test.YtbdfblgdmappeaaGreatDoorQB
import Derived.Test.YtbdfblgdmappeaaGreatDoorMB
namespace Go.Proofs.YtbdfblgdmappeaaGreatDoor
open Go.RowKit
set_option maxRecDepth 100000
section
variable {P : Program} {ops : Array Oper} {Q : Exit → Act → World → Prop} {a : Act} {w : World} {o : Oper} {rest : List Oper}
theorem is_bst {d ty pos af g t fs} (h : wpList P ops Q (⟨d, .build t fs, ty, pos, af, g⟩ :: rest) a w) : wpList P ops Q (⟨d, .build t fs, ty, pos, af, g⟩ :: rest) a w := h
theorem own_bst {t : TypeId} {l : List (Nat × Operand)} {gs : List (Nat × Value)} {v : Value} (hr : (Instr.build t gs.toArray).run P w = .ok v w) (h : wpList P ops Q rest (a.put o.dst v) w) (hw : Region.wanted o (yielded ops a.tmps) = true := by rfl) (ho : o.op = .build t l.toArray := by rfl) (hg : l.map (fun p => (p.1, a.eval p.2)) = gs := by rfl) : wpList P ops Q (o :: rest) a w := by
 subst hg
 refine wpList_val hw v w ?_ h
 unfold execOp
 rw [ho]
 have e : l.toArray.map (fun (x : Nat × Operand) => (x.1, a.eval x.2)) = (l.map fun p => (p.1, a.eval p.2)).toArray := List.map_toArray ..
 dsimp only
 rw [e, Sem.run_bind, hr]
 rfl
end
set_option maxHeartbeats 2000000 in
theorem ports36_any (lo hi : Int) (p : Bool) (w : World) : Calls Tryz.prog 42 #[.int .u32 lo, .int .u32 hi, .bool p] w fun e w' => e = .returned (.agg (rlcs (portB lo hi, p)).toArray) ∧ Below w.heap.size w w' := by
 have hO := own_start [] w
 have hfull := rfull_any
 have hp : putAt (bcs fullBx) 8 [.int .u32 lo, .int .u32 hi] = bcs (portB lo hi) := rfl
 generalize portB lo hi = bS at *
 go_enter Tryz.func42, Tryz.ntmps42
 go_upto_region 3 with (first | ((with_reducible refine is_store ?_); (refine own_stRQ (hO := hO) (h := ?_); clear hO; intro wv hO)) | ((with_reducible refine is_alloc ?_); (first | (refine own_alQ (o := ⟨some 6, _, _, _, _, _⟩) (hO := hO) (h := ?_); clear hO; intro n6 wv hO) | (refine own_alQ (o := ⟨some 7, _, _, _, _, _⟩) (hO := hO) (h := ?_); clear hO; intro n7 wv hO))) | (go_at_call 85; refine (hfull _).mono ?_; rintro e wv ⟨rfl, hb⟩; replace hO := hO.call hb; clear hb))
 rw [hp] at hO
 clear hp hfull
 (try simp only [Act.put])
 go_wp2_with (first | ((with_reducible refine is_load ?_); (refine own_ldQ (h := ?_))) | ((with_reducible refine is_store ?_); (refine own_stRQ (hO := hO) (h := ?_); clear hO; intro wv hO)) | ((with_reducible refine is_bst ?_); (refine own_bst (run_rule bS p _) ?_)))
 exact bodyPost_ret (own_res_cell hO Tryz.results42 rfl (by (repeat (first | exact List.mem_cons_self | refine List.mem_cons_of_mem _ ?_))) (by (exact row_len (by (with_reducible (exact row_Rule))) (by rfl))) rfl) rfl ⟨rfl, hO.keep.below⟩
theorem portsO_any {lo hi : Int} (h0 : 0 ≤ lo) (h1 : lo ≤ hi) (h2 : hi ≤ 65535) (p : Bool) (w : World) : Calls Tryz.prog 42 #[.int .u32 lo, .int .u32 hi, .bool p] w fun e w' => ∃ b, e = .returned (.agg (rlcs (b, p)).toArray) ∧ Good b ∧ Below w.heap.size w w' :=
 (ports36_any lo hi p w).mono fun _ _ ⟨h3, h4⟩ => ⟨_, h3, portB_good h0 h1 h2, h4⟩
theorem cellsR_setF {l : List Rul} {k j : Nat} (h : k < l.length) (hj : j < 5) (lo hi : Int) : putAt (cellsR l) (k * 11 + j * 2) [.int .u32 lo, .int .u32 hi] = cellsR (l.set k (l[k].1.set j ⟨lo, hi⟩, l[k].2)) := by
 induction l generalizing k with
 | nil => simp at h
 | cons c l ih =>
  cases k with
  | zero =>
   simp only [cellsR, List.set_cons_zero, List.getElem_cons_zero, Nat.zero_mul, Nat.zero_add, rlcs, List.append_assoc]
   exact putAt_front hj lo hi _
  | succ k =>
   simp only [cellsR, List.set_cons_succ, List.getElem_cons_succ]
   rw [← ih (by simpa using h), show (k + 1) * 11 + j * 2 = (rlcs c).length + (k * 11 + j * 2) by rw [rlcs_length]; omega, putAt_behind]
def GoodT (t : List Rul) : Prop := ∀ r ∈ t, Good r.1
def GoodW (wild : Bool) (t : List Rul) : Prop := wild = false → GoodT t
theorem GoodT.set {u : List Rul} (h : GoodT u) (k : Nat) {r : Rul} (hr : Good r.1) : GoodT (u.set k r) := fun x hx => by
 rcases List.mem_or_eq_of_mem_set hx with h1 | rfl
 ·exact h x h1
 ·exact hr
def TabO (w : World) (m : Int) (wild : Bool) (v : Value) (w' : World) : Prop := ∃ t : List Rul, IsTable w' v t ∧ NewFrom w v ∧ okT t ∧ t.length ≤ m ∧ GoodW wild t
set_option maxHeartbeats 16000000 in
theorem otable_any {w : World} {n : Nat} {sl : Value} {zs : List Int} {i : Nat} (m : Int) (wild : Bool) (hZ : ZsOk sl zs) (hT : TapeIn w n sl zs i) (h0 : 0 ≤ m) (hm : m ≤ 50) :
  Calls Tryz.prog 12 #[.pointer (some ⟨n, 0, none⟩), .int .i64 m, .bool wild] w (TPost w n sl zs (TabO w m wild)) := by
 have hO := own_tape hT
 cases wild
 ·go_enter Tryz.func12, Tryz.ntmps12
  go_wp2_with (go_at_call 41; (with_reducible refine (ttableR_any m false hZ (hO.tapeIn List.mem_cons_self (fun _ h => h) hT.le) h0 (by omega)).mono ?_); rintro e wv ⟨va, i1, rfl, ⟨t, -, hn9, kt, nt, kg, hrow⟩, hk9, hT1⟩; have hO9 := hO.after (by (repeat (exact Upd.here))) hk9 hT1.blk; replace hO := hO.rowT hO9 rfl hn9 hrow; replace hT := hT1; clear hT1 hk9 hO9 hn9 hrow)
  have KG := Lib.hid (show GoodW false t from fun _ => kg (by (trivial)))
  clear kg
  obtain ⟨a0, c0, hva, ha0⟩ := rowview11 (hO.row _ List.mem_cons_self)
  dsimp only at hva ha0
  subst hva
  go_loopw [8] (fun q wr => ∃ (k : Nat) (u : List Rul) (i : Nat), k ≤ t.length ∧ u.length = t.length ∧ q = .int .i64 k ∧ okT u ∧ Hid (GoodW false u) ∧ i ≤ zs.length ∧ Own [n] w [⟨n, tcs sl i, 93⟩] [⟨.slice a0 t.length c0, t.length, cellsR u, 100, 11⟩] (roS sl (ints zs)) wr) (fun q _ => t.length - (intOf q).toNat)
  case atStart => exact ⟨0, t, _, by omega, rfl, rfl, kt, KG, hT.le, hO⟩
  case round =>
   clear hO hT kt KG
   obtain ⟨k, u, i, hk, hu, rfl, ku, KG, hi, hO⟩ := hrel
   have hT := hO.tapeIn List.mem_cons_self (fun q hq => hq) hi
   have s1 : IntKind.i64.wrap ((k : Int) + 1) = (k : Int) + 1 := IntWalk.i64_in _ (by omega)
   by_cases hlt : k < t.length
   ·obtain ⟨g, rfl⟩ := ha0 (by omega)
    have hlu : k < u.length := by omega
    have hsz : k * 11 + 10 ≤ (cellsR u).length := by rw [cellsR_length]; omega
    have hsz1 : k * 11 + 11 ≤ (cellsR u).length := by rw [cellsR_length]; omega
    go_upto_region 6 with (go_at_call 21; (with_reducible refine (next_pos 4 hZ (hO.tapeIn List.mem_cons_self (fun _ h => h) hT.le) (by omega) (by omega)).mono ?_); rintro e wv ⟨v, i1, rfl, ⟨r, rfl, r0, r1⟩, hk9, hT1⟩; replace hO := hO.after (by (repeat (exact Upd.here))) hk9 hT1.blk; replace hT := hT1; clear hT1 hk9)
    by_cases r_2 : r < 2
    ·have tp := cr_permit u hlu
     obtain ⟨pk, hpk⟩ : ∃ p, p = u[k].2 := ⟨_, rfl⟩
     rw [← hpk] at tp
     clear hpk
     have hr : r = 0 ∨ r = 1 := by omega
     clear r_2 r0 r1
     rcases hr with rfl | rfl
     all_goals
      go_wp2_with (go_at_call 21; (with_reducible refine (next_pos 6 hZ (hO.tapeIn List.mem_cons_self (fun _ h => h) hT.le) (by omega) (by omega)).mono ?_); rintro e wv ⟨v, i1, rfl, ⟨x, rfl, x0, x1⟩, hk9, hT1⟩; replace hO := hO.after (by (repeat (exact Upd.here))) hk9 hT1.blk; replace hT := hT1; clear hT1 hk9; have wx : IntKind.u32.wrap x = x := (by rw [IntKind.wrap_u32]; omega))
      refine wp_region_any (by kernel_rfl) ?_
      replace hO := hO.drew
      have ix9 := Ix.mk [0, 1, 2, 3, 4, 8, 9, 10, 11]
      iterate 9 (refine wpAny_tk ix9 ?_; replace ix9 := ix9.tail; (first | go_big_quiet_skip | (go_big_quiet_want; (go_big_quiet_op; (first | go_big_quiet_on | ((refine ⟨_, fun _ _ => rfl, ?_⟩); go_big_quiet_on))))); (refine wpQuiet_nil ?_); (try simp only [Act.put]); (try simp only [sI9, sZ9, sS9]))
      clear ix9
      refine wpAny_all (rs := [5, 12]) (by kernel_rfl) (by simp) (ord_cons ?_ (ord_cons ?_ ord_nil))
      rotate_left 2
      all_goals
       refine wpOp_of_listL rfl ?_
       (first | ((with_reducible refine is_load ?_); (refine own_ldQ (h := ?_))) | ((refine wpList_step (fun K hK => ?_)); go_simp; ((go_at_call 21; (with_reducible refine (next_pos 3 hZ (hO.tapeIn List.mem_cons_self (fun _ h => h) hT.le) (by omega) (by omega)).mono ?_); rintro e wv ⟨v, i1, rfl, ⟨y, rfl, y0, y1⟩, hk9, hT1⟩; replace hO := hO.after (by (repeat (exact Upd.here))) hk9 hT1.blk; replace hT := hT1; clear hT1 hk9; have wy : IntKind.u32.wrap y = y := (by rw [IntKind.wrap_u32]; omega); have wxy : IntKind.u32.wrap (x + y) = x + y := (by rw [IntKind.wrap_u32]; omega); have wxz : (x + y) % 4294967296 = x + y := (by omega)); (try simp only []); (refine hK _ _ ?_); clear hK K))); (try simp only [Act.put]); (try simp only [sI9, sZ9, sS9])
       refine wpList_done (qk_intro ?_)
      have ix9 := Ix.mk [6, 7]
      iterate 2 (refine wpAny_tk ix9 ?_; replace ix9 := ix9.tail; (first | go_big_quiet_skip | (go_big_quiet_want; (go_big_quiet_op; (first | go_big_quiet_on | ((refine ⟨_, fun _ _ => rfl, ?_⟩); go_big_quiet_on))))); (refine wpQuiet_nil ?_); (try simp only [Act.put]); (try simp only [sI9, sZ9, sS9]))
      clear ix9
      refine wpAny_1 12 ?_
      rotate_left 1
      refine wpAny_1 5 ?_
      rotate_left 1
      all_goals
       refine wpOp_of_listL rfl ?_
       (first | ((with_reducible refine is_load ?_); (refine own_ldQ (h := ?_))) | ((refine wpList_step (fun K hK => ?_)); go_simp; ((go_at_call 21; (with_reducible refine (next_pos 3 hZ (hO.tapeIn List.mem_cons_self (fun _ h => h) hT.le) (by omega) (by omega)).mono ?_); rintro e wv ⟨v, i1, rfl, ⟨y, rfl, y0, y1⟩, hk9, hT1⟩; replace hO := hO.after (by (repeat (exact Upd.here))) hk9 hT1.blk; replace hT := hT1; clear hT1 hk9; have wy : IntKind.u32.wrap y = y := (by rw [IntKind.wrap_u32]; omega); have wxy : IntKind.u32.wrap (x + y) = x + y := (by rw [IntKind.wrap_u32]; omega); have wxz : (x + y) % 4294967296 = x + y := (by omega)); (try simp only []); (refine hK _ _ ?_); clear hK K))); (try simp only [Act.put]); (try simp only [sI9, sZ9, sS9])
       refine wpList_done (qk_intro ?_)
      refine wpAny_1 13 ?_
      rotate_left 1
      have ix9 := Ix.mk [6, 7]
      iterate 2 (refine wpAny_tk ix9 ?_; replace ix9 := ix9.tail; (first | go_big_quiet_skip | (go_big_quiet_want; (go_big_quiet_op; (first | go_big_quiet_on | ((refine ⟨_, fun _ _ => rfl, ?_⟩); go_big_quiet_on))))); (refine wpQuiet_nil ?_); (try simp only [Act.put]); (try simp only [sI9, sZ9, sS9]))
      clear ix9
      refine wpAny_1 13 ?_
      rotate_left 1
      all_goals
       refine wpOp_of_listL rfl ?_
       ((refine wpList_step (fun K hK => ?_)); go_simp; ((go_at_call 42; (with_reducible refine (portsO_any (by omega) (by omega) (by omega) pk _).mono ?_); rintro e wv ⟨b, rfl, gb, hb9⟩; replace hO := hO.call hb9; replace hT := (hO.tapeIn List.mem_cons_self (fun _ h => h) hT.le); clear hb9; have hn := cellsR_setR hlu (b, pk)); (try simp only []); (refine hK _ _ ?_); clear hK K))
       refine wpList_done (qk_intro ?_)
      refine wpAny_tk (Ix.mk [14]) ?_
      (first | go_big_quiet_skip | (go_big_quiet_want; (go_big_quiet_op; (first | go_big_quiet_on | ((refine ⟨_, fun _ _ => rfl, ?_⟩); go_big_quiet_on))))); (refine wpQuiet_nil ?_); (try simp only [Act.put]); (try simp only [sI9, sZ9, sS9])
      refine wpAny_1 15 ?_
      rotate_left 1
      refine wpAny_tk (Ix.mk [14]) ?_
      (first | go_big_quiet_skip | (go_big_quiet_want; (go_big_quiet_op; (first | go_big_quiet_on | ((refine ⟨_, fun _ _ => rfl, ?_⟩); go_big_quiet_on))))); (refine wpQuiet_nil ?_); (try simp only [Act.put]); (try simp only [sI9, sZ9, sS9])
      refine wpAny_1 15 ?_
      rotate_left 1
      all_goals
       refine wpOp_of_listL rfl ?_
       ((with_reducible refine is_store ?_); (go_must (refine own_stRw hO (ht := row_Rule) (h := ?_))); clear hO; intro wv hO); (try simp only [Act.put])
       refine wpList_done (qk_intro ?_)
      refine wpAny_done (by kernel_rfl) ?_ _
      rotate_left
      refine wpAny_done (by kernel_rfl) ?_ _
      rotate_left
      all_goals
       go_wp2_with fail
       go_roundw
       case rel => exact ⟨k + 1, u.set k (b, pk), _, by omega, by simpa using hu, by go_num, okT_set (r := (b, pk)) ku gb.ok, Lib.hid (fun h => (KG.out h).set k (r := (b, pk)) gb), hT.le, hO⟩
       case measure => simp [intOf]; omega
    ·have g0 : (r == 0) = false := beq_eq_false_iff_ne.2 (by omega)
     have g1 : (r == 1) = false := beq_eq_false_iff_ne.2 (by omega)
     by_cases r_3 : r = 2
     ·have g2 : (r == 2) = true := beq_iff_eq.2 r_3
      clear r_2 r_3
      by_cases hk0 : 0 < k
      ·have g3 : decide ((0 : Int) < (k : Int)) = true := decide_eq_true (by omega)
       have hk1 : 1 ≤ (k : Int) ∧ (k : Int) ≤ 50 := by omega
       go_upto_region 13 with (first | ((with_reducible refine is_load ?_); (refine own_ldQ (h := ?_))) | (go_at_call 21; (with_reducible refine (next_pos (k : Int) hZ (hO.tapeIn List.mem_cons_self (fun _ h => h) hT.le) (by omega) (by omega)).mono ?_); rintro e wv ⟨v, i1, rfl, ⟨q, rfl, q0, q1⟩, hk9, hT1⟩; replace hO := hO.after (by (repeat (exact Upd.here))) hk9 hT1.blk; replace hT := hT1; clear hT1 hk9; obtain ⟨q, rfl⟩ : (∃ q9 : Nat, q = (q9 : Int)) := ⟨q.toNat, by omega⟩; have hqu : q < u.length := (by omega); have t1 := tk_match u hqu; have hn := cellsR_setM hlu u[q].1; have kb := ku _ (List.getElem_mem hqu); have kgq := (fun h => KG.out h _ (List.getElem_mem hqu)); generalize u[q] = rq at *) | ((with_reducible refine is_store ?_); (go_must (refine own_stRw hO (h := ?_))); clear hO; intro wv hO))
       obtain ⟨u1, hu1⟩ : ∃ u1, u1 = u.set k (rq.1, u[k].2) := ⟨_, rfl⟩
       rw [← hu1] at hO
       have hl1 : k < u1.length := by rw [hu1]; simpa using hlu
       have hu1l : u1.length = u.length := by rw [hu1]; simp
       have ku1 : okT u1 := by rw [hu1]; exact okT_set (r := (rq.1, u[k].2)) ku kb
       have KG1 : Hid (GoodW false u1) := Lib.hid (fun h => by rw [hu1]; exact (KG.out h).set k (r := (rq.1, u[k].2)) (kgq (by (trivial))))
       have hs1 : k * 11 + 4 + 2 ≤ (cellsR u1).length := by rw [cellsR_length]; omega
       have hx := fun lo hi => cellsR_setF hl1 (show 2 < 5 by omega) lo hi
       clear hu1 hn
       have HX := Lib.hid hx
       clear hx
       (try simp only [Act.put])
       refine wp_region_any (by kernel_rfl) ?_
       replace hO := hO.drew
       have ix9 := Ix.mk [0, 1, 2, 5, 10, 11]
       iterate 6 (refine wpAny_tk ix9 ?_; replace ix9 := ix9.tail; (first | go_big_quiet_skip | (go_big_quiet_want; (go_big_quiet_op; (first | go_big_quiet_on | ((refine ⟨_, fun _ _ => rfl, ?_⟩); go_big_quiet_on))))); (refine wpQuiet_nil ?_); (try simp only [Act.put]); (try simp only [sI9, sZ9, sS9]))
       clear ix9
       refine wpAny_1 3 ?_
       rotate_left 1
       all_goals
        refine wpOp_of_listL rfl ?_
        ((refine wpList_step (fun K hK => ?_)); go_simp; (((fail_if_success (have := x0)); go_at_call 21; (with_reducible refine (next_pos 3 hZ (hO.tapeIn List.mem_cons_self (fun _ h => h) hT.le) (by omega) (by omega)).mono ?_); rintro e wv ⟨v, i1, rfl, ⟨x, rfl, x0, x1⟩, hk9, hT1⟩; replace hO := hO.after (by (repeat (exact Upd.here))) hk9 hT1.blk; replace hT := hT1; clear hT1 hk9; have wx : IntKind.u32.wrap x = x := (by rw [IntKind.wrap_u32]; omega)); (try simp only []); (refine hK _ _ ?_); clear hK K))
        refine wpList_done (qk_intro ?_)
       refine wpAny_tk (Ix.mk [4]) ?_
       (first | go_big_quiet_skip | (go_big_quiet_want; (go_big_quiet_op; (first | go_big_quiet_on | ((refine ⟨_, fun _ _ => rfl, ?_⟩); go_big_quiet_on))))); (refine wpQuiet_nil ?_); (try simp only [Act.put]); (try simp only [sI9, sZ9, sS9])
       refine wpAny_1 6 ?_
       rotate_left 1
       all_goals
        refine wpOp_of_listL rfl ?_
        ((refine wpList_step (fun K hK => ?_)); go_simp; ((go_at_call 21; (with_reducible refine (next_pos 3 hZ (hO.tapeIn List.mem_cons_self (fun _ h => h) hT.le) (by omega) (by omega)).mono ?_); rintro e wv ⟨v, i1, rfl, ⟨y, rfl, y0, y1⟩, hk9, hT1⟩; replace hO := hO.after (by (repeat (exact Upd.here))) hk9 hT1.blk; replace hT := hT1; clear hT1 hk9; have w2y : IntKind.i64.wrap (2 + y) = 2 + y := IntWalk.i64_in _ (by omega); have w3y : IntKind.u32.wrap (2 + y) = 2 + y := (by rw [IntKind.wrap_u32]; omega); have hn := HX.out x (2 + y)); (try simp only []); (refine hK _ _ ?_); clear hK K))
        refine wpList_done (qk_intro ?_)
       have ix9 := Ix.mk [7, 8, 9, 12]
       iterate 4 (refine wpAny_tk ix9 ?_; replace ix9 := ix9.tail; (first | go_big_quiet_skip | (go_big_quiet_want; (go_big_quiet_op; (first | go_big_quiet_on | ((refine ⟨_, fun _ _ => rfl, ?_⟩); go_big_quiet_on))))); (refine wpQuiet_nil ?_); (try simp only [Act.put]); (try simp only [sI9, sZ9, sS9]))
       clear ix9
       refine wpAny_1 13 ?_
       rotate_left 1
       all_goals
        refine wpOp_of_listL rfl ?_
        ((with_reducible refine is_store ?_); (go_must (refine own_stRw hO (h := ?_))); clear hO; intro wv hO); (try simp only [Act.put])
        refine wpList_done (qk_intro ?_)
       refine wpAny_done (by kernel_rfl) ?_ _
       rotate_left
       all_goals
        go_wp2_with fail
        go_roundw
        case rel => exact ⟨k + 1, u1.set k (u1[k].1.set 2 ⟨x, 2 + y⟩, u1[k].2), _, by omega, by simp [hu1l, hu], by go_num, okT_set (r := (u1[k].1.set 2 ⟨x, 2 + y⟩, u1[k].2)) ku1 (ok_set (ku1 _ (List.getElem_mem hl1)) _ (by omega) (by omega) (by omega) (by omega)), Lib.hid (fun h => (KG1.out h).set k (r := (u1[k].1.set 2 ⟨x, 2 + y⟩, u1[k].2)) ((KG1.out h _ (List.getElem_mem hl1)).set 2 (by omega) (by omega) (fun _ => show 2 + y ≤ 255 by omega))), hT.le, hO⟩
        case measure => simp [intOf]; omega
      ·have g3 : decide ((0 : Int) < (k : Int)) = false := decide_eq_false (by omega)
       go_wp2_with fail
       go_roundw
       case rel => exact ⟨k + 1, u, _, by omega, hu, by go_num, ku, KG, hT.le, hO⟩
       case measure => simp [intOf]; omega
     ·have g2 : (r == 2) = false := beq_eq_false_iff_ne.2 r_3
      clear r_2 r_3
      go_wp2_with fail
      go_roundw
      case rel => exact ⟨k + 1, u, _, by omega, hu, by go_num, ku, KG, hT.le, hO⟩
      case measure => simp [intOf]; omega
   ·obtain rfl : k = t.length := by omega
    go_wp2_with fail
    go_ret
    refine tpost hO List.mem_cons_self (fun _ h => h) hT.le ⟨u, isCells_table.2 ?_, ?_, ku, by omega, KG.out⟩
    ·rw [hu]; exact hO.rowIs List.mem_cons_self
    ·exact own_newT hO List.mem_cons_self (nodup_cons_row hO.nd)
 ·go_enter Tryz.func12, Tryz.ntmps12
  go_wp2_with (first | (go_at_call 21; (with_reducible refine (next_pos 8 hZ (hO.tapeIn List.mem_cons_self (fun _ h => h) hT.le) (by omega) (by omega)).mono ?_); rintro e wv ⟨v, i1, rfl, ⟨r, rfl, r0, r1⟩, hk9, hT1⟩; replace hO := hO.after (by (repeat (exact Upd.here))) hk9 hT1.blk; replace hT := hT1; clear hT1 hk9) | (go_at_call 41; (with_reducible refine (ttableR_any m _ hZ (hO.tapeIn List.mem_cons_self (fun _ h => h) hT.le) h0 (by omega)).mono ?_); rintro e wv ⟨va, i1, rfl, ⟨t, -, hn9, kt, nt, kg, hrow⟩, hk9, hT1⟩; have hO9 := hO.after (by (repeat (exact Upd.here))) hk9 hT1.blk; replace hO := hO.rowT hO9 rfl hn9 hrow; replace hT := hT1; clear hT1 hk9 hO9 hn9 hrow))
  clear r0 r1
  have KG := Lib.hid (show GoodW true t from fun h => Bool.noConfusion h)
  clear kg
  obtain ⟨a0, c0, hva, ha0⟩ := rowview11 (hO.row _ List.mem_cons_self)
  dsimp only at hva ha0
  subst hva
  go_loopw [8] (fun q wr => ∃ (k : Nat) (u : List Rul) (i : Nat), k ≤ t.length ∧ u.length = t.length ∧ q = .int .i64 k ∧ okT u ∧ Hid (GoodW true u) ∧ i ≤ zs.length ∧ Own [n] w [⟨n, tcs sl i, 93⟩] [⟨.slice a0 t.length c0, t.length, cellsR u, 100, 11⟩] (roS sl (ints zs)) wr) (fun q _ => t.length - (intOf q).toNat)
  case atStart => exact ⟨0, t, _, by omega, rfl, rfl, kt, KG, hT.le, hO⟩
  case round =>
   clear hO hT kt KG
   obtain ⟨k, u, i, hk, hu, rfl, ku, KG, hi, hO⟩ := hrel
   have hT := hO.tapeIn List.mem_cons_self (fun q hq => hq) hi
   have s1 : IntKind.i64.wrap ((k : Int) + 1) = (k : Int) + 1 := IntWalk.i64_in _ (by omega)
   by_cases hlt : k < t.length
   ·obtain ⟨g, rfl⟩ := ha0 (by omega)
    have hlu : k < u.length := by omega
    have hsz : k * 11 + 10 ≤ (cellsR u).length := by rw [cellsR_length]; omega
    have hsz1 : k * 11 + 11 ≤ (cellsR u).length := by rw [cellsR_length]; omega
    go_upto_region 6 with (go_at_call 21; (with_reducible refine (next_pos 4 hZ (hO.tapeIn List.mem_cons_self (fun _ h => h) hT.le) (by omega) (by omega)).mono ?_); rintro e wv ⟨v, i1, rfl, ⟨r, rfl, r0, r1⟩, hk9, hT1⟩; replace hO := hO.after (by (repeat (exact Upd.here))) hk9 hT1.blk; replace hT := hT1; clear hT1 hk9)
    by_cases r_2 : r < 2
    ·have tp := cr_permit u hlu
     obtain ⟨pk, hpk⟩ : ∃ p, p = u[k].2 := ⟨_, rfl⟩
     rw [← hpk] at tp
     clear hpk
     have hr : r = 0 ∨ r = 1 := by omega
     clear r_2 r0 r1
     rcases hr with rfl | rfl
     all_goals
      go_wp2_with (go_at_call 21; (with_reducible refine (next_pos 6 hZ (hO.tapeIn List.mem_cons_self (fun _ h => h) hT.le) (by omega) (by omega)).mono ?_); rintro e wv ⟨v, i1, rfl, ⟨x, rfl, x0, x1⟩, hk9, hT1⟩; replace hO := hO.after (by (repeat (exact Upd.here))) hk9 hT1.blk; replace hT := hT1; clear hT1 hk9; have wx : IntKind.u32.wrap x = x := (by rw [IntKind.wrap_u32]; omega))
      refine wp_region_any (by kernel_rfl) ?_
      replace hO := hO.drew
      have ix9 := Ix.mk [0, 1, 2, 3, 4, 8, 9, 10, 11]
      iterate 9 (refine wpAny_tk ix9 ?_; replace ix9 := ix9.tail; (first | go_big_quiet_skip | (go_big_quiet_want; (go_big_quiet_op; (first | go_big_quiet_on | ((refine ⟨_, fun _ _ => rfl, ?_⟩); go_big_quiet_on))))); (refine wpQuiet_nil ?_); (try simp only [Act.put]); (try simp only [sI9, sZ9, sS9]))
      clear ix9
      refine wpAny_all (rs := [5, 12]) (by kernel_rfl) (by simp) (ord_cons ?_ (ord_cons ?_ ord_nil))
      rotate_left 2
      all_goals
       refine wpOp_of_listL rfl ?_
       (first | ((with_reducible refine is_load ?_); (refine own_ldQ (h := ?_))) | ((refine wpList_step (fun K hK => ?_)); go_simp; ((go_at_call 21; (with_reducible refine (next_pos 3 hZ (hO.tapeIn List.mem_cons_self (fun _ h => h) hT.le) (by omega) (by omega)).mono ?_); rintro e wv ⟨v, i1, rfl, ⟨y, rfl, y0, y1⟩, hk9, hT1⟩; replace hO := hO.after (by (repeat (exact Upd.here))) hk9 hT1.blk; replace hT := hT1; clear hT1 hk9; have wy : IntKind.u32.wrap y = y := (by rw [IntKind.wrap_u32]; omega); have wxy : IntKind.u32.wrap (x + y) = x + y := (by rw [IntKind.wrap_u32]; omega); have wxz : (x + y) % 4294967296 = x + y := (by omega)); (try simp only []); (refine hK _ _ ?_); clear hK K))); (try simp only [Act.put]); (try simp only [sI9, sZ9, sS9])
       refine wpList_done (qk_intro ?_)
      have ix9 := Ix.mk [6, 7]
      iterate 2 (refine wpAny_tk ix9 ?_; replace ix9 := ix9.tail; (first | go_big_quiet_skip | (go_big_quiet_want; (go_big_quiet_op; (first | go_big_quiet_on | ((refine ⟨_, fun _ _ => rfl, ?_⟩); go_big_quiet_on))))); (refine wpQuiet_nil ?_); (try simp only [Act.put]); (try simp only [sI9, sZ9, sS9]))
      clear ix9
      refine wpAny_1 12 ?_
      rotate_left 1
      refine wpAny_1 5 ?_
      rotate_left 1
      all_goals
       refine wpOp_of_listL rfl ?_
       (first | ((with_reducible refine is_load ?_); (refine own_ldQ (h := ?_))) | ((refine wpList_step (fun K hK => ?_)); go_simp; ((go_at_call 21; (with_reducible refine (next_pos 3 hZ (hO.tapeIn List.mem_cons_self (fun _ h => h) hT.le) (by omega) (by omega)).mono ?_); rintro e wv ⟨v, i1, rfl, ⟨y, rfl, y0, y1⟩, hk9, hT1⟩; replace hO := hO.after (by (repeat (exact Upd.here))) hk9 hT1.blk; replace hT := hT1; clear hT1 hk9; have wy : IntKind.u32.wrap y = y := (by rw [IntKind.wrap_u32]; omega); have wxy : IntKind.u32.wrap (x + y) = x + y := (by rw [IntKind.wrap_u32]; omega); have wxz : (x + y) % 4294967296 = x + y := (by omega)); (try simp only []); (refine hK _ _ ?_); clear hK K))); (try simp only [Act.put]); (try simp only [sI9, sZ9, sS9])
       refine wpList_done (qk_intro ?_)
      refine wpAny_1 13 ?_
      rotate_left 1
      have ix9 := Ix.mk [6, 7]
      iterate 2 (refine wpAny_tk ix9 ?_; replace ix9 := ix9.tail; (first | go_big_quiet_skip | (go_big_quiet_want; (go_big_quiet_op; (first | go_big_quiet_on | ((refine ⟨_, fun _ _ => rfl, ?_⟩); go_big_quiet_on))))); (refine wpQuiet_nil ?_); (try simp only [Act.put]); (try simp only [sI9, sZ9, sS9]))
      clear ix9
      refine wpAny_1 13 ?_
      rotate_left 1
      all_goals
       refine wpOp_of_listL rfl ?_
       ((refine wpList_step (fun K hK => ?_)); go_simp; ((go_at_call 42; (with_reducible refine (portsO_any (by omega) (by omega) (by omega) pk _).mono ?_); rintro e wv ⟨b, rfl, gb, hb9⟩; replace hO := hO.call hb9; replace hT := (hO.tapeIn List.mem_cons_self (fun _ h => h) hT.le); clear hb9; have hn := cellsR_setR hlu (b, pk)); (try simp only []); (refine hK _ _ ?_); clear hK K))
       refine wpList_done (qk_intro ?_)
      refine wpAny_tk (Ix.mk [14]) ?_
      (first | go_big_quiet_skip | (go_big_quiet_want; (go_big_quiet_op; (first | go_big_quiet_on | ((refine ⟨_, fun _ _ => rfl, ?_⟩); go_big_quiet_on))))); (refine wpQuiet_nil ?_); (try simp only [Act.put]); (try simp only [sI9, sZ9, sS9])
      refine wpAny_1 15 ?_
      rotate_left 1
      refine wpAny_tk (Ix.mk [14]) ?_
      (first | go_big_quiet_skip | (go_big_quiet_want; (go_big_quiet_op; (first | go_big_quiet_on | ((refine ⟨_, fun _ _ => rfl, ?_⟩); go_big_quiet_on))))); (refine wpQuiet_nil ?_); (try simp only [Act.put]); (try simp only [sI9, sZ9, sS9])
      refine wpAny_1 15 ?_
      rotate_left 1
      all_goals
       refine wpOp_of_listL rfl ?_
       ((with_reducible refine is_store ?_); (go_must (refine own_stRw hO (ht := row_Rule) (h := ?_))); clear hO; intro wv hO); (try simp only [Act.put])
       refine wpList_done (qk_intro ?_)
      refine wpAny_done (by kernel_rfl) ?_ _
      rotate_left
      refine wpAny_done (by kernel_rfl) ?_ _
      rotate_left
      all_goals
       go_wp2_with fail
       go_roundw
       case rel => exact ⟨k + 1, u.set k (b, pk), _, by omega, by simpa using hu, by go_num, okT_set (r := (b, pk)) ku gb.ok, Lib.hid (fun h => (KG.out h).set k (r := (b, pk)) gb), hT.le, hO⟩
       case measure => simp [intOf]; omega
    ·have g0 : (r == 0) = false := beq_eq_false_iff_ne.2 (by omega)
     have g1 : (r == 1) = false := beq_eq_false_iff_ne.2 (by omega)
     by_cases r_3 : r = 2
     ·have g2 : (r == 2) = true := beq_iff_eq.2 r_3
      clear r_2 r_3
      by_cases hk0 : 0 < k
      ·have g3 : decide ((0 : Int) < (k : Int)) = true := decide_eq_true (by omega)
       have hk1 : 1 ≤ (k : Int) ∧ (k : Int) ≤ 50 := by omega
       go_upto_region 13 with (first | ((with_reducible refine is_load ?_); (refine own_ldQ (h := ?_))) | (go_at_call 21; (with_reducible refine (next_pos (k : Int) hZ (hO.tapeIn List.mem_cons_self (fun _ h => h) hT.le) (by omega) (by omega)).mono ?_); rintro e wv ⟨v, i1, rfl, ⟨q, rfl, q0, q1⟩, hk9, hT1⟩; replace hO := hO.after (by (repeat (exact Upd.here))) hk9 hT1.blk; replace hT := hT1; clear hT1 hk9; obtain ⟨q, rfl⟩ : (∃ q9 : Nat, q = (q9 : Int)) := ⟨q.toNat, by omega⟩; have hqu : q < u.length := (by omega); have t1 := tk_match u hqu; have hn := cellsR_setM hlu u[q].1; have kb := ku _ (List.getElem_mem hqu); have kgq := (fun h => KG.out h _ (List.getElem_mem hqu)); generalize u[q] = rq at *) | ((with_reducible refine is_store ?_); (go_must (refine own_stRw hO (h := ?_))); clear hO; intro wv hO))
       obtain ⟨u1, hu1⟩ : ∃ u1, u1 = u.set k (rq.1, u[k].2) := ⟨_, rfl⟩
       rw [← hu1] at hO
       have hl1 : k < u1.length := by rw [hu1]; simpa using hlu
       have hu1l : u1.length = u.length := by rw [hu1]; simp
       have ku1 : okT u1 := by rw [hu1]; exact okT_set (r := (rq.1, u[k].2)) ku kb
       have KG1 : Hid (GoodW true u1) := Lib.hid (fun h => by rw [hu1]; exact (KG.out h).set k (r := (rq.1, u[k].2)) (kgq (by (exact h))))
       have hs1 : k * 11 + 4 + 2 ≤ (cellsR u1).length := by rw [cellsR_length]; omega
       have hx := fun lo hi => cellsR_setF hl1 (show 2 < 5 by omega) lo hi
       clear hu1 hn
       have HX := Lib.hid hx
       clear hx
       (try simp only [Act.put])
       refine wp_region_any (by kernel_rfl) ?_
       replace hO := hO.drew
       have ix9 := Ix.mk [0, 1, 2, 5, 10, 11]
       iterate 6 (refine wpAny_tk ix9 ?_; replace ix9 := ix9.tail; (first | go_big_quiet_skip | (go_big_quiet_want; (go_big_quiet_op; (first | go_big_quiet_on | ((refine ⟨_, fun _ _ => rfl, ?_⟩); go_big_quiet_on))))); (refine wpQuiet_nil ?_); (try simp only [Act.put]); (try simp only [sI9, sZ9, sS9]))
       clear ix9
       refine wpAny_1 3 ?_
       rotate_left 1
       all_goals
        refine wpOp_of_listL rfl ?_
        ((refine wpList_step (fun K hK => ?_)); go_simp; (((fail_if_success (have := x0)); go_at_call 21; (with_reducible refine (next_pos 3 hZ (hO.tapeIn List.mem_cons_self (fun _ h => h) hT.le) (by omega) (by omega)).mono ?_); rintro e wv ⟨v, i1, rfl, ⟨x, rfl, x0, x1⟩, hk9, hT1⟩; replace hO := hO.after (by (repeat (exact Upd.here))) hk9 hT1.blk; replace hT := hT1; clear hT1 hk9; have wx : IntKind.u32.wrap x = x := (by rw [IntKind.wrap_u32]; omega)); (try simp only []); (refine hK _ _ ?_); clear hK K))
        refine wpList_done (qk_intro ?_)
       refine wpAny_tk (Ix.mk [4]) ?_
       (first | go_big_quiet_skip | (go_big_quiet_want; (go_big_quiet_op; (first | go_big_quiet_on | ((refine ⟨_, fun _ _ => rfl, ?_⟩); go_big_quiet_on))))); (refine wpQuiet_nil ?_); (try simp only [Act.put]); (try simp only [sI9, sZ9, sS9])
       refine wpAny_1 6 ?_
       rotate_left 1
       all_goals
        refine wpOp_of_listL rfl ?_
        ((refine wpList_step (fun K hK => ?_)); go_simp; ((go_at_call 21; (with_reducible refine (next_pos 3 hZ (hO.tapeIn List.mem_cons_self (fun _ h => h) hT.le) (by omega) (by omega)).mono ?_); rintro e wv ⟨v, i1, rfl, ⟨y, rfl, y0, y1⟩, hk9, hT1⟩; replace hO := hO.after (by (repeat (exact Upd.here))) hk9 hT1.blk; replace hT := hT1; clear hT1 hk9; have w2y : IntKind.i64.wrap (2 + y) = 2 + y := IntWalk.i64_in _ (by omega); have w3y : IntKind.u32.wrap (2 + y) = 2 + y := (by rw [IntKind.wrap_u32]; omega); have hn := HX.out x (2 + y)); (try simp only []); (refine hK _ _ ?_); clear hK K))
        refine wpList_done (qk_intro ?_)
       have ix9 := Ix.mk [7, 8, 9, 12]
       iterate 4 (refine wpAny_tk ix9 ?_; replace ix9 := ix9.tail; (first | go_big_quiet_skip | (go_big_quiet_want; (go_big_quiet_op; (first | go_big_quiet_on | ((refine ⟨_, fun _ _ => rfl, ?_⟩); go_big_quiet_on))))); (refine wpQuiet_nil ?_); (try simp only [Act.put]); (try simp only [sI9, sZ9, sS9]))
       clear ix9
       refine wpAny_1 13 ?_
       rotate_left 1
       all_goals
        refine wpOp_of_listL rfl ?_
        ((with_reducible refine is_store ?_); (go_must (refine own_stRw hO (h := ?_))); clear hO; intro wv hO); (try simp only [Act.put])
        refine wpList_done (qk_intro ?_)
       refine wpAny_done (by kernel_rfl) ?_ _
       rotate_left
       all_goals
        go_wp2_with fail
        go_roundw
        case rel => exact ⟨k + 1, u1.set k (u1[k].1.set 2 ⟨x, 2 + y⟩, u1[k].2), _, by omega, by simp [hu1l, hu], by go_num, okT_set (r := (u1[k].1.set 2 ⟨x, 2 + y⟩, u1[k].2)) ku1 (ok_set (ku1 _ (List.getElem_mem hl1)) _ (by omega) (by omega) (by omega) (by omega)), Lib.hid (fun h => (KG1.out h).set k (r := (u1[k].1.set 2 ⟨x, 2 + y⟩, u1[k].2)) ((KG1.out h _ (List.getElem_mem hl1)).set 2 (by omega) (by omega) (fun _ => show 2 + y ≤ 255 by omega))), hT.le, hO⟩
        case measure => simp [intOf]; omega
      ·have g3 : decide ((0 : Int) < (k : Int)) = false := decide_eq_false (by omega)
       go_wp2_with fail
       go_roundw
       case rel => exact ⟨k + 1, u, _, by omega, hu, by go_num, ku, KG, hT.le, hO⟩
       case measure => simp [intOf]; omega
     ·have g2 : (r == 2) = false := beq_eq_false_iff_ne.2 r_3
      clear r_2 r_3
      go_wp2_with fail
      go_roundw
      case rel => exact ⟨k + 1, u, _, by omega, hu, by go_num, ku, KG, hT.le, hO⟩
      case measure => simp [intOf]; omega
   ·obtain rfl : k = t.length := by omega
    go_wp2_with fail
    go_ret
    refine tpost hO List.mem_cons_self (fun _ h => h) hT.le ⟨u, isCells_table.2 ?_, ?_, ku, by omega, KG.out⟩
    ·rw [hu]; exact hO.rowIs List.mem_cons_self
    ·exact own_newT hO List.mem_cons_self (nodup_cons_row hO.nd)
def StpP (v : Value) (_ : World) : Prop := ∃ kd i j : Int, v = .agg #[.int .i64 kd, .int .i64 i, .int .i64 j]
set_option maxHeartbeats 8000000 in
theorem ostep_any {w : World} {n m : Nat} {sl : Value} {zs : List Int} {i : Nat} (hZ : ZsOk sl zs) (hT : TapeIn w n sl zs i) (hm : m ≤ 50) :
  Calls Tryz.prog 13 #[.pointer (some ⟨n, 0, none⟩), .int .i64 m] w (TPost w n sl zs StpP) := by
 have hO := own_tape hT
 have s1 : IntKind.i64.wrap ((m : Int) + 2) = (m : Int) + 2 := IntWalk.i64_in _ (by omega)
 have s2 : IntKind.i64.wrap ((m : Int) + 1) = (m : Int) + 1 := IntWalk.i64_in _ (by omega)
 go_enter Tryz.func13, Tryz.ntmps13
 go_upto_region 2 with (first | ((with_reducible refine is_store ?_); (refine own_stRQ (hO := hO) (h := ?_); clear hO; intro wv hO)) | ((with_reducible refine is_alloc ?_); (first | (refine own_alQ (o := ⟨some 4, _, _, _, _, _⟩) (hO := hO) (h := ?_); clear hO; intro n4 wv hO) | (refine own_alQ (o := ⟨some 5, _, _, _, _, _⟩) (hO := hO) (h := ?_); clear hO; intro n5 wv hO))) | ((fail_if_success (have := x0)); go_at_call 21; (with_reducible refine (next_pos 3 hZ (hO.tapeIn (by (repeat (first | exact List.mem_cons_self | refine List.mem_cons_of_mem _ ?_))) (fun _ h => h) hT.le) (by omega) (by omega)).mono ?_); rintro e wv ⟨v, i1, rfl, ⟨x, rfl, x0, x1⟩, hk9, hT1⟩; replace hO := hO.after (by (repeat (first | exact Upd.here | apply Upd.there))) hk9 hT1.blk; replace hT := hT1; clear hT1 hk9; have wx : IntKind.i64.wrap (1 + x) = 1 + x := IntWalk.i64_in _ (by omega)) | (go_at_call 21; (with_reducible refine (next_pos ((m : Int) + 2) hZ (hO.tapeIn (by (repeat (first | exact List.mem_cons_self | refine List.mem_cons_of_mem _ ?_))) (fun _ h => h) hT.le) (by omega) (by omega)).mono ?_); rintro e wv ⟨v, i1, rfl, ⟨y, rfl, y0, y1⟩, hk9, hT1⟩; replace hO := hO.after (by (repeat (first | exact Upd.here | apply Upd.there))) hk9 hT1.blk; replace hT := hT1; clear hT1 hk9; have wy : IntKind.i64.wrap (y - 1) = y - 1 := IntWalk.i64_in _ (by omega)))
 have hb1 : -1 ≤ y - 1 ∧ y - 1 ≤ 60 := by omega
 have hb2 : 1 ≤ 1 + x ∧ 1 + x ≤ 3 := by omega
 clear wx wy x0 x1 y0 y1
 generalize y - 1 = b at *
 generalize 1 + x = kd at *
 by_cases hk : kd = 2
 ·have g0 : (kd == 2) = true := beq_iff_eq.2 hk
  go_wp2_with ((with_reducible refine is_load ?_); (refine own_ldQ (h := ?_)))
  refine wp_region_any (by kernel_rfl) ?_
  replace hO := hO.drew
  have ix9 := Ix.mk [0, 2, 3, 4]
  iterate 4 (refine wpAny_tk ix9 ?_; replace ix9 := ix9.tail; (first | go_big_quiet_skip | (go_big_quiet_want; (go_big_quiet_op; (first | go_big_quiet_on | ((refine ⟨_, fun _ _ => rfl, ?_⟩); go_big_quiet_on))))); (refine wpQuiet_nil ?_); (try simp only [Act.put]); (try simp only [sI9, sZ9, sS9]))
  clear ix9
  refine wpAny_all (rs := [1, 5]) (by kernel_rfl) (by simp) (ord_cons ?_ (ord_cons ?_ ord_nil))
  rotate_left 2
  all_goals
   refine wpOp_of_listL rfl ?_
   (first | ((with_reducible refine is_load ?_); (refine own_ldQ (h := ?_))) | ((refine wpList_step (fun K hK => ?_)); go_simp; ((go_at_call 21; (with_reducible refine (next_pos ((m : Int) + 1) hZ (hO.tapeIn (by (repeat (first | exact List.mem_cons_self | refine List.mem_cons_of_mem _ ?_))) (fun _ h => h) hT.le) (by omega) (by omega)).mono ?_); rintro e wv ⟨v, i1, rfl, ⟨z, rfl, z0, z1⟩, hk9, hT1⟩; replace hO := hO.after (by (repeat (first | exact Upd.here | apply Upd.there))) hk9 hT1.blk; replace hT := hT1; clear hT1 hk9; have wz : IntKind.i64.wrap (b + z) = b + z := IntWalk.i64_in _ (by omega)); (try simp only []); (refine hK _ _ ?_); clear hK K))); (try simp only [Act.put]); (try simp only [sI9, sZ9, sS9])
   refine wpList_done (qk_intro ?_)
  refine wpAny_1 5 ?_
  rotate_left 1
  refine wpAny_1 1 ?_
  rotate_left 1
  all_goals
   refine wpOp_of_listL rfl ?_
   (first | ((with_reducible refine is_load ?_); (refine own_ldQ (h := ?_))) | ((refine wpList_step (fun K hK => ?_)); go_simp; ((go_at_call 21; (with_reducible refine (next_pos ((m : Int) + 1) hZ (hO.tapeIn (by (repeat (first | exact List.mem_cons_self | refine List.mem_cons_of_mem _ ?_))) (fun _ h => h) hT.le) (by omega) (by omega)).mono ?_); rintro e wv ⟨v, i1, rfl, ⟨z, rfl, z0, z1⟩, hk9, hT1⟩; replace hO := hO.after (by (repeat (first | exact Upd.here | apply Upd.there))) hk9 hT1.blk; replace hT := hT1; clear hT1 hk9; have wz : IntKind.i64.wrap (b + z) = b + z := IntWalk.i64_in _ (by omega)); (try simp only []); (refine hK _ _ ?_); clear hK K))); (try simp only [Act.put]); (try simp only [sI9, sZ9, sS9])
   refine wpList_done (qk_intro ?_)
  have ix9 := Ix.mk [6, 7]
  iterate 2 (refine wpAny_tk ix9 ?_; replace ix9 := ix9.tail; (first | go_big_quiet_skip | (go_big_quiet_want; (go_big_quiet_op; (first | go_big_quiet_on | ((refine ⟨_, fun _ _ => rfl, ?_⟩); go_big_quiet_on))))); (refine wpQuiet_nil ?_); (try simp only [Act.put]); (try simp only [sI9, sZ9, sS9]))
  clear ix9
  refine wpAny_1 8 ?_
  rotate_left 1
  have ix9 := Ix.mk [6, 7]
  iterate 2 (refine wpAny_tk ix9 ?_; replace ix9 := ix9.tail; (first | go_big_quiet_skip | (go_big_quiet_want; (go_big_quiet_op; (first | go_big_quiet_on | ((refine ⟨_, fun _ _ => rfl, ?_⟩); go_big_quiet_on))))); (refine wpQuiet_nil ?_); (try simp only [Act.put]); (try simp only [sI9, sZ9, sS9]))
  clear ix9
  refine wpAny_1 8 ?_
  rotate_left 1
  all_goals
   refine wpOp_of_listL rfl ?_
   ((with_reducible refine is_store ?_); (refine own_st1Q (hO := hO) (h := ?_); clear hO; intro wv hO)); (try simp only [Act.put])
   refine wpList_done (qk_intro ?_)
  refine wpAny_done (by kernel_rfl) ?_ _
  rotate_left
  refine wpAny_done (by kernel_rfl) ?_ _
  rotate_left
  all_goals
   have hb3 : -1 ≤ b + z ∧ b + z ≤ 200 := by omega
   clear wz z0 z1
   generalize b + z = c at *
   go_upto_region 5 with (go_at_call 21; (with_reducible refine (next_pos 12 hZ (hO.tapeIn (by (repeat (first | exact List.mem_cons_self | refine List.mem_cons_of_mem _ ?_))) (fun _ h => h) hT.le) (by omega) (by omega)).mono ?_); rintro e wv ⟨v, i1, rfl, ⟨r, rfl, r0, r1⟩, hk9, hT1⟩; replace hO := hO.after (by (repeat (first | exact Upd.here | apply Upd.there))) hk9 hT1.blk; replace hT := hT1; clear hT1 hk9)
   by_cases r11 : r = 11
   ·have h1 : (r == 11) = true := beq_iff_eq.2 r11
    clear r11 r0 r1
    go_wp2_with (first | ((with_reducible refine is_load ?_); (refine own_ldQ (h := ?_))) | ((with_reducible refine is_store ?_); (first | (refine own_stRQ (hO := hO) (h := ?_); clear hO; intro wv hO) | (refine own_st1Q (hO := hO) (h := ?_); clear hO; intro wv hO))) | (go_at_call 21; (with_reducible refine (next_pos 6 hZ (hO.tapeIn (by (repeat (first | exact List.mem_cons_self | refine List.mem_cons_of_mem _ ?_))) (fun _ h => h) hT.le) (by omega) (by omega)).mono ?_); rintro e wv ⟨v, i1, rfl, ⟨q, rfl, q0, q1⟩, hk9, hT1⟩; replace hO := hO.after (by (repeat (first | exact Upd.here | apply Upd.there))) hk9 hT1.blk; replace hT := hT1; clear hT1 hk9; have wq : IntKind.i64.wrap (q - 1) = q - 1 := IntWalk.i64_in _ (by omega)))
    exact bodyPost_ret (own_res_cell hO Tryz.results13 rfl (by (repeat (first | exact List.mem_cons_self | refine List.mem_cons_of_mem _ ?_))) (by (exact row_len (by (with_reducible (exact row_Step))) (by rfl))) rfl) rfl (tpost hO (by (repeat (first | exact List.mem_cons_self | refine List.mem_cons_of_mem _ ?_))) (fun _ h => h) hT.le ⟨_, _, _, rfl⟩)
   ·have h1 : (r == 11) = false := beq_eq_false_iff_ne.2 r11
    by_cases r10 : r = 10
    ·have h2 : (r == 10) = true := beq_iff_eq.2 r10
     have wc : IntKind.i64.wrap (c + 1) = c + 1 := IntWalk.i64_in _ (by omega)
     clear r11 r10 r0 r1
     go_wp2_with (first | ((with_reducible refine is_load ?_); (refine own_ldQ (h := ?_))) | ((with_reducible refine is_store ?_); (first | (refine own_stRQ (hO := hO) (h := ?_); clear hO; intro wv hO) | (refine own_st1Q (hO := hO) (h := ?_); clear hO; intro wv hO))))
     exact bodyPost_ret (own_res_cell hO Tryz.results13 rfl (by (repeat (first | exact List.mem_cons_self | refine List.mem_cons_of_mem _ ?_))) (by (exact row_len (by (with_reducible (exact row_Step))) (by rfl))) rfl) rfl (tpost hO (by (repeat (first | exact List.mem_cons_self | refine List.mem_cons_of_mem _ ?_))) (fun _ h => h) hT.le ⟨_, _, _, rfl⟩)
    ·have h2 : (r == 10) = false := beq_eq_false_iff_ne.2 r10
     clear r11 r10 r0 r1
     go_wp2_with (first | ((with_reducible refine is_load ?_); (refine own_ldQ (h := ?_))) | ((with_reducible refine is_store ?_); (refine own_stRQ (hO := hO) (h := ?_); clear hO; intro wv hO)))
     exact bodyPost_ret (own_res_cell hO Tryz.results13 rfl (by (repeat (first | exact List.mem_cons_self | refine List.mem_cons_of_mem _ ?_))) (by (exact row_len (by (with_reducible (exact row_Step))) (by rfl))) rfl) rfl (tpost hO (by (repeat (first | exact List.mem_cons_self | refine List.mem_cons_of_mem _ ?_))) (fun _ h => h) hT.le ⟨_, _, _, rfl⟩)
 ·have g0 : (kd == 2) = false := beq_eq_false_iff_ne.2 hk
  have hb3 : (-1 : Int) ≤ 0 ∧ (0 : Int) ≤ 200 := by omega
  go_upto_region 4 with ((with_reducible refine is_load ?_); (refine own_ldQ (h := ?_)))
  go_upto_region 5 with (go_at_call 21; (with_reducible refine (next_pos 12 hZ (hO.tapeIn (by (repeat (first | exact List.mem_cons_self | refine List.mem_cons_of_mem _ ?_))) (fun _ h => h) hT.le) (by omega) (by omega)).mono ?_); rintro e wv ⟨v, i1, rfl, ⟨r, rfl, r0, r1⟩, hk9, hT1⟩; replace hO := hO.after (by (repeat (first | exact Upd.here | apply Upd.there))) hk9 hT1.blk; replace hT := hT1; clear hT1 hk9)
  by_cases r11 : r = 11
  ·have h1 : (r == 11) = true := beq_iff_eq.2 r11
   clear r11 r0 r1
   go_wp2_with (first | ((with_reducible refine is_load ?_); (refine own_ldQ (h := ?_))) | ((with_reducible refine is_store ?_); (first | (refine own_stRQ (hO := hO) (h := ?_); clear hO; intro wv hO) | (refine own_st1Q (hO := hO) (h := ?_); clear hO; intro wv hO))) | (go_at_call 21; (with_reducible refine (next_pos 6 hZ (hO.tapeIn (by (repeat (first | exact List.mem_cons_self | refine List.mem_cons_of_mem _ ?_))) (fun _ h => h) hT.le) (by omega) (by omega)).mono ?_); rintro e wv ⟨v, i1, rfl, ⟨q, rfl, q0, q1⟩, hk9, hT1⟩; replace hO := hO.after (by (repeat (first | exact Upd.here | apply Upd.there))) hk9 hT1.blk; replace hT := hT1; clear hT1 hk9; have wq : IntKind.i64.wrap (q - 1) = q - 1 := IntWalk.i64_in _ (by omega)))
   exact bodyPost_ret (own_res_cell hO Tryz.results13 rfl (by (repeat (first | exact List.mem_cons_self | refine List.mem_cons_of_mem _ ?_))) (by (exact row_len (by (with_reducible (exact row_Step))) (by rfl))) rfl) rfl (tpost hO (by (repeat (first | exact List.mem_cons_self | refine List.mem_cons_of_mem _ ?_))) (fun _ h => h) hT.le ⟨_, _, _, rfl⟩)
  ·have h1 : (r == 11) = false := beq_eq_false_iff_ne.2 r11
   by_cases r10 : r = 10
   ·have h2 : (r == 10) = true := beq_iff_eq.2 r10
    have wc : IntKind.i64.wrap (0 + 1) = 0 + 1 := IntWalk.i64_in _ (by omega)
    clear r11 r10 r0 r1
    go_wp2_with (first | ((with_reducible refine is_load ?_); (refine own_ldQ (h := ?_))) | ((with_reducible refine is_store ?_); (first | (refine own_stRQ (hO := hO) (h := ?_); clear hO; intro wv hO) | (refine own_st1Q (hO := hO) (h := ?_); clear hO; intro wv hO))))
    exact bodyPost_ret (own_res_cell hO Tryz.results13 rfl (by (repeat (first | exact List.mem_cons_self | refine List.mem_cons_of_mem _ ?_))) (by (exact row_len (by (with_reducible (exact row_Step))) (by rfl))) rfl) rfl (tpost hO (by (repeat (first | exact List.mem_cons_self | refine List.mem_cons_of_mem _ ?_))) (fun _ h => h) hT.le ⟨_, _, _, rfl⟩)
   ·have h2 : (r == 10) = false := beq_eq_false_iff_ne.2 r10
    clear r11 r10 r0 r1
    go_wp2_with (first | ((with_reducible refine is_load ?_); (refine own_ldQ (h := ?_))) | ((with_reducible refine is_store ?_); (refine own_stRQ (hO := hO) (h := ?_); clear hO; intro wv hO)))
    exact bodyPost_ret (own_res_cell hO Tryz.results13 rfl (by (repeat (first | exact List.mem_cons_self | refine List.mem_cons_of_mem _ ?_))) (by (exact row_len (by (with_reducible (exact row_Step))) (by rfl))) rfl) rfl (tpost hO (by (repeat (first | exact List.mem_cons_self | refine List.mem_cons_of_mem _ ?_))) (fun _ h => h) hT.le ⟨_, _, _, rfl⟩)
end Go.Proofs.YtbdfblgdmappeaaGreatDoor
