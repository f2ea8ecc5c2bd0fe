/- OptimizeFinds: the walk. -/
import Derived.Deep.CutRange
import Derived.Deep.DeepCutAuto
import Derived.Test.YtbdfblgdmappeaaGreatDoorQN
import Derived.Test.YtbdfblgdmappeaaGreatDoorQM
import Derived.Test.YtbdfblgdmappeaaGreatDoorQK
import Derived.Test.YtbdfblgdmappeaaGreatDoorQB
import Derived.Test.YtbdfblgdmappeaaGreatDoorMB
namespace Go.Proofs.YtbdfblgdmappeaaGreatDoor
open Go.RowKit
set_option maxRecDepth 100000
section
variable (w : World)
theorem stoodS : (Tryz.prog).stoodInHeld 26 = false := by kernel_rfl
theorem fieldsS : (Tryz.prog).underlying 26 = some (.struct ((Tryz.prog).fieldsOf 26)) := by kernel_rfl
theorem eq_stp (d : Nat) (g h : Stp) : (Op.equalIn (d + 1 + 1) 26 (.agg #[.int .i64 g.1, .int .i64 g.2.1, .int .i64 g.2.2]) (.agg #[.int .i64 h.1, .int .i64 h.2.1, .int .i64 h.2.2])).run Tryz.prog w = .ok (decide (g = h)) w := by
 rw [run_equalIn_struct w (d + 1) _ _ _ fieldsS stoodS]
 obtain ⟨g0, g1, g2⟩ := g
 obtain ⟨h0, h1, h2⟩ := h
 by_cases e0 : g0 = h0 <;> by_cases e1 : g1 = h1 <;> by_cases e2 : g2 = h2 <;> simp [go_sem, Tryz.underlying26, Tryz.underlying3, e0, e1, e2]
theorem run_neq_stp (g : Stp) : (binOp .neq 26 (.agg #[.int .i64 g.1, .int .i64 g.2.1, .int .i64 g.2.2]) (.agg #[.int .i64 g.1, .int .i64 g.2.1, .int .i64 g.2.2])).run Tryz.prog w = .ok (.bool false) w := by
 rw [run_neq_struct]
 rw [show (10000 : Nat) = 9998 + 1 + 1 from rfl, eq_stp, Result.andThen_ok]
 simp
theorem guard_stp (op : BinOp) (x y : Operand) (u v : Array Value) : (eqGuard op 26 x y (.agg u) (.agg v)).run Tryz.prog w = .ok () w := run_eqGuard_agg w op _ x y u v (by kernel_rfl)
end
attribute [go_sem high] run_neq_stp guard_stp
set_option maxHeartbeats 4000000 in
theorem same36_self (v u : Value) (l : List Stp) (w : World) (hv : IsSteps w v l) (hu : IsSteps w u l) (hm : l.length ≤ 20) :
  Calls Tryz.prog 20 #[v, u] w fun e w' => e = .returned (.bool true) ∧ Below w.heap.size w w' := by
 have hO := (own_argQ hv).addC2 (B := 0) (fun g hg => by simp [excl] at hg) hu (fun _ _ => Nat.zero_le _)
 obtain ⟨a, c, rfl, ha⟩ := hv.view
 obtain ⟨a2, c2, rfl, ha2⟩ := hu.view
 clear hv hu
 go_enter Tryz.func20, Tryz.ntmps20
 go_wp2_with fail
 go_loopw [5] (fun i wr => ∃ k : Nat, k ≤ l.length ∧ i = .int .i64 k ∧ Own [] w [] [] (roS (.slice a2 l.length c2) (cellsQ l) ++ roS (.slice a l.length c) (cellsQ l)) wr) (fun i _ => l.length - (intOf i).toNat)
 case atStart => exact ⟨0, by omega, rfl, hO⟩
 case round =>
  clear hO
  obtain ⟨k, hk, rfl, hO⟩ := hrel
  have s1 : IntKind.i64.wrap ((k : Int) + 1) = (k : Int) + 1 := IntWalk.i64_in _ (by omega)
  by_cases hlt : k < l.length
  ·have g1 : decide ((k : Int) < (l.length : Int)) = true := decide_eq_true (by omega)
   obtain ⟨g, o, rfl⟩ := ha (by omega)
   obtain ⟨g2, o2, rfl⟩ := ha2 (by omega)
   simp only [roS, List.cons_append, List.nil_append] at hO
   have t1 : List.take [Value.int .i64 l[k].1, .int .i64 l[k].2.1, .int .i64 l[k].2.2].length (List.drop (k * 3) (cellsQ l)) = [Value.int .i64 l[k].1, .int .i64 l[k].2.1, .int .i64 l[k].2.2] := tk_step l hlt
   generalize l[k] = s at *
   go_wp2_with fail
   (refine own_quiet hO (by kernel_rfl) (by kernel_rfl) ?_; clear hO; (repeat (go_big_quiet_want; (first | ((with_reducible refine is_loadQ ?_); (refine q_ldQ (h := ?_)); (try simp only [Act.put]); (try simp only [sI9, sZ9, sS9]); go_big_quiet_on) | (go_big_quiet_op; (first | go_big_quiet_on | ((refine ⟨_, fun _ _ => rfl, ?_⟩); go_big_quiet_on)))))); (refine wpQuiet_nil ?_); intro wv hO)
   go_wp2_with fail
   go_roundw
   case rel => exact ⟨k + 1, by omega, by go_num, hO⟩
   case measure => simp [intOf]; omega
  ·obtain rfl : k = l.length := by omega
   have g1 : decide ((l.length : Int) < (l.length : Int)) = false := decide_eq_false (by omega)
   go_wp2_with fail
   go_ret
   exact ⟨rfl, hO.keep.below⟩
theorem opF_short {cf : Bx → Int} {t u : List Rul} {l m : List Stp} (h : opF cf t l = some (u, m)) : u.length ≤ t.length ∧ m.length + u.length = l.length + t.length := by
 rw [opF] at h
 split at h
 ·cases h
 ·split at h
  ·rename_i hd
   have := opF_short h
   simp only [List.length_append, List.length_cons, List.length_nil] at this
   rename_i i hi
   obtain ⟨-, hiu, -⟩ := drF_some hi
   rw [woF_length hiu] at this
   omega
  ·cases h
 ·split at h
  ·cases h; omega
  ·rename_i ij hij
   split at h
   ·rename_i hd
    have := opF_short h
    simp only [List.length_append, List.length_cons, List.length_nil] at this
    obtain ⟨-, h1, h2, -, -⟩ := miF_some hij
    rw [(mergT_facts h1 h2).1] at this
    omega
   ·cases h
termination_by t.length
theorem opR_short {cf : Bx → Int} {t : List Rul} (hl : t.length ≤ 20) : (opR cf t).1.length ≤ 20 ∧ (opR cf t).2.1.length ≤ 20 := by
 unfold opR
 split
 ·split
  ·simp
  ·rename_i x hx
   obtain ⟨u, m⟩ := x
   have := opF_short hx
   simp only [List.length_nil] at this
   dsimp only
   omega
 ·simp
theorem Own.isStm {M : List Nat} {w0 w : World} {X : List Chunk} {R : List Row} {S : List Ro} (hO : Own M w0 X R S w) {v : Value} {l : List Stp} (hf : FormC v l.length) (hS : ∀ s ∈ roS v (cellsQ l), s ∈ S := by intro q hq; repeat (first | exact hq | exact List.mem_append_left _ hq | apply List.mem_append_right | apply List.mem_cons_of_mem)) : IsSteps w v l := hO.isC hf (fun h => cellsQ_nil h) hS
set_option maxHeartbeats 16000000 in
theorem opfinds_law (sl : Value) (zs : List Int) (vx : Value) (x : List Rul) (rg : Bool) (w : World) (ht : Tops w) (hw : Wid w) (hZ : ZsOk sl zs) (hr : ∀ s ∈ roS sl (ints zs), w.rangeAt s.g s.o s.xs) (hvx : IsTable w vx x) (kx : okT x) :
  Calls Tryz.prog 4 #[sl, vx, .bool rg] w fun e w' => e = .returned (.bool true) ∧ Below w.heap.size w w' := by
 have hO := (own_law hr).addTable hvx
 clear hr
 obtain ⟨sa, sc, rfl, -⟩ := hZ.view
 have hfx := hvx.form
 obtain ⟨ax, cx, rfl, -⟩ := hvx.view
 clear hvx
 go_enter Tryz.func4, Tryz.ntmps4
 go_wp2_with (go_at_call 11; (with_reducible refine (new_any _ _ _).mono ?_); rintro e wv ⟨n, rfl, hB, hn, hb⟩; replace hO := hO.gain hb hB hn; have hT := hO.tapeIn List.mem_cons_self (by (intro s hs; repeat (first | exact hs | apply List.mem_append_right))) (Nat.zero_le _); clear hb hB hn)
 go_loopg [8] 4 (fun gk q wr => ∃ i i1 : Nat, i ≤ 3 ∧ 4 - i ≤ gk ∧ q = .int .i64 i ∧ i1 ≤ zs.length ∧ Own [] w [⟨n, tcs (.slice sa zs.length sc) i1, 93⟩] [] (roS (.slice ax x.length cx) (cellsR x) ++ roS (.slice sa zs.length sc) (ints zs)) wr)
 case atStart => exact ⟨0, _, by omega, by omega, rfl, hT.le, hO⟩
 case round =>
  clear hO hT
  obtain ⟨i, i1, hi, hgk, rfl, hi1, hO⟩ := hrel
  have hT := hO.tapeIn List.mem_cons_self (by intro s hs; repeat (first | exact hs | apply List.mem_append_right)) hi1
  have s1 : IntKind.i64.wrap ((i : Int) + 1) = (i : Int) + 1 := IntWalk.i64_in _ (by omega)
  by_cases hlt : i < 3
  ·have g1 : decide ((i : Int) < 3) = true := decide_eq_true (by omega)
   by_cases h5 : i = 2 ∧ x.length ≤ 5
   ·obtain ⟨h5, h6⟩ := h5
    have g2 : ((i : Int) == 2) = true := beq_iff_eq.2 (by omega)
    have g3 : decide ((x.length : Int) ≤ 5) = true := decide_eq_true (by omega)
    have nr := opR_short (cf := cosF rg) (t := x) (by omega)
    clear h5
    go_wp2_with (first | (go_at_call 12; (with_reducible refine (otable_any 5 true hZ (hO.tapeIn List.mem_cons_self (by (intro s hs; repeat (first | exact hs | apply List.mem_append_right))) hT.le) (by omega) (by omega)).mono ?_); rintro e wv ⟨vy, i1, rfl, ⟨y, hv9, hn9, ky, ny, -⟩, hk9, hT1⟩; have hoff9 := off_of_new hO hn9; replace hO := hO.after (by (repeat (exact Upd.here))) hk9 hT1.blk; replace hT := hT1; clear hT1 hk9; have hfy := hv9.form; obtain ⟨ay, cy, rfl, hay, hO⟩ := own_offRS hO ⟨hv9, hoff9⟩; clear hv9 hn9 hoff9) | (go_at_call 18; (with_reducible refine (oOptimize_any (costC rg) (t := x) _ (hO.tops ht (by simp)) (hO.wid hw (by simp)) (hO.isRm hfx) kx (by omega)).mono ?_); rintro e wv ⟨v3, r3, rfl, hv9, hn9, hr9, hs9, hb9⟩; have hf3 := hv9.form; have hg3 := isCells_form hr9; have hO8 := hO.gainR hb9 hv9 hn9; replace hO := hO8.addC2 hO.lt hr9 hs9; clear hO8 hb9 hv9 hn9 hr9 hs9; replace hT := (hO.tapeIn List.mem_cons_self (by (intro s hs; repeat (first | exact hs | apply List.mem_append_right))) hT.le); have e2 := bne_self_eq_false (opR (cosF rg) x).2.2) | (go_at_call 19; (with_reducible refine (rOptimize_any (costR rg) (t := x) _ (hO.isRm hfx) kx (by omega)).mono ?_); rintro e wv ⟨v4, r4, rfl, hv9, hn9, hr9, hs9, hb9⟩; have hf4 := hv9.form; have hg4 := isCells_form hr9; have hO8 := hO.gainR hb9 hv9 hn9; replace hO := hO8.addC2 hO.lt hr9 hs9; clear hO8 hb9 hv9 hn9 hr9 hs9; replace hT := (hO.tapeIn List.mem_cons_self (by (intro s hs; repeat (first | exact hs | apply List.mem_append_right))) hT.le)) | (go_at_call 16; (with_reducible refine (same8_self _ _ (opR (cosF rg) x).1 _ (hO.isRm hf3) (hO.isRm hf4) nr.1).mono ?_); rintro e wv ⟨rfl, hb9⟩; replace hO := hO.call hb9; clear hb9; replace hT := (hO.tapeIn List.mem_cons_self (by (intro s hs; repeat (first | exact hs | apply List.mem_append_right))) hT.le)) | (go_at_call 20; (with_reducible refine (same36_self _ _ (opR (cosF rg) x).2.1 _ (hO.isStm hg3) (hO.isStm hg4) nr.2).mono ?_); rintro e wv ⟨rfl, hb9⟩; replace hO := hO.call hb9; clear hb9; replace hT := (hO.tapeIn List.mem_cons_self (by (intro s hs; repeat (first | exact hs | apply List.mem_append_right))) hT.le)))
    go_roundg (3 - i)
    case measure => omega
    case rel => exact ⟨i + 1, _, by omega, by omega, by go_num, hT.le, hO.sub (by repeat (exact List.Sublist.refl _)) (.refl _) (fun q hq => by repeat (first | exact hq | apply List.mem_append_right))⟩
   ·by_cases h5a : i = 2
    ·have g2 : ((i : Int) == 2) = true := beq_iff_eq.2 (by omega)
     have g3 : decide ((x.length : Int) ≤ 5) = false := decide_eq_false (by omega)
     clear h5 h5a
     go_wp2_with (first | (go_at_call 12; (with_reducible refine (otable_any 5 true hZ (hO.tapeIn List.mem_cons_self (by (intro s hs; repeat (first | exact hs | apply List.mem_append_right))) hT.le) (by omega) (by omega)).mono ?_); rintro e wv ⟨vy, i1, rfl, ⟨y, hv9, hn9, ky, ny, -⟩, hk9, hT1⟩; have hoff9 := off_of_new hO hn9; replace hO := hO.after (by (repeat (exact Upd.here))) hk9 hT1.blk; replace hT := hT1; clear hT1 hk9; have hfy := hv9.form; obtain ⟨ay, cy, rfl, hay, hO⟩ := own_offRS hO ⟨hv9, hoff9⟩; clear hv9 hn9 hoff9; have nr := opR_short (cf := cosF rg) (t := y) (by omega)) | (go_at_call 18; (with_reducible refine (oOptimize_any (costC rg) (t := y) _ (hO.tops ht (by simp)) (hO.wid hw (by simp)) (hO.isRm hfy) ky (by omega)).mono ?_); rintro e wv ⟨v3, r3, rfl, hv9, hn9, hr9, hs9, hb9⟩; have hf3 := hv9.form; have hg3 := isCells_form hr9; have hO8 := hO.gainR hb9 hv9 hn9; replace hO := hO8.addC2 hO.lt hr9 hs9; clear hO8 hb9 hv9 hn9 hr9 hs9; replace hT := (hO.tapeIn List.mem_cons_self (by (intro s hs; repeat (first | exact hs | apply List.mem_append_right))) hT.le); have e2 := bne_self_eq_false (opR (cosF rg) y).2.2) | (go_at_call 19; (with_reducible refine (rOptimize_any (costR rg) (t := y) _ (hO.isRm hfy) ky (by omega)).mono ?_); rintro e wv ⟨v4, r4, rfl, hv9, hn9, hr9, hs9, hb9⟩; have hf4 := hv9.form; have hg4 := isCells_form hr9; have hO8 := hO.gainR hb9 hv9 hn9; replace hO := hO8.addC2 hO.lt hr9 hs9; clear hO8 hb9 hv9 hn9 hr9 hs9; replace hT := (hO.tapeIn List.mem_cons_self (by (intro s hs; repeat (first | exact hs | apply List.mem_append_right))) hT.le)) | (go_at_call 16; (with_reducible refine (same8_self _ _ (opR (cosF rg) y).1 _ (hO.isRm hf3) (hO.isRm hf4) nr.1).mono ?_); rintro e wv ⟨rfl, hb9⟩; replace hO := hO.call hb9; clear hb9; replace hT := (hO.tapeIn List.mem_cons_self (by (intro s hs; repeat (first | exact hs | apply List.mem_append_right))) hT.le)) | (go_at_call 20; (with_reducible refine (same36_self _ _ (opR (cosF rg) y).2.1 _ (hO.isStm hg3) (hO.isStm hg4) nr.2).mono ?_); rintro e wv ⟨rfl, hb9⟩; replace hO := hO.call hb9; clear hb9; replace hT := (hO.tapeIn List.mem_cons_self (by (intro s hs; repeat (first | exact hs | apply List.mem_append_right))) hT.le)))
     go_roundg (3 - i)
     case measure => omega
     case rel => exact ⟨i + 1, _, by omega, by omega, by go_num, hT.le, hO.sub (by repeat (exact List.Sublist.refl _)) (.refl _) (fun q hq => by repeat (first | exact hq | apply List.mem_append_right))⟩
    ·have g2 : ((i : Int) == 2) = false := beq_eq_false_iff_ne.2 (by omega)
     clear h5 h5a
     go_wp2_with (first | (go_at_call 12; (with_reducible refine (otable_any 5 true hZ (hO.tapeIn List.mem_cons_self (by (intro s hs; repeat (first | exact hs | apply List.mem_append_right))) hT.le) (by omega) (by omega)).mono ?_); rintro e wv ⟨vy, i1, rfl, ⟨y, hv9, hn9, ky, ny, -⟩, hk9, hT1⟩; have hoff9 := off_of_new hO hn9; replace hO := hO.after (by (repeat (exact Upd.here))) hk9 hT1.blk; replace hT := hT1; clear hT1 hk9; have hfy := hv9.form; obtain ⟨ay, cy, rfl, hay, hO⟩ := own_offRS hO ⟨hv9, hoff9⟩; clear hv9 hn9 hoff9; have nr := opR_short (cf := cosF rg) (t := y) (by omega)) | (go_at_call 18; (with_reducible refine (oOptimize_any (costC rg) (t := y) _ (hO.tops ht (by simp)) (hO.wid hw (by simp)) (hO.isRm hfy) ky (by omega)).mono ?_); rintro e wv ⟨v3, r3, rfl, hv9, hn9, hr9, hs9, hb9⟩; have hf3 := hv9.form; have hg3 := isCells_form hr9; have hO8 := hO.gainR hb9 hv9 hn9; replace hO := hO8.addC2 hO.lt hr9 hs9; clear hO8 hb9 hv9 hn9 hr9 hs9; replace hT := (hO.tapeIn List.mem_cons_self (by (intro s hs; repeat (first | exact hs | apply List.mem_append_right))) hT.le); have e2 := bne_self_eq_false (opR (cosF rg) y).2.2) | (go_at_call 19; (with_reducible refine (rOptimize_any (costR rg) (t := y) _ (hO.isRm hfy) ky (by omega)).mono ?_); rintro e wv ⟨v4, r4, rfl, hv9, hn9, hr9, hs9, hb9⟩; have hf4 := hv9.form; have hg4 := isCells_form hr9; have hO8 := hO.gainR hb9 hv9 hn9; replace hO := hO8.addC2 hO.lt hr9 hs9; clear hO8 hb9 hv9 hn9 hr9 hs9; replace hT := (hO.tapeIn List.mem_cons_self (by (intro s hs; repeat (first | exact hs | apply List.mem_append_right))) hT.le)) | (go_at_call 16; (with_reducible refine (same8_self _ _ (opR (cosF rg) y).1 _ (hO.isRm hf3) (hO.isRm hf4) nr.1).mono ?_); rintro e wv ⟨rfl, hb9⟩; replace hO := hO.call hb9; clear hb9; replace hT := (hO.tapeIn List.mem_cons_self (by (intro s hs; repeat (first | exact hs | apply List.mem_append_right))) hT.le)) | (go_at_call 20; (with_reducible refine (same36_self _ _ (opR (cosF rg) y).2.1 _ (hO.isStm hg3) (hO.isStm hg4) nr.2).mono ?_); rintro e wv ⟨rfl, hb9⟩; replace hO := hO.call hb9; clear hb9; replace hT := (hO.tapeIn List.mem_cons_self (by (intro s hs; repeat (first | exact hs | apply List.mem_append_right))) hT.le)))
     go_roundg (3 - i)
     case measure => omega
     case rel => exact ⟨i + 1, _, by omega, by omega, by go_num, hT.le, hO.sub (by repeat (exact List.Sublist.refl _)) (.refl _) (fun q hq => by repeat (first | exact hq | apply List.mem_append_right))⟩
  ·have g1 : decide ((i : Int) < 3) = false := decide_eq_false (by omega)
   go_wp2_with (go_at_call 17; (with_reducible refine (sane36_any _ (hO.tops ht (by simp)) (hO.wid hw (by simp))).mono ?_); rintro e wv ⟨rfl, hb9⟩; replace hO := hO.call hb9; clear hb9)
   go_ret
   exact ⟨rfl, hO.keep.below⟩
end Go.Proofs.YtbdfblgdmappeaaGreatDoor
