/- The reference's Subset; the law's helper combines. -/
import Derived.Test.YtbdfblgdmappeaaGreatDoorOA
import Derived.Test.YtbdfblgdmappeaaGreatDoorMV
import Derived.Test.YtbdfblgdmappeaaGreatDoorOB
import Derived.Test.YtbdfblgdmappeaaGreatDoorRA
namespace Go.Proofs.YtbdfblgdmappeaaGreatDoor
open Go.RowKit
set_option maxRecDepth 100000
set_option maxHeartbeats 4000000 in
theorem rsubset_any {va vb : Value} {la lb : List Bx} (w : World) (hva : IsBoxes w va la) (hvb : IsBoxes w vb lb) (ka : okL la) (kb : okL lb) (na : la.length ≤ 1000000000) (nb : lb.length ≤ 1000000000) (hD : (canonF exB 0 5 (valF la) (valF lb)).length ≤ 10000000000) :
  Calls Tryz.prog 82 #[va, vb] w fun e w' => e = .returned (.bool (canonF exB 0 5 (valF la) (valF lb)).isEmpty) ∧ Below w.heap.size w w' := by
 have hO := own_start [] w
 have h0a := fun w hv => rvals_any (vl := va) (l := la) w hv (by omega)
 have h0b := fun w hv => rvals_any (vl := vb) (l := lb) w hv (by omega)
 have nA := valF_le la
 have nB := valF_le lb
 have h1 : ∀ (v1 v2 : Value) (w : World), IsBoxes w v1 (valF la) → IsBoxes w v2 (valF lb) → Calls Tryz.prog 135 #[v1, v2, .int .i64 2, .int .i64 0] w (RetBoxes w (canonF exB 0 5 (valF la) (valF lb))) := fun v1 v2 w h1 h2 => rrests_any opr_ex 5 0 rfl v1 v2 (valF la) (valF lb) w h1 h2 (valF_vL ka) (valF_vL kb) (by omega) (by omega) (by omega)
 clear hD
 generalize canonF exB 0 5 (valF la) (valF lb) = D at *
 generalize valF la = A at *
 generalize valF lb = B at *
 have hE : ((D.length : Int) == 0) = D.isEmpty := by cases D <;> simp <;> omega
 generalize D.isEmpty = b at *
 go_enter Tryz.func82, Tryz.ntmps82
 go_wp2_with (first | (go_at_call 142; (with_reducible refine (h0a _ (hva.keep0 hO)).mono ?_); rintro e wv ⟨v1, rfl, ⟨hv9, hn9⟩, hb9⟩; have hf1 := hv9.form; replace hO := hO.gainB hb9 hv9 hn9; clear hb9 hv9 hn9 h0a) | (go_at_call 142; (with_reducible refine (h0b _ (hvb.keep0 hO)).mono ?_); rintro e wv ⟨v2, rfl, ⟨hv9, hn9⟩, hb9⟩; have hf2 := hv9.form; replace hO := hO.gainB hb9 hv9 hn9; clear hb9 hv9 hn9 h0b) | (go_at_call 135; (with_reducible refine (h1 _ _ _ (hO.isB hf1 (fun q hq => List.mem_append_right _ (List.mem_append_left _ hq))) (hO.isB hf2 (fun q hq => List.mem_append_left _ hq))).mono ?_); rintro e wv ⟨v3, rfl, ⟨hv9, hn9⟩, hb9⟩; obtain ⟨a3, c3, rfl, -⟩ := hv9.form.view; replace hO := hO.call hb9; clear hb9 hv9 hn9))
 go_ret
 exact ⟨rfl, hO.keep.below⟩
theorem ofF_len {op : Bool → Bool → Bool} {la lb : List Bx} (ka : okL la) (kb : okL lb) : ((ofF op la lb).getD []).length ≤ 9223372036854775806 := by
 cases h : ofF op la lb with
 | none => simp
 | some z => exact Nat.le_trans (ofF_isSet ka kb h).2.1 (by omega)
set_option maxHeartbeats 8000000 in
theorem combines_any {va vb : Value} {la lb : List Bx} {N M : Nat} (w : World) (ht : Tops w) (hva : IsBoxes w va la) (hvb : IsBoxes w vb lb) (ka : okL la) (kb : okL lb) (na : la.length ≤ 1000000000) (nb : lb.length ≤ 1000000000) (hN : Ends N la) (hM : Ends M lb) (hN45 : N ≤ 45) (hM45 : M ≤ 45) :
  Calls Tryz.prog 34 #[va, vb] w fun e w' => e = .returned (.bool true) ∧ Below w.heap.size w w' := by
 have hO := own_start [] w
 have u1 := fun w ht hva hvb => psUnion_any (va := va) (vb := vb) (la := la) (lb := lb) w ht hva hvb ka kb (by omega) (by omega)
 have u2 := fun w hva hvb => runion4_any (va := va) (vb := vb) (la := la) (lb := lb) w hva hvb ka kb na nb hN hM hN45 hM45
 have i1 := fun w ht hva hvb => psIntersect_any (va := va) (vb := vb) (la := la) (lb := lb) w ht hva hvb ka kb (by omega) (by omega)
 have i2 := fun w hva hvb => rinter4_any (va := va) (vb := vb) (la := la) (lb := lb) w hva hvb ka kb na nb hN hM hN45 hM45
 have d1 := fun w ht hva hvb => psSubtract_any (va := va) (vb := vb) (la := la) (lb := lb) w ht hva hvb ka kb (by omega) (by omega)
 have d2 := fun w hva hvb => rsub4_any (va := va) (vb := vb) (la := la) (lb := lb) w hva hvb ka kb na nb hN hM hN45 hM45
 have s1 := fun w ht hva hvb => psSubset_any (va := va) (vb := vb) (la := la) (lb := lb) w ht hva hvb ka kb (by omega) (by omega)
 have hv9 : ∀ {K : Nat} {l : List Bx}, Ends K l → Ends K (valF l) := fun h => by
  obtain ⟨e, he⟩ := h.at
  exact EndsAt.ends fun k hk => ⟨(he k hk).1, fun b hb => (he k hk).2 b (List.mem_filter.1 hb).1⟩
 have s2 := fun w hva hvb => rsubset_any (va := va) (vb := vb) (la := la) (lb := lb) w hva hvb ka kb na nb (canon_small10 (hv9 hN) (hv9 hM) (by omega))
 have n1 := ofF_len (op := orB) ka kb
 have n2 := ofF_len (op := andB) ka kb
 have n3 := ofF_len (op := exB) ka kb
 clear hv9
 generalize ofF orB la lb = RU at *
 generalize ofF andB la lb = RI at *
 generalize ofF exB la lb = RD at *
 generalize (canonF exB 0 5 (valF la) (valF lb)).isEmpty = b at *
 have g1 := fun v u w hv hu => rsame4_any v u (RU.getD []) w hv hu n1
 have g2 := fun v u w hv hu => rsame4_any v u (RI.getD []) w hv hu n2
 have g3 := fun v u w hv hu => rsame4_any v u (RD.getD []) w hv hu n3
 have e1 : (ecd RU == ecd RU) = true := beq_self_eq_true _
 have e2 : (ecd RI == ecd RI) = true := beq_self_eq_true _
 have e3 : (ecd RD == ecd RD) = true := beq_self_eq_true _
 have e4 : (b == b) = true := beq_self_eq_true _
 clear hN hM
 go_enter Tryz.func34, Tryz.ntmps34
 go_wp2_with (first | (go_at_call 74; (with_reducible refine (u1 _ (hO.tops ht (by simp)) (hva.keep0 hO) (hvb.keep0 hO)).mono ?_); rintro e wv hpo; obtain ⟨v1, rfl, hv9, hn9, hb9⟩ := hpo.uni; have f1 := hv9.form; replace hO := hO.gainB hb9 hv9 hn9; clear hb9 hv9 hn9 hpo) | (go_at_call 75; (with_reducible refine (u2 _ (hva.keep0 hO) (hvb.keep0 hO)).mono ?_); rintro e wv hpo; obtain ⟨v2, rfl, hv9, hn9, hb9⟩ := hpo.uni; have f2 := hv9.form; replace hO := hO.gainB hb9 hv9 hn9; clear hb9 hv9 hn9 hpo) | (go_at_call 76; (with_reducible refine (i1 _ (hO.tops ht (by simp)) (hva.keep0 hO) (hvb.keep0 hO)).mono ?_); rintro e wv hpo; obtain ⟨v3, rfl, hv9, hn9, hb9⟩ := hpo.uni; have f3 := hv9.form; replace hO := hO.gainB hb9 hv9 hn9; clear hb9 hv9 hn9 hpo) | (go_at_call 77; (with_reducible refine (i2 _ (hva.keep0 hO) (hvb.keep0 hO)).mono ?_); rintro e wv hpo; obtain ⟨v4, rfl, hv9, hn9, hb9⟩ := hpo.uni; have f4 := hv9.form; replace hO := hO.gainB hb9 hv9 hn9; clear hb9 hv9 hn9 hpo) | (go_at_call 78; (with_reducible refine (d1 _ (hO.tops ht (by simp)) (hva.keep0 hO) (hvb.keep0 hO)).mono ?_); rintro e wv hpo; obtain ⟨v5, rfl, hv9, hn9, hb9⟩ := hpo.uni; have f5 := hv9.form; replace hO := hO.gainB hb9 hv9 hn9; clear hb9 hv9 hn9 hpo) | (go_at_call 79; (with_reducible refine (d2 _ (hva.keep0 hO) (hvb.keep0 hO)).mono ?_); rintro e wv hpo; obtain ⟨v6, rfl, hv9, hn9, hb9⟩ := hpo.uni; have f6 := hv9.form; replace hO := hO.gainB hb9 hv9 hn9; clear hb9 hv9 hn9 hpo) | (go_at_call 80; (with_reducible refine (g1 _ _ _ (hO.isB f1 (fun q hq => List.mem_append_right _ (List.mem_append_right _ (List.mem_append_right _ (List.mem_append_right _ (List.mem_append_right _ (List.mem_append_left _ hq))))))) (hO.isB f2 (fun q hq => List.mem_append_right _ (List.mem_append_right _ (List.mem_append_right _ (List.mem_append_right _ (List.mem_append_left _ hq))))))).mono ?_); rintro e wv ⟨rfl, hb9⟩; replace hO := hO.call hb9; clear hb9) | (go_at_call 80; (with_reducible refine (g2 _ _ _ (hO.isB f3 (fun q hq => List.mem_append_right _ (List.mem_append_right _ (List.mem_append_right _ (List.mem_append_left _ hq))))) (hO.isB f4 (fun q hq => List.mem_append_right _ (List.mem_append_right _ (List.mem_append_left _ hq))))).mono ?_); rintro e wv ⟨rfl, hb9⟩; replace hO := hO.call hb9; clear hb9) | (go_at_call 80; (with_reducible refine (g3 _ _ _ (hO.isB f5 (fun q hq => List.mem_append_right _ (List.mem_append_left _ hq))) (hO.isB f6 (fun q hq => List.mem_append_left _ hq))).mono ?_); rintro e wv ⟨rfl, hb9⟩; replace hO := hO.call hb9; clear hb9) | (go_at_call 81; (with_reducible refine (s1 _ (hO.tops ht (by simp)) (hva.keep0 hO) (hvb.keep0 hO)).mono ?_); rintro e wv ⟨rfl, hb9⟩; replace hO := hO.call hb9; clear hb9) | (go_at_call 82; (with_reducible refine (s2 _ (hva.keep0 hO) (hvb.keep0 hO)).mono ?_); rintro e wv ⟨rfl, hb9⟩; replace hO := hO.call hb9; clear hb9))
 go_ret
 exact ⟨rfl, hO.keep.below⟩
set_option maxHeartbeats 32000000 in
theorem pscombines_law (sl : Value) (zs : List Int) (vp vq : Value) (lp lq : List Bx) (w : World) (ht : Tops w) (hZ : ZsOk sl zs) (hr : ∀ s ∈ roS sl (ints zs), w.rangeAt s.g s.o s.xs) (hvp : IsBoxes w vp lp) (hvq : IsBoxes w vq lq) (kp : okL lp) (kq : okL lq) :
  Calls Tryz.prog 9 #[sl, vp, vq] w fun e w' => e = .returned (.bool true) ∧ Below w.heap.size w w' := by
 have hO := ((own_law hr).addBoxes hvp).addBoxes hvq
 clear hr
 obtain ⟨sa, sc, rfl, -⟩ := hZ.view
 have hfp := hvp.form
 have hfq := hvq.form
 obtain ⟨ap, cp, rfl, -⟩ := hvp.view
 obtain ⟨aq, cq, rfl, -⟩ := hvq.view
 clear hvp hvq
 go_enter Tryz.func9, Tryz.ntmps9
 go_wp2_with (go_at_call 11; (with_reducible refine (new_any _ _ _).mono ?_); rintro e wv ⟨n, rfl, hB, hn, hb⟩; replace hO := hO.gain hb hB hn; have hT := hO.tapeIn List.mem_cons_self (by (intro s hs; repeat (first | exact hs | apply List.mem_append_right))) (Nat.zero_le _); clear hb hB hn)
 go_loopg [8] 4 (fun gk q wr => ∃ i i1 : Nat, i ≤ 3 ∧ 4 - i ≤ gk ∧ q = .int .i64 i ∧ i1 ≤ zs.length ∧ Own [] w [⟨n, tcs (.slice sa zs.length sc) i1, 93⟩] [] (roS (.slice aq lq.length cq) (cellsB lq) ++ (roS (.slice ap lp.length cp) (cellsB lp) ++ roS (.slice sa zs.length sc) (ints zs))) wr)
 case atStart => exact ⟨0, _, by omega, by omega, rfl, hT.le, hO⟩
 case round =>
  clear hO hT
  obtain ⟨i, i1, hi, hgk, rfl, hi1, hO⟩ := hrel
  have hT := hO.tapeIn List.mem_cons_self (by intro s hs; repeat (first | exact hs | apply List.mem_append_right)) hi1
  have s1 : IntKind.i64.wrap ((i : Int) + 1) = (i : Int) + 1 := IntWalk.i64_in _ (by omega)
  by_cases hlt : i < 3
  ·have g1 : decide ((i : Int) < 3) = true := decide_eq_true (by omega)
   go_wp2_with (first | (go_at_call 33; (with_reducible refine (tset_any 4 hZ (hO.tapeIn List.mem_cons_self (by (intro s hs; repeat (first | exact hs | apply List.mem_append_right))) hT.le) (by omega) (by omega)).mono ?_); rintro e wv ⟨vx, i1, rfl, ⟨l9, k9, n9, hv9, hn9⟩, hk, hT1⟩; obtain ⟨kx, nx, ex⟩ := mk_facts k9 (by omega : l9.length ≤ 4); clear k9 n9; generalize (makeF l9).getD [] = lx at *; have hnnx : vx.ownBlock ≠ some n := fun e9 => absurd (hn9 _ e9) (Nat.not_le_of_lt hT.blk.lt); have hoff9 := off_of_new hO hn9; replace hO := hO.after (by (repeat (exact Upd.here))) hk hT1.blk; replace hT := hT1; clear hT1 hk; have hfx := hv9.form; obtain ⟨ax, cx, rfl, -, hO⟩ := own_offS hO ⟨hv9, hoff9⟩; clear hv9 hn9 hoff9) | (go_at_call 33; (with_reducible refine (tset_any 3 hZ (hO.tapeIn List.mem_cons_self (by (intro s hs; repeat (first | exact hs | apply List.mem_append_right))) hT.le) (by omega) (by omega)).mono ?_); rintro e wv ⟨vy, i1, rfl, ⟨l9, k9, n9, hv9, hn9⟩, hk, hT1⟩; obtain ⟨ky, ny, ey⟩ := mk_facts k9 (by omega : l9.length ≤ 4); clear k9 n9; generalize (makeF l9).getD [] = ly at *; have hnny : vy.ownBlock ≠ some n := fun e9 => absurd (hn9 _ e9) (Nat.not_le_of_lt hT.blk.lt); have hoff9 := off_of_new hO hn9; replace hO := hO.after (by (repeat (exact Upd.here))) hk hT1.blk; replace hT := hT1; clear hT1 hk; have hfy := hv9.form; obtain ⟨ay, cy, rfl, -, hO⟩ := own_offS hO ⟨hv9, hoff9⟩; clear hv9 hn9 hoff9) | (go_at_call 34; (with_reducible refine (combines_any _ (hO.tops ht (by simp)) (hO.isB hfx (by intro q hq; repeat (first | exact List.mem_append_left _ hq | apply List.mem_append_right))) (hO.isB hfy (by intro q hq; repeat (first | exact List.mem_append_left _ hq | apply List.mem_append_right))) kx ky (by omega) (by omega) ex ey (by omega) (by omega)).mono ?_); rintro e wv ⟨rfl, hb9⟩; replace hO := hO.call hb9; replace hT := (hO.tapeIn List.mem_cons_self (by (intro s hs; repeat (first | exact hs | apply List.mem_append_right))) hT.le); clear hb9) | (go_at_call 35; (with_reducible refine (tboxes_any 3 true hZ (hO.tapeIn List.mem_cons_self (by (intro s hs; repeat (first | exact hs | apply List.mem_append_right))) hT.le) (by omega) (by omega)).mono ?_); rintro e wv ⟨vb, i1, rfl, ⟨lb, hv9, hn9, kb9, nb, -⟩, hk, hT1⟩; have kb : okL lb := kb9; have eb := ends_len lb; have hoff9 := off_of_new hO hn9; replace hO := hO.after (by (repeat (exact Upd.here))) hk hT1.blk; replace hT := hT1; clear hT1 hk; have hfb := hv9.form; obtain ⟨ab, cb, rfl, -, hO⟩ := own_offS hO ⟨hv9, hoff9⟩; clear hv9 hn9 hoff9) | (go_at_call 34; (with_reducible refine (combines_any _ (hO.tops ht (by simp)) (hO.isB hfx (by intro q hq; repeat (first | exact List.mem_append_left _ hq | apply List.mem_append_right))) (hO.isB hfb (by intro q hq; repeat (first | exact List.mem_append_left _ hq | apply List.mem_append_right))) kx kb (by omega) (by omega) ex eb (by omega) (by omega)).mono ?_); rintro e wv ⟨rfl, hb9⟩; replace hO := hO.call hb9; replace hT := (hO.tapeIn List.mem_cons_self (by (intro s hs; repeat (first | exact hs | apply List.mem_append_right))) hT.le); clear hb9) | (go_at_call 36; (with_reducible refine (tspoilset_any _ lx hZ (hO.tapeIn List.mem_cons_self (by (intro s hs; repeat (first | exact hs | apply List.mem_append_right))) hT.le) (hO.isB hfx (by intro q hq; repeat (first | exact List.mem_append_left _ hq | apply List.mem_append_right))) hnnx kx (by omega)).mono ?_); rintro e wv ⟨vm, i1, rfl, ⟨lm, bm, km, hmm, nm, hv9, hn9⟩, hk, hT1⟩; have em := spoil_ends ex hmm; have hoff9 := off_of_new hO hn9; replace hO := hO.after (by (repeat (exact Upd.here))) hk hT1.blk; replace hT := hT1; clear hT1 hk; have hfm := hv9.form; obtain ⟨am, cm, rfl, -, hO⟩ := own_offS hO ⟨hv9, hoff9⟩; clear hv9 hn9 hoff9) | (go_at_call 34; (with_reducible refine (combines_any _ (hO.tops ht (by simp)) (hO.isB hfm (by intro q hq; repeat (exact List.mem_append_left _ hq))) (hO.isB hfy (by intro q hq; repeat (first | exact List.mem_append_left _ hq | apply List.mem_append_right))) km ky (by omega) (by omega) em ey (by omega) (by omega)).mono ?_); rintro e wv ⟨rfl, hb9⟩; replace hO := hO.call hb9; replace hT := (hO.tapeIn List.mem_cons_self (by (intro s hs; repeat (first | exact hs | apply List.mem_append_right))) hT.le); clear hb9) | (go_at_call 34; (with_reducible refine (combines_any _ (hO.tops ht (by simp)) (hO.isB hfx (by intro q hq; repeat (first | exact List.mem_append_left _ hq | apply List.mem_append_right))) (hO.isB hfx (by intro q hq; repeat (first | exact List.mem_append_left _ hq | apply List.mem_append_right))) kx kx (by omega) (by omega) ex ex (by omega) (by omega)).mono ?_); rintro e wv ⟨rfl, hb9⟩; replace hO := hO.call hb9; replace hT := (hO.tapeIn List.mem_cons_self (by (intro s hs; repeat (first | exact hs | apply List.mem_append_right))) hT.le); clear hb9))
   go_roundg (3 - i)
   case measure => omega
   case rel => exact ⟨i + 1, _, by omega, by omega, by go_num, hT.le, hO.sub (.refl _) (.refl _) (fun q hq => List.mem_append_right _ (List.mem_append_right _ (List.mem_append_right _ (List.mem_append_right _ hq))))⟩
  ·have g1 : decide ((i : Int) < 3) = false := decide_eq_false (by omega)
   have hp := fun w hv => huge_any (vl := .slice ap lp.length cp) (l := lp) w hv
   have hq := fun w hv => huge_any (vl := .slice aq lq.length cq) (l := lq) w hv
   by_cases h6 : 6 < lp.length
   ·rw [decide_eq_true h6] at hp
    go_wp2_with (go_at_call 37; refine (hp _ (hO.isB hfp (by intro q hq; repeat (first | exact List.mem_append_left _ hq | apply List.mem_append_right)))).mono ?_; rintro e _ ⟨rfl, rfl⟩)
    go_ret
    exact ⟨rfl, hO.keep.below⟩
   ·rw [decide_eq_false h6] at hp
    by_cases h7 : 6 < lq.length
    ·rw [decide_eq_true h7] at hq
     go_wp2_with (first | (go_at_call 37; refine (hp _ (hO.isB hfp (by intro q hq; repeat (first | exact List.mem_append_left _ hq | apply List.mem_append_right)))).mono ?_; rintro e _ ⟨rfl, rfl⟩) | (go_at_call 37; refine (hq _ (hO.isB hfq (by intro q hq; repeat (exact List.mem_append_left _ hq)))).mono ?_; rintro e _ ⟨rfl, rfl⟩))
     go_ret
     exact ⟨rfl, hO.keep.below⟩
    ·rw [decide_eq_false h7] at hq
     have ep := ends_len lp
     have eq := ends_len lq
     go_wp2_with (first | (go_at_call 37; refine (hp _ (hO.isB hfp (by intro q hq; repeat (first | exact List.mem_append_left _ hq | apply List.mem_append_right)))).mono ?_; rintro e _ ⟨rfl, rfl⟩) | (go_at_call 37; refine (hq _ (hO.isB hfq (by intro q hq; repeat (exact List.mem_append_left _ hq)))).mono ?_; rintro e _ ⟨rfl, rfl⟩) | (go_at_call 34; (with_reducible refine (combines_any _ (hO.tops ht (by simp)) (hO.isB hfp (by intro q hq; repeat (first | exact List.mem_append_left _ hq | apply List.mem_append_right))) (hO.isB hfq (by intro q hq; repeat (exact List.mem_append_left _ hq))) kp kq (by omega) (by omega) ep eq (by omega) (by omega)).mono ?_); rintro e wv ⟨rfl, hb9⟩; replace hO := hO.call hb9; replace hT := (hO.tapeIn List.mem_cons_self (by (intro s hs; repeat (first | exact hs | apply List.mem_append_right))) hT.le); clear hb9) | (go_at_call 38; refine (sane4_any _ (hO.tops ht (by simp))).mono ?_; rintro e wv ⟨rfl, hb⟩; replace hO := hO.call hb; clear hb))
     go_ret
     exact ⟨rfl, hO.keep.below⟩
end Go.Proofs.YtbdfblgdmappeaaGreatDoor
