/- BoxHull: the walk. -/
import Derived.Test.YtnhjcbmlplfpmaaDoorLawT
import Derived.Test.YtnhjcbmlplfpmaaDoorSubLaw
import Derived.Test.YtnhjcbmlplfpmaaDoorLawMem
import Derived.Test.YtnhjcbmlplfpmaaDoorOrders
namespace Go.Proofs.YtnhjcbmlplfpmaaDoor
open Go.RowKit
set_option maxRecDepth 100000

/-! ### five truths -/
def tcs5 (p : Nat → Bool) : List Value := [.bool (p 0), .bool (p 1), .bool (p 2), .bool (p 3), .bool (p 4)]
def tupd (p : Nat → Bool) (k : Nat) (v : Bool) : Nat → Bool := fun i => if i = k then v else p i
theorem tset {p : Nat → Bool} {k : Nat} (h : k < 5) {v : Bool} : (tcs5 p).set k (.bool v) = tcs5 (tupd p k v) := by
  rcases five h with rfl | rfl | rfl | rfl | rfl <;> rfl
theorem tcs5_at (p : Nat → Bool) {k : Nat} (h : k < 5) : (tcs5 p)[k]? = some (.bool (p k)) := by
  rcases five h with rfl | rfl | rfl | rfl | rfl <;> rfl
theorem row_Truths : RowT Tryd.prog 57 5 := ⟨_, Tryd.underlying57, rfl, by kernel_rfl⟩
theorem one_bool : OneT Tryd.prog 4 := ⟨_, Tryd.underlying4, rfl, by kernel_rfl⟩
theorem zero_Truths : ZeroT Tryd.prog 57 (tcs5 fun _ => false) := by unfold ZeroT; kernel_rfl

/-! ### the plain law -/
/-- what is reached after some boxes -/
def lowAt (c : Bx) (l : List Bx) (f : Nat) : Bool := l.any fun b => vld b && ((b.at f).lo == (c.at f).lo)
def highAt (c : Bx) (l : List Bx) (f : Nat) : Bool := l.any fun b => vld b && ((b.at f).hi == (c.at f).hi)
def someV (l : List Bx) : Bool := l.any vld
structure HullInv (l : List Bx) (s : Bx × Bool) : Prop where
  some : s.2 = someV l
  none : s.2 = false → s.1 = zeroBx
  sub : ∀ b ∈ l, vld b = true → ∀ k, k < 5 → (s.1.at k).lo ≤ (b.at k).lo ∧ (b.at k).hi ≤ (s.1.at k).hi
  low : s.2 = true → ∀ k, k < 5 → lowAt s.1 l k = true
  high : s.2 = true → ∀ k, k < 5 → highAt s.1 l k = true
  vld : s.2 = true → vldTo s.1 5
theorem hullTo_at (a b : Bx) {k : Nat} (h : k < 5) : (hullTo a b).at k = ⟨min (a.at k).lo (b.at k).lo, max (a.at k).hi (b.at k).hi⟩ := Bx.at_of _ h
theorem any_snoc {α : Type} (p : α → Bool) (l : List α) (x : α) : (l ++ [x]).any p = (l.any p || p x) := by simp
theorem hullInv_step {l : List Bx} {s : Bx × Bool} (h : HullInv l s) (b : Bx) : HullInv (l ++ [b]) (hullStep s b) := by
  unfold hullStep
  by_cases hb : vld b = true
  · rw [if_pos hb]
    have hvb := vld_iff.1 hb
    have hcur : ∀ k, k < 5 → ((if s.2 then s.1 else b).at k).lo ≤ ((if s.2 then s.1 else b).at k).hi ∧ ((if s.2 then s.1 else b).at k).hi ≤ topOf k := fun k hk => by
      split
      · rename_i h2; exact h.vld h2 k hk
      · exact hvb k hk
    refine ⟨by unfold someV; rw [any_snoc, hb]; simp, (fun e => by cases e), fun p hp hv k hk => ?_, fun _ k hk => ?_, fun _ k hk => ?_, fun _ k hk => ?_⟩
    · dsimp only
      rw [hullTo_at _ _ hk]
      rcases List.mem_append.1 hp with hp | hp
      · have h2 : s.2 = true := by rw [h.some]; unfold someV; exact List.any_eq_true.2 ⟨p, hp, hv⟩
        rw [if_pos h2]
        have := h.sub p hp hv k hk
        dsimp only; omega
      · obtain rfl := List.mem_singleton.1 hp
        dsimp only; omega
    · dsimp only
      unfold lowAt
      rw [any_snoc, hb, hullTo_at _ _ hk]
      simp only [Bool.true_and, Bool.or_eq_true, beq_iff_eq]
      by_cases h2 : s.2 = true
      · rw [if_pos h2]
        by_cases h3 : (b.at k).lo ≤ (s.1.at k).lo
        · right; omega
        · left
          have h4 := h.low h2 k hk
          unfold lowAt at h4
          rw [show min (s.1.at k).lo (b.at k).lo = (s.1.at k).lo by omega]
          exact h4
      · rw [if_neg h2]; right; omega
    · dsimp only
      unfold highAt
      rw [any_snoc, hb, hullTo_at _ _ hk]
      simp only [Bool.true_and, Bool.or_eq_true, beq_iff_eq]
      by_cases h2 : s.2 = true
      · rw [if_pos h2]
        by_cases h3 : (s.1.at k).hi ≤ (b.at k).hi
        · right; omega
        · left
          have h4 := h.high h2 k hk
          unfold highAt at h4
          rw [show max (s.1.at k).hi (b.at k).hi = (s.1.at k).hi by omega]
          exact h4
      · rw [if_neg h2]; right; omega
    · dsimp only
      rw [hullTo_at _ _ hk]
      have h1 := hcur k hk
      have h2 := hvb k hk
      dsimp only; omega
  · rw [if_neg hb]
    have hb' : Go.Proofs.YtnhjcbmlplfpmaaDoor.vld b = false := by simpa using hb
    have e1 : ∀ f, lowAt s.1 (l ++ [b]) f = lowAt s.1 l f := fun f => by unfold lowAt; rw [any_snoc, hb']; simp
    have e2 : ∀ f, highAt s.1 (l ++ [b]) f = highAt s.1 l f := fun f => by unfold highAt; rw [any_snoc, hb']; simp
    refine ⟨by rw [h.some]; unfold someV; rw [any_snoc, hb']; simp, h.none, fun p hp hv k hk => ?_, fun h2 k hk => by rw [e1]; exact h.low h2 k hk, fun h2 k hk => by rw [e2]; exact h.high h2 k hk, h.vld⟩
    rcases List.mem_append.1 hp with hp | hp
    · exact h.sub p hp hv k hk
    · obtain rfl := List.mem_singleton.1 hp
      rw [hb'] at hv; cases hv
theorem hullInv (l : List Bx) : HullInv l (hullL l) := by
  have key : ∀ (m l : List Bx) (s : Bx × Bool), HullInv l s → HullInv (l ++ m) (m.foldl hullStep s) := by
    intro m
    induction m with
    | nil => intro l s h; simpa using h
    | cons b m ih => intro l s h; have := ih (l ++ [b]) _ (hullInv_step h b); simpa using this
  have h0 : HullInv [] (zeroBx, false) := ⟨rfl, fun _ => rfl, (fun _ h => by cases h), (fun h => by cases h), (fun h => by cases h), (fun h => by cases h)⟩
  simpa [hullL] using key l [] _ h0
theorem any_take {α : Type} (p : α → Bool) (l : List α) {k : Nat} (h : k < l.length) : (l.take (k + 1)).any p = ((l.take k).any p || p l[k]) := by
  rw [List.take_succ_eq_append_getElem h, any_snoc]

theorem tcs5_congr {p q : Nat → Bool} (h : ∀ k, k < 5 → p k = q k) : tcs5 p = tcs5 q := by simp [tcs5, h 0, h 1, h 2, h 3, h 4]
theorem tcs5_all {p : Nat → Bool} (h : ∀ k, k < 5 → p k = true) : tcs5 p = [.bool true, .bool true, .bool true, .bool true, .bool true] := by simp [tcs5, h 0, h 1, h 2, h 3, h 4]
theorem run_eql_t5 (w : World) : (binOp .eql 57 (.agg #[.bool true, .bool true, .bool true, .bool true, .bool true]) (.agg #[.bool true, .bool true, .bool true, .bool true, .bool true])).run Tryd.prog w = .ok (.bool true) w := by kernel_rfl
theorem guard_t5 (w : World) (op : BinOp) (x y : Operand) (u v : Array Value) : (eqGuard op 57 x y (.agg u) (.agg v)).run Tryd.prog w = .ok () w := run_eqGuard_agg w op _ x y u v (by kernel_rfl)
theorem run_eql_z (w : World) : (binOp .eql 26 (.agg (bcs zeroBx).toArray) (.agg (bcs zeroBx).toArray)).run Tryd.prog w = .ok (.bool true) w := by rw [run_eql_bx]; simp
theorem run_eql_zz (w : World) : (binOp .eql 26 (.agg (bcs zeroBx).toArray) (.agg #[.int .u32 0, .int .u32 0, .int .u32 0, .int .u32 0, .int .u32 0, .int .u32 0, .int .u32 0, .int .u32 0, .int .u32 0, .int .u32 0])).run Tryd.prog w = .ok (.bool true) w := run_eql_z w
attribute [go_sem high] run_eql_t5 guard_t5 run_eql_zz
theorem tupd_ok {p n o : Nat → Bool} {j : Nat} {v : Bool} (hp : ∀ f, f < 5 → p f = if f < j then n f else o f) (hv : v = n j) : ∀ f, f < 5 → tupd p j v f = if f < j + 1 then n f else o f := fun f hf => by
  unfold tupd
  by_cases e : f = j
  · subst e; simp [hv]
  · rw [if_neg e, hp f hf]
    by_cases h1 : f < j
    · rw [if_pos h1, if_pos (by omega)]
    · rw [if_neg h1, if_neg (by omega)]
theorem lowAt_take (c : Bx) (l : List Bx) {k : Nat} (h : k < l.length) (f : Nat) : lowAt c (l.take (k + 1)) f = (lowAt c (l.take k) f || (vld l[k] && ((l[k].at f).lo == (c.at f).lo))) := any_take _ l h
theorem highAt_take (c : Bx) (l : List Bx) {k : Nat} (h : k < l.length) (f : Nat) : highAt c (l.take (k + 1)) f = (highAt c (l.take k) f || (vld l[k] && ((l[k].at f).hi == (c.at f).hi))) := any_take _ l h
theorem someV_take (l : List Bx) {k : Nat} (h : k < l.length) : someV (l.take (k + 1)) = (someV (l.take k) || vld l[k]) := any_take _ l h
set_option maxHeartbeats 16000000 in
theorem hull_law (sl : Value) (zs : List Int) (h : Hd) (w : World) (ht : Tops w) (hZ : ZsOk sl zs) (hr : ∀ s ∈ roS sl (ints zs), w.rangeAt s.g s.o s.xs) :
    Calls Tryd.prog 7 #[sl, hv h] w fun e w' => e = .returned (.bool true) ∧ Below w.heap.size w w' := by
  have hO := own_law hr
  obtain ⟨sa, sc, rfl, -⟩ := hZ.view
  go_enter Tryd.func7, Tryd.ntmps7
  go_wp2_with (first | ((with_reducible refine is_load ?_); (first | (refine own_ld (h := ?_)))) | ((with_reducible refine is_store ?_); (first | (refine own_stR (hO := hO) (h := ?_); clear hO; intro wv hO) | (refine own_st1 (hO := hO) (h := ?_); clear hO; intro wv hO))) | ((with_reducible refine is_box ?_); (first | (refine own_bx (o := ⟨some 3, _, _, _, _, _⟩) (hO := hO) (h := ?_); clear hO; intro n3 wv hO))) | ((with_reducible refine is_alloc ?_); (first | (refine own_al (o := ⟨some 7, _, _, _, _, _⟩) (hO := hO) (h := ?_); clear hO; intro n7 wv hO) | (refine own_al (o := ⟨some 10, _, _, _, _, _⟩) (hO := hO) (h := ?_); clear hO; intro n10 wv hO) | (refine own_al (o := ⟨some 11, _, _, _, _, _⟩) (hO := hO) (h := ?_); clear hO; intro n11 wv hO))) | (go_at_call 16; (with_reducible refine (new_any _ _ _).mono ?_); rintro e wv ⟨n, rfl, hB, hn, hb⟩; replace hO := hO.gain hb hB hn; have hT := hO.tapeIn List.mem_cons_self (by (intro s hs; repeat (first | exact hs | exact List.mem_append_left _ hs | apply List.mem_append_right | apply List.mem_cons_of_mem))) (Nat.zero_le _); clear hb hB hn) | (go_at_call 27; (with_reducible refine (tboxes_any 5 true hZ (hO.tapeIn (by (repeat (first | exact List.mem_cons_self | refine List.mem_cons_of_mem _ ?_))) (by (intro s hs; repeat (first | exact hs | exact List.mem_append_left _ hs | apply List.mem_append_right | apply List.mem_cons_of_mem))) hT.le) (by omega) (by omega)).mono ?_); rintro e wv ⟨v, i1, rfl, ⟨l, hv1, hn1, hl, hlen, hgood⟩, hk, hT1⟩; have hoff := off_of_new hO hn1; replace hO := hO.after (by (repeat (first | exact Upd.here | apply Upd.there))) hk hT1.blk; replace hT := hT1; clear hT1 hk; obtain ⟨a0, cp, rfl, ha, hO⟩ := own_offS hO ⟨hv1, hoff⟩; clear hoff hn1) | (go_at_call 28; refine (hull_any _ l _ (hO.tops ht (by simp)) hv1 (by omega)).mono ?_; rintro e wv ⟨rfl, hb⟩; replace hO := hO.call hb; clear hb))
  have HI := hullInv l
  generalize hullL l = s at *
  obtain ⟨c, ok⟩ := s
  have HS := Lib.hid (show ok = someV l from HI.some)
  clear hgood hl hv1
  have HH := Lib.hid HI
  clear HI
  skip
  go_loopw [9, 12] (fun q i wr => ∃ (k : Nat), k ≤ l.length ∧ i = .int .i64 k ∧ q = .bool (someV (l.take k)) ∧ Own [] w [⟨n11, tcs5 (highAt c (l.take k)), 57⟩, ⟨n10, tcs5 (lowAt c (l.take k)), 57⟩, ⟨n7, bcs c, 26⟩] [] (roS (.slice a0 l.length cp) (cellsB l) ++ roS (.slice sa zs.length sc) (ints zs)) wr) (fun _ i _ => l.length - (intOf i).toNat)
  case atStart => exact ⟨0, by omega, rfl, rfl, hO.sub (.cons_cons _ (.cons_cons _ (.cons_cons _ (.cons _ (.cons _ .slnil))))) (.refl _) (fun _ h => h)⟩
  case round =>
    clear hO
    obtain ⟨k, hk, rfl, rfl, hO⟩ := hrel
    by_cases hlt : k < l.length
    · obtain ⟨g, o, rfl⟩ := ha (by omega)
      replace hO : Own [] w [⟨n11, tcs5 (highAt c (l.take k)), 57⟩, ⟨n10, tcs5 (lowAt c (l.take k)), 57⟩, ⟨n7, bcs c, 26⟩] [] (⟨g, o, cellsB l⟩ :: roS (.slice sa zs.length sc) (ints zs)) wr := hO
      have E1 := Lib.hid (someV_take l hlt)
      have E2 := Lib.hid (lowAt_take c l hlt)
      have E3 := Lib.hid (highAt_take c l hlt)
      cases hv : vld l[k]
      · have hvd := fun w ht => valid_is hv w ht
        have F1 := Lib.hid (show someV (l.take (k + 1)) = someV (l.take k) by rw [E1.out, hv, Bool.or_false])
        have F2 := Lib.hid (show tcs5 (lowAt c (l.take k)) = tcs5 (lowAt c (l.take (k + 1))) from tcs5_congr fun f _ => by rw [E2.out, hv, Bool.false_and, Bool.or_false])
        have F3 := Lib.hid (show tcs5 (highAt c (l.take k)) = tcs5 (highAt c (l.take (k + 1))) from tcs5_congr fun f _ => by rw [E3.out, hv, Bool.false_and, Bool.or_false])
        clear hv
        go_wp2_with (first | ((with_reducible refine is_load ?_); (first | (refine own_ld (h := ?_)))) | ((with_reducible refine is_store ?_); (first | (refine own_stR (hO := hO) (h := ?_); clear hO; intro wv hO) | (refine own_st1 (hO := hO) (h := ?_); clear hO; intro wv hO))) | (go_at_call 13; refine (hvd _ (hO.tops ht (by simp))).mono ?_; rintro e wv ⟨rfl, hb⟩; replace hO := hO.call hb; clear hb))
        go_roundw
        case rel => exact ⟨k + 1, by omega, by go_num, by rw [F1.out], by rw [← F2.out, ← F3.out]; exact hO⟩
        case measure => simp [intOf]; omega
      · have hvd := fun w ht => valid_is hv w ht
        have hsv : someV l = true := List.any_eq_true.2 ⟨l[k], List.getElem_mem hlt, hv⟩
        have hok : ok = true := HS.out.trans hsv
        have hsb : subB l[k] c = true := by
          have h1 := HH.out.sub _ (List.getElem_mem hlt) hv
          have h2 : vld c = true := vld_iff.2 (HH.out.vld hok)
          unfold subB
          rw [hv, h2]
          have h3 : subTo l[k] c 5 := fun i hi => h1 i hi
          simpa using h3
        have hss := fun w ht => subset_is hsb w ht
        have F1 := Lib.hid (show someV (l.take (k + 1)) = true by rw [E1.out, hv, Bool.or_true])
        have F2 := Lib.hid (show ∀ f, lowAt c (l.take (k + 1)) f = (lowAt c (l.take k) f || ((l[k].at f).lo == (c.at f).lo)) from fun f => by rw [E2.out, hv, Bool.true_and])
        have F3 := Lib.hid (show ∀ f, highAt c (l.take (k + 1)) f = (highAt c (l.take k) f || ((l[k].at f).hi == (c.at f).hi)) from fun f => by rw [E3.out, hv, Bool.true_and])
        clear hv hsv hok hsb E1 E2 E3
        go_wp2_with (first | ((with_reducible refine is_load ?_); (first | (refine own_ld (h := ?_)))) | ((with_reducible refine is_store ?_); (first | (refine own_stR (hO := hO) (h := ?_); clear hO; intro wv hO) | (refine own_st1 (hO := hO) (h := ?_); clear hO; intro wv hO))) | (go_at_call 13; refine (hvd _ (hO.tops ht (by simp))).mono ?_; rintro e wv ⟨rfl, hb⟩; replace hO := hO.call hb; clear hb))
        (try simp only [Act.put]); (refine own_quiet hO (by kernel_rfl) (by kernel_rfl) ?_; clear hO; (repeat (first | go_big_quiet_skip | (go_big_quiet_want; (first | ((with_reducible refine is_loadQ ?_); (first | (refine q_ld (h := ?_))); (try simp only [Act.put]); (try simp only [List.setIfInBounds_toArray, List.set_cons_zero, List.set_cons_succ]); go_big_quiet_on) | (go_big_quiet_op; (first | go_big_quiet_on | ((refine ⟨_, fun _ _ => rfl, ?_⟩); go_big_quiet_on) | go_big_quiet_call ((intro hq; go_at_call 14; exact q_call (hss _ (hq.tops ht (by simp))) hq)))))))); (refine wpQuiet_nil ?_); intro wv hO)
        go_wp2_with (first | ((with_reducible refine is_load ?_); (first | (refine own_ld (h := ?_)))) | ((with_reducible refine is_store ?_); (first | (refine own_stR (hO := hO) (h := ?_); clear hO; intro wv hO) | (refine own_st1 (hO := hO) (h := ?_); clear hO; intro wv hO))))
        clear hss hvd
        skip
        go_loopw [13] (fun q wr => ∃ (j : Nat) (p r : Nat → Bool), j ≤ 5 ∧ q = .int .i64 j ∧ (∀ f, f < 5 → p f = if f < j then lowAt c (l.take (k + 1)) f else lowAt c (l.take k) f) ∧ (∀ f, f < 5 → r f = if f < j then highAt c (l.take (k + 1)) f else highAt c (l.take k) f) ∧ Own [] w [⟨n11, tcs5 r, 57⟩, ⟨n10, tcs5 p, 57⟩, ⟨n7, bcs c, 26⟩] [] (⟨g, o, cellsB l⟩ :: roS (.slice sa zs.length sc) (ints zs)) wr) (fun q _ => 5 - (intOf q).toNat)
        case atStart => exact ⟨0, _, _, by omega, rfl, fun f _ => by simp, fun f _ => by simp, hO⟩
        case round =>
          clear hO
          obtain ⟨j, p, r, hj, rfl, hp, hr', hO⟩ := hrel
          have HP := Lib.hid hp
          have HR := Lib.hid hr'
          clear hp hr'
          by_cases hjl : j < 5
          · have cp := tcs5_at p hjl
            have cr := tcs5_at r hjl
            have G1 := Lib.hid (show lowAt c (l.take (k + 1)) j = (p j || ((l[k].at j).lo == (c.at j).lo)) by rw [F2.out, HP.out j hjl, if_neg (by omega)])
            have G2 := Lib.hid (show highAt c (l.take (k + 1)) j = (r j || ((l[k].at j).hi == (c.at j).hi)) by rw [F3.out, HR.out j hjl, if_neg (by omega)])
            clear F1 F2 F3
            cases h1 : p j <;> cases h2 : r j
            all_goals
              rw [h1] at cp
              rw [h2] at cr
              have G3 := Lib.hid (G1.out.trans (by rw [h1]))
              have G4 := Lib.hid (G2.out.trans (by rw [h2]))
              clear h1 h2 G1 G2
              go_wp2_with (first | ((with_reducible refine is_load ?_); (first | (refine own_ld (h := ?_)))) | ((with_reducible refine is_store ?_); (first | (refine own_stR (hO := hO) (h := ?_); clear hO; intro wv hO) | (refine own_st1 (hO := hO) (h := ?_); clear hO; intro wv hO))))
              (try simp only [Act.put]); (try simp only [List.setIfInBounds_toArray, List.set_cons_zero, List.set_cons_succ])
              refine wp_region_any (by kernel_rfl) ?_
              replace hO := hO.drew
              refine wpAny_takePL 0 rfl (by kernel_rfl) (by kernel_rfl) (by kernel_rfl) (by intro c d v a w h; cases d <;> exact h) (by rfl) ?_
              (first | go_big_quiet_skip | (go_big_quiet_want; (go_big_quiet_op; (first | go_big_quiet_on | ((refine ⟨_, fun _ _ => rfl, ?_⟩); go_big_quiet_on))))); (refine wpQuiet_nil ?_); (try simp only [Act.put]); (try simp only [List.setIfInBounds_toArray, List.set_cons_zero, List.set_cons_succ])
              refine wpAny_takePL 1 rfl (by kernel_rfl) (by kernel_rfl) (by kernel_rfl) (by intro c d v a w h; cases d <;> exact h) (by rfl) ?_
              (first | go_big_quiet_skip | (go_big_quiet_want; (go_big_quiet_op; (first | go_big_quiet_on | ((refine ⟨_, fun _ _ => rfl, ?_⟩); go_big_quiet_on))))); (refine wpQuiet_nil ?_); (try simp only [Act.put]); (try simp only [List.setIfInBounds_toArray, List.set_cons_zero, List.set_cons_succ])
              refine wpAny_takePL 2 rfl (by kernel_rfl) (by kernel_rfl) (by kernel_rfl) (by intro c d v a w h; cases d <;> exact h) (by rfl) ?_
              (first | go_big_quiet_skip | (go_big_quiet_want; (go_big_quiet_op; (first | go_big_quiet_on | ((refine ⟨_, fun _ _ => rfl, ?_⟩); go_big_quiet_on))))); (refine wpQuiet_nil ?_); (try simp only [Act.put]); (try simp only [List.setIfInBounds_toArray, List.set_cons_zero, List.set_cons_succ])
              refine wpAny_all (rs := [3]) (by kernel_rfl) (by simp) (ord_cons ?_ ord_nil)
              rotate_left 1
              all_goals
                refine wpOp_of_listL rfl ?_
                (first | ((with_reducible refine is_load ?_); (first | (refine own_ld (h := ?_)))) | ((with_reducible refine is_store ?_); (first | (refine own_stR (hO := hO) (h := ?_); clear hO; intro wv hO) | (refine own_st1 (hO := hO) (h := ?_); clear hO; intro wv hO))) | ((refine wpList_step (fun K hK => ?_)); go_simp; (first | ((refine hK _ _ ?_); clear hK K) | ((first | fail); (try simp only []); (refine hK _ _ ?_); clear hK K)))); (try simp only [Act.put]); (try simp only [List.setIfInBounds_toArray, List.set_cons_zero, List.set_cons_succ])
                refine wpList_done (qk_intro ?_)
              refine wpAny_takePL 4 rfl (by kernel_rfl) (by kernel_rfl) (by kernel_rfl) (by intro c d v a w h; cases d <;> exact h) (by rfl) ?_
              (first | go_big_quiet_skip | (go_big_quiet_want; (go_big_quiet_op; (first | go_big_quiet_on | ((refine ⟨_, fun _ _ => rfl, ?_⟩); go_big_quiet_on))))); (refine wpQuiet_nil ?_); (try simp only [Act.put]); (try simp only [List.setIfInBounds_toArray, List.set_cons_zero, List.set_cons_succ])
              refine wpAny_takePL 5 rfl (by kernel_rfl) (by kernel_rfl) (by kernel_rfl) (by intro c d v a w h; cases d <;> exact h) (by rfl) ?_
              (first | go_big_quiet_skip | (go_big_quiet_want; (go_big_quiet_op; (first | go_big_quiet_on | ((refine ⟨_, fun _ _ => rfl, ?_⟩); go_big_quiet_on))))); (refine wpQuiet_nil ?_); (try simp only [Act.put]); (try simp only [List.setIfInBounds_toArray, List.set_cons_zero, List.set_cons_succ])
              refine wpAny_takePL 6 rfl (by kernel_rfl) (by kernel_rfl) (by kernel_rfl) (by intro c d v a w h; cases d <;> exact h) (by rfl) ?_
              (first | go_big_quiet_skip | (go_big_quiet_want; (go_big_quiet_op; (first | go_big_quiet_on | ((refine ⟨_, fun _ _ => rfl, ?_⟩); go_big_quiet_on))))); (refine wpQuiet_nil ?_); (try simp only [Act.put]); (try simp only [List.setIfInBounds_toArray, List.set_cons_zero, List.set_cons_succ])
              refine wpAny_takePL 7 rfl (by kernel_rfl) (by kernel_rfl) (by kernel_rfl) (by intro c d v a w h; cases d <;> exact h) (by rfl) ?_
              (first | go_big_quiet_skip | (go_big_quiet_want; (go_big_quiet_op; (first | go_big_quiet_on | ((refine ⟨_, fun _ _ => rfl, ?_⟩); go_big_quiet_on))))); (refine wpQuiet_nil ?_); (try simp only [Act.put]); (try simp only [List.setIfInBounds_toArray, List.set_cons_zero, List.set_cons_succ])
              refine wpAny_takePL 8 rfl (by kernel_rfl) (by kernel_rfl) (by kernel_rfl) (by intro c d v a w h; cases d <;> exact h) (by rfl) ?_
              (first | go_big_quiet_skip | (go_big_quiet_want; (go_big_quiet_op; (first | go_big_quiet_on | ((refine ⟨_, fun _ _ => rfl, ?_⟩); go_big_quiet_on))))); (refine wpQuiet_nil ?_); (try simp only [Act.put]); (try simp only [List.setIfInBounds_toArray, List.set_cons_zero, List.set_cons_succ])
              refine wpAny_takePL 9 rfl (by kernel_rfl) (by kernel_rfl) (by kernel_rfl) (by intro c d v a w h; cases d <;> exact h) (by rfl) ?_
              (first | go_big_quiet_skip | (go_big_quiet_want; (go_big_quiet_op; (first | go_big_quiet_on | ((refine ⟨_, fun _ _ => rfl, ?_⟩); go_big_quiet_on))))); (refine wpQuiet_nil ?_); (try simp only [Act.put]); (try simp only [List.setIfInBounds_toArray, List.set_cons_zero, List.set_cons_succ])
              refine wpAny_takePL 10 rfl (by kernel_rfl) (by kernel_rfl) (by kernel_rfl) (by intro c d v a w h; cases d <;> exact h) (by rfl) ?_
              (first | go_big_quiet_skip | (go_big_quiet_want; (go_big_quiet_op; (first | go_big_quiet_on | ((refine ⟨_, fun _ _ => rfl, ?_⟩); go_big_quiet_on))))); (refine wpQuiet_nil ?_); (try simp only [Act.put]); (try simp only [List.setIfInBounds_toArray, List.set_cons_zero, List.set_cons_succ])
              refine wpAny_takePL 12 rfl (by kernel_rfl) (by kernel_rfl) (by kernel_rfl) (by intro c d v a w h; cases d <;> exact h) (by rfl) ?_
              (first | go_big_quiet_skip | (go_big_quiet_want; (go_big_quiet_op; (first | go_big_quiet_on | ((refine ⟨_, fun _ _ => rfl, ?_⟩); go_big_quiet_on))))); (refine wpQuiet_nil ?_); (try simp only [Act.put]); (try simp only [List.setIfInBounds_toArray, List.set_cons_zero, List.set_cons_succ])
              refine wpAny_takePL 13 rfl (by kernel_rfl) (by kernel_rfl) (by kernel_rfl) (by intro c d v a w h; cases d <;> exact h) (by rfl) ?_
              (first | go_big_quiet_skip | (go_big_quiet_want; (go_big_quiet_op; (first | go_big_quiet_on | ((refine ⟨_, fun _ _ => rfl, ?_⟩); go_big_quiet_on))))); (refine wpQuiet_nil ?_); (try simp only [Act.put]); (try simp only [List.setIfInBounds_toArray, List.set_cons_zero, List.set_cons_succ])
              refine wpAny_takePL 14 rfl (by kernel_rfl) (by kernel_rfl) (by kernel_rfl) (by intro c d v a w h; cases d <;> exact h) (by rfl) ?_
              (first | go_big_quiet_skip | (go_big_quiet_want; (go_big_quiet_op; (first | go_big_quiet_on | ((refine ⟨_, fun _ _ => rfl, ?_⟩); go_big_quiet_on))))); (refine wpQuiet_nil ?_); (try simp only [Act.put]); (try simp only [List.setIfInBounds_toArray, List.set_cons_zero, List.set_cons_succ])
              refine wpAny_all (rs := [11, 15]) (by kernel_rfl) (by simp) (ord_cons ?_ (ord_cons ?_ ord_nil))
              rotate_left 2
              all_goals
                refine wpOp_of_listL rfl ?_
                (first | ((with_reducible refine is_load ?_); (first | (refine own_ld (h := ?_)))) | ((with_reducible refine is_store ?_); (first | (refine own_stR (hO := hO) (h := ?_); clear hO; intro wv hO) | (refine own_st1 (hO := hO) (h := ?_); clear hO; intro wv hO))) | ((refine wpList_step (fun K hK => ?_)); go_simp; (first | ((refine hK _ _ ?_); clear hK K) | ((first | fail); (try simp only []); (refine hK _ _ ?_); clear hK K)))); (try simp only [Act.put]); (try simp only [List.setIfInBounds_toArray, List.set_cons_zero, List.set_cons_succ])
                refine wpList_done (qk_intro ?_)
              refine wpAny_all (rs := [15]) (by kernel_rfl) (by simp) (ord_cons ?_ ord_nil)
              rotate_left 1
              refine wpAny_all (rs := [11]) (by kernel_rfl) (by simp) (ord_cons ?_ ord_nil)
              rotate_left 1
              all_goals
                refine wpOp_of_listL rfl ?_
                (first | ((with_reducible refine is_load ?_); (first | (refine own_ld (h := ?_)))) | ((with_reducible refine is_store ?_); (first | (refine own_stR (hO := hO) (h := ?_); clear hO; intro wv hO) | (refine own_st1 (hO := hO) (h := ?_); clear hO; intro wv hO))) | ((refine wpList_step (fun K hK => ?_)); go_simp; (first | ((refine hK _ _ ?_); clear hK K) | ((first | fail); (try simp only []); (refine hK _ _ ?_); clear hK K)))); (try simp only [Act.put]); (try simp only [List.setIfInBounds_toArray, List.set_cons_zero, List.set_cons_succ])
                refine wpList_done (qk_intro ?_)
              refine wpAny_takePL 16 rfl (by kernel_rfl) (by kernel_rfl) (by kernel_rfl) (by intro c d v a w h; cases d <;> exact h) (by rfl) ?_
              (first | go_big_quiet_skip | (go_big_quiet_want; (go_big_quiet_op; (first | go_big_quiet_on | ((refine ⟨_, fun _ _ => rfl, ?_⟩); go_big_quiet_on))))); (refine wpQuiet_nil ?_); (try simp only [Act.put]); (try simp only [List.setIfInBounds_toArray, List.set_cons_zero, List.set_cons_succ])
              refine wpAny_takePL 17 rfl (by kernel_rfl) (by kernel_rfl) (by kernel_rfl) (by intro c d v a w h; cases d <;> exact h) (by rfl) ?_
              (first | go_big_quiet_skip | (go_big_quiet_want; (go_big_quiet_op; (first | go_big_quiet_on | ((refine ⟨_, fun _ _ => rfl, ?_⟩); go_big_quiet_on))))); (refine wpQuiet_nil ?_); (try simp only [Act.put]); (try simp only [List.setIfInBounds_toArray, List.set_cons_zero, List.set_cons_succ])
              refine wpAny_takePL 18 rfl (by kernel_rfl) (by kernel_rfl) (by kernel_rfl) (by intro c d v a w h; cases d <;> exact h) (by rfl) ?_
              (first | go_big_quiet_skip | (go_big_quiet_want; (go_big_quiet_op; (first | go_big_quiet_on | ((refine ⟨_, fun _ _ => rfl, ?_⟩); go_big_quiet_on))))); (refine wpQuiet_nil ?_); (try simp only [Act.put]); (try simp only [List.setIfInBounds_toArray, List.set_cons_zero, List.set_cons_succ])
              refine wpAny_all (rs := [19]) (by kernel_rfl) (by simp) (ord_cons ?_ ord_nil)
              rotate_left 1
              refine wpAny_takePL 16 rfl (by kernel_rfl) (by kernel_rfl) (by kernel_rfl) (by intro c d v a w h; cases d <;> exact h) (by rfl) ?_
              (first | go_big_quiet_skip | (go_big_quiet_want; (go_big_quiet_op; (first | go_big_quiet_on | ((refine ⟨_, fun _ _ => rfl, ?_⟩); go_big_quiet_on))))); (refine wpQuiet_nil ?_); (try simp only [Act.put]); (try simp only [List.setIfInBounds_toArray, List.set_cons_zero, List.set_cons_succ])
              refine wpAny_takePL 17 rfl (by kernel_rfl) (by kernel_rfl) (by kernel_rfl) (by intro c d v a w h; cases d <;> exact h) (by rfl) ?_
              (first | go_big_quiet_skip | (go_big_quiet_want; (go_big_quiet_op; (first | go_big_quiet_on | ((refine ⟨_, fun _ _ => rfl, ?_⟩); go_big_quiet_on))))); (refine wpQuiet_nil ?_); (try simp only [Act.put]); (try simp only [List.setIfInBounds_toArray, List.set_cons_zero, List.set_cons_succ])
              refine wpAny_takePL 18 rfl (by kernel_rfl) (by kernel_rfl) (by kernel_rfl) (by intro c d v a w h; cases d <;> exact h) (by rfl) ?_
              (first | go_big_quiet_skip | (go_big_quiet_want; (go_big_quiet_op; (first | go_big_quiet_on | ((refine ⟨_, fun _ _ => rfl, ?_⟩); go_big_quiet_on))))); (refine wpQuiet_nil ?_); (try simp only [Act.put]); (try simp only [List.setIfInBounds_toArray, List.set_cons_zero, List.set_cons_succ])
              refine wpAny_all (rs := [19]) (by kernel_rfl) (by simp) (ord_cons ?_ ord_nil)
              rotate_left 1
              all_goals
                refine wpOp_of_listL rfl ?_
                (first | ((with_reducible refine is_load ?_); (first | (refine own_ld (h := ?_)))) | ((with_reducible refine is_store ?_); (first | (refine own_stR (hO := hO) (h := ?_); clear hO; intro wv hO) | (refine own_st1 (hO := hO) (h := ?_); clear hO; intro wv hO))) | ((refine wpList_step (fun K hK => ?_)); go_simp; (first | ((refine hK _ _ ?_); clear hK K) | ((first | fail); (try simp only []); (refine hK _ _ ?_); clear hK K)))); (try simp only [Act.put]); (try simp only [List.setIfInBounds_toArray, List.set_cons_zero, List.set_cons_succ])
                refine wpList_done (qk_intro ?_)
              refine wpAny_done (by kernel_rfl) ?_ _
              rotate_left
              refine wpAny_done (by kernel_rfl) ?_ _
              rotate_left
              all_goals
                go_wp2_with (first | ((with_reducible refine is_load ?_); (first | (refine own_ld (h := ?_)))) | ((with_reducible refine is_store ?_); (first | (refine own_stR (hO := hO) (h := ?_); clear hO; intro wv hO) | (refine own_st1 (hO := hO) (h := ?_); clear hO; intro wv hO))))
                (try simp only [Act.put]); (try simp only [List.setIfInBounds_toArray, List.set_cons_zero, List.set_cons_succ])
                refine wp_region_any (by kernel_rfl) ?_
                replace hO := hO.drew
                refine wpAny_takePL 0 rfl (by kernel_rfl) (by kernel_rfl) (by kernel_rfl) (by intro c d v a w h; cases d <;> exact h) (by rfl) ?_
                (first | go_big_quiet_skip | (go_big_quiet_want; (go_big_quiet_op; (first | go_big_quiet_on | ((refine ⟨_, fun _ _ => rfl, ?_⟩); go_big_quiet_on))))); (refine wpQuiet_nil ?_); (try simp only [Act.put]); (try simp only [List.setIfInBounds_toArray, List.set_cons_zero, List.set_cons_succ])
                refine wpAny_takePL 1 rfl (by kernel_rfl) (by kernel_rfl) (by kernel_rfl) (by intro c d v a w h; cases d <;> exact h) (by rfl) ?_
                (first | go_big_quiet_skip | (go_big_quiet_want; (go_big_quiet_op; (first | go_big_quiet_on | ((refine ⟨_, fun _ _ => rfl, ?_⟩); go_big_quiet_on))))); (refine wpQuiet_nil ?_); (try simp only [Act.put]); (try simp only [List.setIfInBounds_toArray, List.set_cons_zero, List.set_cons_succ])
                refine wpAny_takePL 2 rfl (by kernel_rfl) (by kernel_rfl) (by kernel_rfl) (by intro c d v a w h; cases d <;> exact h) (by rfl) ?_
                (first | go_big_quiet_skip | (go_big_quiet_want; (go_big_quiet_op; (first | go_big_quiet_on | ((refine ⟨_, fun _ _ => rfl, ?_⟩); go_big_quiet_on))))); (refine wpQuiet_nil ?_); (try simp only [Act.put]); (try simp only [List.setIfInBounds_toArray, List.set_cons_zero, List.set_cons_succ])
                refine wpAny_all (rs := [3]) (by kernel_rfl) (by simp) (ord_cons ?_ ord_nil)
                rotate_left 1
                all_goals
                  refine wpOp_of_listL rfl ?_
                  (first | ((with_reducible refine is_load ?_); (first | (refine own_ld (h := ?_)))) | ((with_reducible refine is_store ?_); (first | (refine own_stR (hO := hO) (h := ?_); clear hO; intro wv hO) | (refine own_st1 (hO := hO) (h := ?_); clear hO; intro wv hO))) | ((refine wpList_step (fun K hK => ?_)); go_simp; (first | ((refine hK _ _ ?_); clear hK K) | ((first | fail); (try simp only []); (refine hK _ _ ?_); clear hK K)))); (try simp only [Act.put]); (try simp only [List.setIfInBounds_toArray, List.set_cons_zero, List.set_cons_succ])
                  refine wpList_done (qk_intro ?_)
                refine wpAny_takePL 4 rfl (by kernel_rfl) (by kernel_rfl) (by kernel_rfl) (by intro c d v a w h; cases d <;> exact h) (by rfl) ?_
                (first | go_big_quiet_skip | (go_big_quiet_want; (go_big_quiet_op; (first | go_big_quiet_on | ((refine ⟨_, fun _ _ => rfl, ?_⟩); go_big_quiet_on))))); (refine wpQuiet_nil ?_); (try simp only [Act.put]); (try simp only [List.setIfInBounds_toArray, List.set_cons_zero, List.set_cons_succ])
                refine wpAny_takePL 5 rfl (by kernel_rfl) (by kernel_rfl) (by kernel_rfl) (by intro c d v a w h; cases d <;> exact h) (by rfl) ?_
                (first | go_big_quiet_skip | (go_big_quiet_want; (go_big_quiet_op; (first | go_big_quiet_on | ((refine ⟨_, fun _ _ => rfl, ?_⟩); go_big_quiet_on))))); (refine wpQuiet_nil ?_); (try simp only [Act.put]); (try simp only [List.setIfInBounds_toArray, List.set_cons_zero, List.set_cons_succ])
                refine wpAny_takePL 6 rfl (by kernel_rfl) (by kernel_rfl) (by kernel_rfl) (by intro c d v a w h; cases d <;> exact h) (by rfl) ?_
                (first | go_big_quiet_skip | (go_big_quiet_want; (go_big_quiet_op; (first | go_big_quiet_on | ((refine ⟨_, fun _ _ => rfl, ?_⟩); go_big_quiet_on))))); (refine wpQuiet_nil ?_); (try simp only [Act.put]); (try simp only [List.setIfInBounds_toArray, List.set_cons_zero, List.set_cons_succ])
                refine wpAny_takePL 7 rfl (by kernel_rfl) (by kernel_rfl) (by kernel_rfl) (by intro c d v a w h; cases d <;> exact h) (by rfl) ?_
                (first | go_big_quiet_skip | (go_big_quiet_want; (go_big_quiet_op; (first | go_big_quiet_on | ((refine ⟨_, fun _ _ => rfl, ?_⟩); go_big_quiet_on))))); (refine wpQuiet_nil ?_); (try simp only [Act.put]); (try simp only [List.setIfInBounds_toArray, List.set_cons_zero, List.set_cons_succ])
                refine wpAny_takePL 8 rfl (by kernel_rfl) (by kernel_rfl) (by kernel_rfl) (by intro c d v a w h; cases d <;> exact h) (by rfl) ?_
                (first | go_big_quiet_skip | (go_big_quiet_want; (go_big_quiet_op; (first | go_big_quiet_on | ((refine ⟨_, fun _ _ => rfl, ?_⟩); go_big_quiet_on))))); (refine wpQuiet_nil ?_); (try simp only [Act.put]); (try simp only [List.setIfInBounds_toArray, List.set_cons_zero, List.set_cons_succ])
                refine wpAny_takePL 9 rfl (by kernel_rfl) (by kernel_rfl) (by kernel_rfl) (by intro c d v a w h; cases d <;> exact h) (by rfl) ?_
                (first | go_big_quiet_skip | (go_big_quiet_want; (go_big_quiet_op; (first | go_big_quiet_on | ((refine ⟨_, fun _ _ => rfl, ?_⟩); go_big_quiet_on))))); (refine wpQuiet_nil ?_); (try simp only [Act.put]); (try simp only [List.setIfInBounds_toArray, List.set_cons_zero, List.set_cons_succ])
                refine wpAny_takePL 10 rfl (by kernel_rfl) (by kernel_rfl) (by kernel_rfl) (by intro c d v a w h; cases d <;> exact h) (by rfl) ?_
                (first | go_big_quiet_skip | (go_big_quiet_want; (go_big_quiet_op; (first | go_big_quiet_on | ((refine ⟨_, fun _ _ => rfl, ?_⟩); go_big_quiet_on))))); (refine wpQuiet_nil ?_); (try simp only [Act.put]); (try simp only [List.setIfInBounds_toArray, List.set_cons_zero, List.set_cons_succ])
                refine wpAny_takePL 12 rfl (by kernel_rfl) (by kernel_rfl) (by kernel_rfl) (by intro c d v a w h; cases d <;> exact h) (by rfl) ?_
                (first | go_big_quiet_skip | (go_big_quiet_want; (go_big_quiet_op; (first | go_big_quiet_on | ((refine ⟨_, fun _ _ => rfl, ?_⟩); go_big_quiet_on))))); (refine wpQuiet_nil ?_); (try simp only [Act.put]); (try simp only [List.setIfInBounds_toArray, List.set_cons_zero, List.set_cons_succ])
                refine wpAny_takePL 13 rfl (by kernel_rfl) (by kernel_rfl) (by kernel_rfl) (by intro c d v a w h; cases d <;> exact h) (by rfl) ?_
                (first | go_big_quiet_skip | (go_big_quiet_want; (go_big_quiet_op; (first | go_big_quiet_on | ((refine ⟨_, fun _ _ => rfl, ?_⟩); go_big_quiet_on))))); (refine wpQuiet_nil ?_); (try simp only [Act.put]); (try simp only [List.setIfInBounds_toArray, List.set_cons_zero, List.set_cons_succ])
                refine wpAny_takePL 14 rfl (by kernel_rfl) (by kernel_rfl) (by kernel_rfl) (by intro c d v a w h; cases d <;> exact h) (by rfl) ?_
                (first | go_big_quiet_skip | (go_big_quiet_want; (go_big_quiet_op; (first | go_big_quiet_on | ((refine ⟨_, fun _ _ => rfl, ?_⟩); go_big_quiet_on))))); (refine wpQuiet_nil ?_); (try simp only [Act.put]); (try simp only [List.setIfInBounds_toArray, List.set_cons_zero, List.set_cons_succ])
                refine wpAny_all (rs := [11, 15]) (by kernel_rfl) (by simp) (ord_cons ?_ (ord_cons ?_ ord_nil))
                rotate_left 2
                all_goals
                  refine wpOp_of_listL rfl ?_
                  (first | ((with_reducible refine is_load ?_); (first | (refine own_ld (h := ?_)))) | ((with_reducible refine is_store ?_); (first | (refine own_stR (hO := hO) (h := ?_); clear hO; intro wv hO) | (refine own_st1 (hO := hO) (h := ?_); clear hO; intro wv hO))) | ((refine wpList_step (fun K hK => ?_)); go_simp; (first | ((refine hK _ _ ?_); clear hK K) | ((first | fail); (try simp only []); (refine hK _ _ ?_); clear hK K)))); (try simp only [Act.put]); (try simp only [List.setIfInBounds_toArray, List.set_cons_zero, List.set_cons_succ])
                  refine wpList_done (qk_intro ?_)
                refine wpAny_all (rs := [15]) (by kernel_rfl) (by simp) (ord_cons ?_ ord_nil)
                rotate_left 1
                refine wpAny_all (rs := [11]) (by kernel_rfl) (by simp) (ord_cons ?_ ord_nil)
                rotate_left 1
                all_goals
                  refine wpOp_of_listL rfl ?_
                  (first | ((with_reducible refine is_load ?_); (first | (refine own_ld (h := ?_)))) | ((with_reducible refine is_store ?_); (first | (refine own_stR (hO := hO) (h := ?_); clear hO; intro wv hO) | (refine own_st1 (hO := hO) (h := ?_); clear hO; intro wv hO))) | ((refine wpList_step (fun K hK => ?_)); go_simp; (first | ((refine hK _ _ ?_); clear hK K) | ((first | fail); (try simp only []); (refine hK _ _ ?_); clear hK K)))); (try simp only [Act.put]); (try simp only [List.setIfInBounds_toArray, List.set_cons_zero, List.set_cons_succ])
                  refine wpList_done (qk_intro ?_)
                refine wpAny_takePL 16 rfl (by kernel_rfl) (by kernel_rfl) (by kernel_rfl) (by intro c d v a w h; cases d <;> exact h) (by rfl) ?_
                (first | go_big_quiet_skip | (go_big_quiet_want; (go_big_quiet_op; (first | go_big_quiet_on | ((refine ⟨_, fun _ _ => rfl, ?_⟩); go_big_quiet_on))))); (refine wpQuiet_nil ?_); (try simp only [Act.put]); (try simp only [List.setIfInBounds_toArray, List.set_cons_zero, List.set_cons_succ])
                refine wpAny_takePL 17 rfl (by kernel_rfl) (by kernel_rfl) (by kernel_rfl) (by intro c d v a w h; cases d <;> exact h) (by rfl) ?_
                (first | go_big_quiet_skip | (go_big_quiet_want; (go_big_quiet_op; (first | go_big_quiet_on | ((refine ⟨_, fun _ _ => rfl, ?_⟩); go_big_quiet_on))))); (refine wpQuiet_nil ?_); (try simp only [Act.put]); (try simp only [List.setIfInBounds_toArray, List.set_cons_zero, List.set_cons_succ])
                refine wpAny_takePL 18 rfl (by kernel_rfl) (by kernel_rfl) (by kernel_rfl) (by intro c d v a w h; cases d <;> exact h) (by rfl) ?_
                (first | go_big_quiet_skip | (go_big_quiet_want; (go_big_quiet_op; (first | go_big_quiet_on | ((refine ⟨_, fun _ _ => rfl, ?_⟩); go_big_quiet_on))))); (refine wpQuiet_nil ?_); (try simp only [Act.put]); (try simp only [List.setIfInBounds_toArray, List.set_cons_zero, List.set_cons_succ])
                refine wpAny_all (rs := [19]) (by kernel_rfl) (by simp) (ord_cons ?_ ord_nil)
                rotate_left 1
                refine wpAny_takePL 16 rfl (by kernel_rfl) (by kernel_rfl) (by kernel_rfl) (by intro c d v a w h; cases d <;> exact h) (by rfl) ?_
                (first | go_big_quiet_skip | (go_big_quiet_want; (go_big_quiet_op; (first | go_big_quiet_on | ((refine ⟨_, fun _ _ => rfl, ?_⟩); go_big_quiet_on))))); (refine wpQuiet_nil ?_); (try simp only [Act.put]); (try simp only [List.setIfInBounds_toArray, List.set_cons_zero, List.set_cons_succ])
                refine wpAny_takePL 17 rfl (by kernel_rfl) (by kernel_rfl) (by kernel_rfl) (by intro c d v a w h; cases d <;> exact h) (by rfl) ?_
                (first | go_big_quiet_skip | (go_big_quiet_want; (go_big_quiet_op; (first | go_big_quiet_on | ((refine ⟨_, fun _ _ => rfl, ?_⟩); go_big_quiet_on))))); (refine wpQuiet_nil ?_); (try simp only [Act.put]); (try simp only [List.setIfInBounds_toArray, List.set_cons_zero, List.set_cons_succ])
                refine wpAny_takePL 18 rfl (by kernel_rfl) (by kernel_rfl) (by kernel_rfl) (by intro c d v a w h; cases d <;> exact h) (by rfl) ?_
                (first | go_big_quiet_skip | (go_big_quiet_want; (go_big_quiet_op; (first | go_big_quiet_on | ((refine ⟨_, fun _ _ => rfl, ?_⟩); go_big_quiet_on))))); (refine wpQuiet_nil ?_); (try simp only [Act.put]); (try simp only [List.setIfInBounds_toArray, List.set_cons_zero, List.set_cons_succ])
                refine wpAny_all (rs := [19]) (by kernel_rfl) (by simp) (ord_cons ?_ ord_nil)
                rotate_left 1
                all_goals
                  refine wpOp_of_listL rfl ?_
                  (first | ((with_reducible refine is_load ?_); (first | (refine own_ld (h := ?_)))) | ((with_reducible refine is_store ?_); (first | (refine own_stR (hO := hO) (h := ?_); clear hO; intro wv hO) | (refine own_st1 (hO := hO) (h := ?_); clear hO; intro wv hO))) | ((refine wpList_step (fun K hK => ?_)); go_simp; (first | ((refine hK _ _ ?_); clear hK K) | ((first | fail); (try simp only []); (refine hK _ _ ?_); clear hK K)))); (try simp only [Act.put]); (try simp only [List.setIfInBounds_toArray, List.set_cons_zero, List.set_cons_succ])
                  refine wpList_done (qk_intro ?_)
                refine wpAny_done (by kernel_rfl) ?_ _
                rotate_left
                refine wpAny_done (by kernel_rfl) ?_ _
                rotate_left
                all_goals
                  go_wp2_with (first | ((with_reducible refine is_load ?_); (first | (refine own_ld (h := ?_)))) | ((with_reducible refine is_store ?_); (first | (refine own_stR (hO := hO) (h := ?_); clear hO; intro wv hO) | (refine own_st1 (hO := hO) (h := ?_); clear hO; intro wv hO))))
                  go_roundw
                  case rel => exact ⟨j + 1, _, _, by omega, by go_num, tupd_ok HP.out (by rw [G3.out]; simp), tupd_ok HR.out (by rw [G4.out]; simp), hO⟩
                  case measure => simp [intOf]; omega
          · obtain rfl : j = 5 := by omega
            have A1 := Lib.hid (show tcs5 p = tcs5 (lowAt c (l.take (k + 1))) from tcs5_congr fun f hf => by rw [HP.out f hf, if_pos hf])
            have A2 := Lib.hid (show tcs5 r = tcs5 (highAt c (l.take (k + 1))) from tcs5_congr fun f hf => by rw [HR.out f hf, if_pos hf])
            go_wp2_with (first | ((with_reducible refine is_load ?_); (first | (refine own_ld (h := ?_)))) | ((with_reducible refine is_store ?_); (first | (refine own_stR (hO := hO) (h := ?_); clear hO; intro wv hO) | (refine own_st1 (hO := hO) (h := ?_); clear hO; intro wv hO))))
            go_roundw
            case rel => exact ⟨k + 1, by omega, by go_num, by rw [F1.out], by rw [← A1.out, ← A2.out]; exact hO⟩
            case measure => simp [intOf]; omega
    · obtain rfl : k = l.length := by omega
      rw [List.take_length] at hO
      clear hlt hk
      have qs : (l.take l.length) = l := List.take_length
      simp only [qs]
      cases ok with
      | true =>
        have hvc := HH.out.vld rfl
        have hvd := fun w ht => valid_is (vld_iff.2 hvc) w ht
        have A1 : tcs5 (lowAt c l) = _ := tcs5_all (HH.out.low rfl)
        have A2 : tcs5 (highAt c l) = _ := tcs5_all (HH.out.high rfl)
        rw [A1, A2] at hO
        rw [← HS.out]
        clear A1 A2 hvc qs
        go_wp2_with (first | ((with_reducible refine is_load ?_); (first | (refine own_ld (h := ?_)))) | ((with_reducible refine is_store ?_); (first | (refine own_stR (hO := hO) (h := ?_); clear hO; intro wv hO) | (refine own_st1 (hO := hO) (h := ?_); clear hO; intro wv hO))) | ((with_reducible refine is_alloc ?_); (first | (refine own_al (o := ⟨some 14, _, _, _, _, _⟩) (hO := hO) (h := ?_); clear hO; intro n14 wv hO))) | (go_at_call 13; refine (hvd _ (hO.tops ht (by simp))).mono ?_; rintro e wv ⟨rfl, hb⟩; replace hO := hO.call hb; clear hb) | (go_at_call 15; refine (sane_any _ (hO.tops ht (by simp))).mono ?_; rintro e wv ⟨rfl, hb⟩; replace hO := hO.call hb; clear hb))
        go_ret
        exact ⟨rfl, hO.keep.below⟩
      | false =>
        have hc : c = zeroBx := HH.out.none rfl
        subst hc
        have hz := run_eql_z
        rw [← HS.out]
        clear qs
        (repeat' (first | go_skip | ((first | ((with_reducible apply wp_move_bool); (focus rfl)) | ((with_reducible apply wp_move_boolG); (focus rfl); (focus rfl))); intro cb hcb; (cases cb <;> (first | (with_reducible exact no_tf hcb) | (with_reducible exact no_ft hcb) | skip)); all_goals ((try simp only [Act.put]); (try simp only [List.setIfInBounds_toArray, List.set_cons_zero, List.set_cons_succ]))) | (go_big_may; (first | ((with_reducible refine is_load ?_); (first | (refine own_ld (h := ?_)))) | ((with_reducible refine is_store ?_); (first | (refine own_stR (hO := hO) (h := ?_); clear hO; intro wv hO) | (refine own_st1 (hO := hO) (h := ?_); clear hO; intro wv hO))) | ((with_reducible refine is_box ?_); (first | (refine own_bx (o := ⟨some 3, _, _, _, _, _⟩) (hO := hO) (h := ?_); clear hO; intro n3 wv hO))) | ((with_reducible refine is_alloc ?_); (first | (refine own_al (o := ⟨some 7, _, _, _, _, _⟩) (hO := hO) (h := ?_); clear hO; intro n7 wv hO) | (refine own_al (o := ⟨some 10, _, _, _, _, _⟩) (hO := hO) (h := ?_); clear hO; intro n10 wv hO) | (refine own_al (o := ⟨some 11, _, _, _, _, _⟩) (hO := hO) (h := ?_); clear hO; intro n11 wv hO) | (refine own_al (o := ⟨some 14, _, _, _, _, _⟩) (hO := hO) (h := ?_); clear hO; intro n14 wv hO))) | (go_at_call 15; refine (sane_any _ (hO.tops ht (by simp))).mono ?_; rintro e wv ⟨rfl, hb⟩; replace hO := hO.call hb; clear hb))) | go_values | go_skip | go_guarded | go_step | go_upon | go_back | (simp only at *; go_simp) | (go_values <;> (try go_simp)) | (go_ite <;> go_prune <;> (try go_simp)) | (split <;> (first | (rename_i hx; exact (hx _ rfl).elim) | go_prune))))
        go_ret
        exact ⟨rfl, hO.keep.below⟩
end Go.Proofs.YtnhjcbmlplfpmaaDoor
