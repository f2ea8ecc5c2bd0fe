/- Encode. -/
import Derived.Test.YtjfiipbjphabeaaDoorME
import Derived.Test.YtjfiipbjphabeaaDoorMD
import Derived.Test.YtjfiipbjphabeaaDoorMB
namespace Go.Proofs.YtjfiipbjphabeaaDoor
open Go.RowKit
set_option maxRecDepth 100000

section
variable {P : Program} {ops : Array Oper} {rest : List Oper} {o : Oper} {a : Act} {Q : Exit → Act → World → Prop} {M : List Nat} {w0 w w' : World} {X : List Chunk} {R : List Row} {S : List Ro}
theorem is_make {d ty pos af g t x y} (h : wpList P ops Q (⟨d, .makeSlice t x y, ty, pos, af, g⟩ :: rest) a w) : wpList P ops Q (⟨d, .makeSlice t x y, ty, pos, af, g⟩ :: rest) a w := h
/-- make([]T, n, c), T of one cell -/
theorem own_makeB (hO : Own M w0 X R S w) (hw : Region.wanted o (yielded ops a.tmps) = true) {t e bytes : Nat} {x y : Operand} (ho : o.op = .makeSlice t x y) (ht : SliceT P t e 1 bytes) {z : Value} (hz : ZeroT P e [z]) {l c' : Int} (hx : a.eval x = .int .i64 l) (hy : a.eval y = .int .i64 c') {n c : Nat} (hl : l = (n : Int)) (hc : c' = (c : Int)) (hnc : n ≤ c) (hb : bytes ≤ 1024 ∧ c ≤ 1073741824) {xs : List Value} (hxs : List.replicate n z = xs)
    (h : ∀ g w', Own M w0 X (⟨.slice (some ⟨g, 0, none⟩) n c, n, xs, e, 1⟩ :: R) S w' → wpList P ops Q rest (a.put o.dst (.slice (some ⟨g, 0, none⟩) n c)) w') : wpList P ops Q (o :: rest) a w := by
  obtain ⟨hu, _, i, z', hi, hz', hi1, hi2, _⟩ := ht
  subst hl
  subst hc
  subst hxs
  have hz2 : z'.cells = #[z] := by
    unfold ZeroT at hz
    simpa [hi, hz'] using hz
  have hbytes : (i.bytes : Int) * (c : Int) ≤ 281474976710656 := by
    have h1 : i.bytes * c ≤ 1024 * 1073741824 := Nat.mul_le_mul (by omega) hb.2
    have h2 : ((i.bytes * c : Nat) : Int) ≤ 281474976710656 := by omega
    rwa [Int.natCast_mul] at h2
  have hr := run_make (P := P) w t e i z' hu hi hz' .i64 .i64 (n : Int) (c : Int) (by omega) (by omega) hbytes (by omega)
  rw [Int.toNat_natCast, Int.toNat_natCast, hi1, Nat.mul_one, hz2] at hr
  have hm : c ≤ maxLen := by unfold maxLen; omega
  have hrow : (w.alloc (.cells (madeCells #[z] c) e (0, 0))).ownsRow w.heap.size e 1 (.slice (some ⟨w.heap.size, 0, none⟩) n c) n (List.replicate n z) := by
    refine ⟨by simp, .inr ⟨w.heap.size, c, _, rfl, Nat.le_refl _, heap_alloc_new w _, hnc, hm, by rw [size_madeCells, Nat.mul_one], ?_⟩⟩
    rw [toList_madeCells_one, Nat.mul_one, List.take_replicate, Nat.min_eq_left hnc]
  exact wpList_val hw _ _ (by unfold execOp; simp only [ho, hx, hy, Sem.run_bind, hr, Sem.run_pure, Result.andThen_ok]) (h _ _ (hO.gainRow ((Below.refl _ _).alloc (Nat.le_refl _) _) hrow))
end
theorem zero_u8 : ZeroT Tryd.prog 5 [.int .u8 0] := by unfold ZeroT; kernel_rfl
theorem bc_zero (n : Nat) : List.replicate n (Value.int .u8 0) = bc (List.replicate n 0) := by simp [bc]
/-- what Encode leaves -/
def EncPost (k : Int) (l : List Int) (w : World) (e : Ending) (w' : World) : Prop :=
  ∃ v, e = .returned (.tuple #[v, .int .i64 k]) ∧ w'.ownsRow w.heap.size 5 1 v l.length (bc l) ∧ Below w.heap.size w w'
theorem enc_nil {k : Int} {w w' : World} (hb : Below w.heap.size w w') : EncPost k [] w (.returned (.tuple #[.slice none 0 0, .int .i64 k])) w' :=
  ⟨_, rfl, World.ownsRow_nil _ _ _ _, hb⟩
theorem encLen_eq (p : Int) : (encLen p : Int) = 20 + lenF p := by
  unfold encLen lenF
  rcases proto_cases p with h | h | h | ⟨q1, q2, q3⟩
  · rw [h]; rfl
  · rw [h]; rfl
  · rw [h]; rfl
  · rw [q1, q2, q3]; rfl
set_option maxHeartbeats 8000000 in
theorem encode_any (s d p sp dp t f : Int) (pl : List Int) (pv : Value) (w : World) (k : PkOk ⟨⟨s, d, p, sp, dp⟩, t, f, pl⟩) (hv : IsB w pv pl) (hl : pl.length ≤ 1048576) :
    Calls Tryd.prog 26 #[.agg (pcs ⟨s, d, p, sp, dp⟩ t f pv).toArray] w (EncPost (encE ⟨⟨s, d, p, sp, dp⟩, t, f, pl⟩) (encF ⟨⟨s, d, p, sp, dp⟩, t, f, pl⟩) w) := by
  have hO := own_roC hv
  obtain ⟨a, c, rfl, hc, -, h0, h1⟩ := IsCells.view hv
  obtain ⟨⟨s0, s1⟩, ⟨d0, d1⟩, ⟨p0, p1⟩, ⟨sp0, sp1⟩, dp0, dp1⟩ := k.h
  have hcod := fun w => encodable_any ⟨s, d, p, sp, dp⟩ t f (.slice a pl.length c) w
  dsimp only at *
  have hlen := fun w => lenF_any p w
  cases ho : encOkF ⟨s, d, p, sp, dp⟩ t f
  · have HE := Lib.hid (show encE ⟨⟨s, d, p, sp, dp⟩, t, f, pl⟩ = 1 by unfold encE; dsimp only; rw [ho]; rfl)
    have HF := Lib.hid (show encF ⟨⟨s, d, p, sp, dp⟩, t, f, pl⟩ = [] by unfold encF; rw [HE.out]; rfl)
    rw [ho] at hcod
    rw [HE.out, HF.out]
    go_enter Tryd.func26, Tryd.ntmps26
    go_wp2_with (first | ((with_reducible refine is_load ?_); (first | (refine own_ldP hO (h := ?_)) | (refine own_ld (h := ?_)))) | ((with_reducible refine is_store ?_); (first | (refine own_stRp (hO := hO) (h := ?_); clear hO; intro wv hO) | (refine own_st1p (hO := hO) (h := ?_); clear hO; intro wv hO) | (refine own_stR (hO := hO) (h := ?_); clear hO; intro wv hO) | (refine own_st1 (hO := hO) (h := ?_); clear hO; intro wv hO))) | ((with_reducible refine is_box ?_); (first | (refine own_bx (o := ⟨some 1, _, _, _, _, _⟩) (hO := hO) (h := ?_); clear hO; intro n1 wv hO))) | ((with_reducible refine is_append ?_); (first | (refine own_ap (o := ⟨some 30, _, _, _, _, _⟩) (hO := hO) (h := ?_); clear hO; intro g30 c30 wv hO))) | (go_at_call 45; refine (hcod _).mono ?_; rintro e wv ⟨rfl, hb⟩; replace hO := hO.call hb; clear hb) | ((with_reducible refine is_load ?_); (refine own_ldW (hO := hO) (h := ?_))) | ((with_reducible refine is_store ?_); (refine own_stW (hO := hO) (h := ?_); clear hO; intro wv hO)))
    go_ret2
    exact enc_nil hO.keep.below
  have ht := encOk_of k.f0 k.f1 ho
  obtain ⟨t0, t1, f0, f1, -, -, -, -⟩ := ht
  dsimp only at *
  rw [ho] at hcod
  by_cases hsz : 576 < encLen p + pl.length
  · have HE := Lib.hid (show encE ⟨⟨s, d, p, sp, dp⟩, t, f, pl⟩ = 3 by unfold encE; dsimp only; rw [ho, if_pos rfl, if_pos hsz])
    have HF := Lib.hid (show encF ⟨⟨s, d, p, sp, dp⟩, t, f, pl⟩ = [] by unfold encF; rw [HE.out]; rfl)
    rw [HE.out, HF.out]
    have hln := encLen_eq p
    have hn20 : 0 ≤ lenF p ∧ lenF p ≤ 20 := by have := encLen_le p; omega
    have q : decide (576 - (20 + lenF p) < (pl.length : Int)) = true := by simp; omega
    clear hsz hln ho
    generalize lenF p = n at *
    go_enter Tryd.func26, Tryd.ntmps26
    go_wp2_with (first | ((with_reducible refine is_load ?_); (first | (refine own_ldP hO (h := ?_)) | (refine own_ld (h := ?_)))) | ((with_reducible refine is_store ?_); (first | (refine own_stRp (hO := hO) (h := ?_); clear hO; intro wv hO) | (refine own_st1p (hO := hO) (h := ?_); clear hO; intro wv hO) | (refine own_stR (hO := hO) (h := ?_); clear hO; intro wv hO) | (refine own_st1 (hO := hO) (h := ?_); clear hO; intro wv hO))) | ((with_reducible refine is_box ?_); (first | (refine own_bx (o := ⟨some 1, _, _, _, _, _⟩) (hO := hO) (h := ?_); clear hO; intro n1 wv hO))) | ((with_reducible refine is_append ?_); (first | (refine own_ap (o := ⟨some 30, _, _, _, _, _⟩) (hO := hO) (h := ?_); clear hO; intro g30 c30 wv hO))) | (go_at_call 45; refine (hcod _).mono ?_; rintro e wv ⟨rfl, hb⟩; replace hO := hO.call hb; clear hb) | (go_at_call 46; refine (hlen _).mono ?_; rintro e _ ⟨rfl, rfl⟩) | ((with_reducible refine is_load ?_); (refine own_ldW (hO := hO) (h := ?_))) | ((with_reducible refine is_store ?_); (refine own_stW (hO := hO) (h := ?_); clear hO; intro wv hO)))
    go_ret2
    exact enc_nil hO.keep.below
  have HE := Lib.hid (show encE ⟨⟨s, d, p, sp, dp⟩, t, f, pl⟩ = 0 by unfold encE; dsimp only; rw [ho, if_pos rfl, if_neg hsz])
  have HF := Lib.hid (show encF ⟨⟨s, d, p, sp, dp⟩, t, f, pl⟩ = encB ⟨⟨s, d, p, sp, dp⟩, t, f, pl⟩ by unfold encF; rw [HE.out]; rfl)
  have hbM := encM_ok k ho (by dsimp only; omega)
  have hg9 := (encM_good k ho (by dsimp only; omega))
  have hb2 := encM_length ⟨⟨s, d, p, sp, dp⟩, t, f, pl⟩
  have hnM := encM_length ⟨⟨s, d, p, sp, dp⟩, t, f, pl⟩
  have hgt9 : gt (encM ⟨⟨s, d, p, sp, dp⟩, t, f, pl⟩) 9 = p := by
    have := congrArg (fun q => q.h.proto) hg9.2.2.2.2
    exact this
  rw [HE.out, HF.out, encB_eq]
  have hsum := fun (hu : sumAtF p + 2 ≤ ((encLen p + pl.length : Nat) : Int)) v w hw => setSums_any (v := v) (l := encM ⟨⟨s, d, p, sp, dp⟩, t, f, pl⟩) w hw hbM (by rw [hnM]; have := encLen_le p; dsimp only; omega) (by rw [hnM]; dsimp only; omega) (by rw [hgt9, hnM]; exact hu)
  clear hg9 hgt9 hbM hb2
  rcases proto_cases p with rfl | rfl | rfl | ⟨q1, q2, q3⟩
  · have hEL : encLen 6 = 40 := rfl
    have hLF : lenF 6 = 20 := rfl
    have hSA : sumAtF 6 = 36 := rfl
    have hEM : encM ⟨⟨s, d, 6, sp, dp⟩, t, f, pl⟩ = hdrF (((encHd ⟨⟨s, d, 6, sp, dp⟩, t, f, pl⟩).set 32 80).set 33 f) ⟨s, d, 6, sp, dp⟩ := rfl
    have hEH : encHd ⟨⟨s, d, 6, sp, dp⟩, t, f, pl⟩ = p16 ((((List.replicate 40 0 ++ pl).set 0 69).set 8 t).set 9 6) 2 ((40 : Int) + pl.length) := by
      show p16 ((((List.replicate (encLen 6) 0 ++ pl).set 0 69).set 8 t).set 9 6) 2 ((encLen 6 : Int) + pl.length) = _
      rw [hEL]; rfl
    replace hsum := hsum (by rw [hSA, hEL]; omega)
    rw [hEM] at hsum hnM ⊢
    rw [hEH] at hsum hnM ⊢
    rw [hEL] at hsz
    dsimp only at hnM
    rw [hEL] at hnM
    have HZ := Lib.hid (bc_zero 40)
    have hZl : (List.replicate 40 (0 : Int)).length = 40 := List.length_replicate
    clear hEM hEH
    generalize List.replicate 40 (0 : Int) = Z at *
    obtain ⟨N, hN⟩ : ∃ N, 40 + pl.length = N := ⟨_, rfl⟩
    have hNi : (40 : Int) + pl.length = (N : Int) := by omega
    rw [hNi] at hsum hnM ⊢
    rw [hN] at hnM
    have hn0 : (Z ++ pl).length = N := by rw [List.length_append, hZl, hN]
    rw [hLF] at hlen
    clear ho hNi hZl hEL hLF hSA
    generalize hL0 : Z ++ pl = L0 at *
    have hn1 : (((L0.set 0 69).set 8 t).set 9 6).length = N := by simp [hn0]
    generalize hL1 : ((L0.set 0 69).set 8 t).set 9 6 = L1 at *
    have h1 := fun v w hw => put16_any (v := v) (l := L1) 2 (N : Int) w hw (by omega) (by omega) (by omega) (by omega)
    have hn2 : (p16 L1 2 (N : Int)).length = N := by rw [p16_length, hn1]
    generalize hL2 : p16 L1 2 (N : Int) = L2 at *
    have HN0 := Lib.hid hn0
    have HN1 := Lib.hid hn1
    have HL0 := Lib.hid hL0
    have HL1 := Lib.hid hL1
    have HN2 := Lib.hid hn2
    clear hn0 hn1 hL0 hL1 hL2
    generalize hL3 : (L2.set 32 80).set 33 f = L3 at *
    have hn3 : L3.length = N := by rw [← hL3]; simp [hn2]
    have h4 := fun v w hw => putHeader_any (v := v) (l := L3) ⟨s, d, 6, sp, dp⟩ w hw (by omega) (by omega) k.h (fun _ => by omega)
    generalize hL4 : hdrF L3 ⟨s, d, 6, sp, dp⟩ = L4 at *
    have HN3 := Lib.hid hn3
    have HN4 := Lib.hid hnM
    clear hn2 hn3 hnM hL4
    generalize hL5 : sumsF L4 = L5 at *
    have HN5 := Lib.hid (show L5.length = N by rw [← hL5, sumsF_length, HN4.out])
    clear hL5
    replace hL3 := Lib.hid hL3
    go_enter Tryd.func26, Tryd.ntmps26
    go_wp2_with (first | ((with_reducible refine is_load ?_); (first | (refine own_ldP hO (h := ?_)) | (refine own_ld (h := ?_)))) | ((with_reducible refine is_store ?_); (first | (refine own_stRp (hO := hO) (h := ?_); clear hO; intro wv hO) | (refine own_st1p (hO := hO) (h := ?_); clear hO; intro wv hO) | (refine own_stR (hO := hO) (h := ?_); clear hO; intro wv hO) | (refine own_st1 (hO := hO) (h := ?_); clear hO; intro wv hO))) | ((with_reducible refine is_box ?_); (first | (refine own_bx (o := ⟨some 1, _, _, _, _, _⟩) (hO := hO) (h := ?_); clear hO; intro n1 wv hO))) | ((with_reducible refine is_append ?_); (first | (refine own_ap (o := ⟨some 30, _, _, _, _, _⟩) (hO := hO) (h := ?_); clear hO; intro g30 c30 wv hO))) | (go_at_call 45; refine (hcod _).mono ?_; rintro e wv ⟨rfl, hb⟩; replace hO := hO.call hb; clear hb) | (go_at_call 46; refine (hlen _).mono ?_; rintro e _ ⟨rfl, rfl⟩) | ((with_reducible refine is_make ?_); (refine own_makeB (o := ⟨some 26, _, _, _, _, _⟩) hO (by rfl) rfl slice_u8 zero_u8 rfl rfl (n := 40) (c := N) (by first | rfl | omega | (simp; omega)) (by first | rfl | omega | (simp; omega)) (by omega) (by omega) HZ.out ?_); clear hO; intro n26 wv hO) | ((with_reducible refine is_append ?_); (refine own_appendP (o := ⟨some 30, _, _, _, _, _⟩) hO rfl rfl slice_u8 rfl rfl (src_of_cells (IsCells.below hv hO.keep.below) (by simp [bc_length]; try omega)) (bc_one _) (fun _ => by repeat (first | exact UpdR.here | apply UpdR.there)) (by first | omega | (simp; omega)) (by unfold maxLen; first | omega | (simp; omega)) (by first | omega | (simp; done) | (simp; omega)) ?_); clear hO; intro g30 c30 wv hO) | ((with_reducible refine is_load ?_); (refine own_ldW (hO := hO) (h := ?_))) | ((with_reducible refine is_store ?_); (refine own_stW (hO := hO) (h := ?_); clear hO; intro wv hO)))
    rw [← bc_append, hN, HL0.out] at hO
    have hn0 := HN0.out
    apply wp_via
    case h =>
      refine wp_region_any (by kernel_rfl) ?_
      replace hO := hO.drew
      refine wpAny_takePL 0 rfl (by kernel_rfl) (by kernel_rfl) (by kernel_rfl) (by rintro c d v a w ⟨h, _⟩; cases h) (by rfl) ?_
      (first | go_big_quiet_skip | (go_big_quiet_want; (go_big_quiet_op; (first | go_big_quiet_on | ((refine ⟨_, fun _ _ => rfl, ?_⟩); go_big_quiet_on))))); (refine wpQuiet_nil ?_); (try simp only [Act.put]); (try simp only [List.setIfInBounds_toArray, List.set_cons_zero, List.set_cons_succ])
      refine wpAny_takePL 1 rfl (by kernel_rfl) (by kernel_rfl) (by kernel_rfl) (by rintro c d v a w ⟨h, _⟩; cases h) (by rfl) ?_
      (first | go_big_quiet_skip | (go_big_quiet_want; (go_big_quiet_op; (first | go_big_quiet_on | ((refine ⟨_, fun _ _ => rfl, ?_⟩); go_big_quiet_on))))); (refine wpQuiet_nil ?_); (try simp only [Act.put]); (try simp only [List.setIfInBounds_toArray, List.set_cons_zero, List.set_cons_succ])
      refine wpAny_takePL 2 rfl (by kernel_rfl) (by kernel_rfl) (by kernel_rfl) (by rintro c d v a w ⟨h, _⟩; cases h) (by rfl) ?_
      (first | go_big_quiet_skip | (go_big_quiet_want; (go_big_quiet_op; (first | go_big_quiet_on | ((refine ⟨_, fun _ _ => rfl, ?_⟩); go_big_quiet_on))))); (refine wpQuiet_nil ?_); (try simp only [Act.put]); (try simp only [List.setIfInBounds_toArray, List.set_cons_zero, List.set_cons_succ])
      refine wpAny_takePL 3 rfl (by kernel_rfl) (by kernel_rfl) (by kernel_rfl) (by rintro c d v a w ⟨h, _⟩; cases h) (by rfl) ?_
      (first | go_big_quiet_skip | (go_big_quiet_want; (go_big_quiet_op; (first | go_big_quiet_on | ((refine ⟨_, fun _ _ => rfl, ?_⟩); go_big_quiet_on))))); (refine wpQuiet_nil ?_); (try simp only [Act.put]); (try simp only [List.setIfInBounds_toArray, List.set_cons_zero, List.set_cons_succ])
      refine wpAny_takePL 6 rfl (by kernel_rfl) (by kernel_rfl) (by kernel_rfl) (by rintro c d v a w ⟨h, _⟩; cases h) (by rfl) ?_
      (first | go_big_quiet_skip | (go_big_quiet_want; (go_big_quiet_op; (first | go_big_quiet_on | ((refine ⟨_, fun _ _ => rfl, ?_⟩); go_big_quiet_on))))); (refine wpQuiet_nil ?_); (try simp only [Act.put]); (try simp only [List.setIfInBounds_toArray, List.set_cons_zero, List.set_cons_succ])
      refine wpAny_takePL 7 rfl (by kernel_rfl) (by kernel_rfl) (by kernel_rfl) (by rintro c d v a w ⟨h, _⟩; cases h) (by rfl) ?_
      (first | go_big_quiet_skip | (go_big_quiet_want; (go_big_quiet_op; (first | go_big_quiet_on | ((refine ⟨_, fun _ _ => rfl, ?_⟩); go_big_quiet_on))))); (refine wpQuiet_nil ?_); (try simp only [Act.put]); (try simp only [List.setIfInBounds_toArray, List.set_cons_zero, List.set_cons_succ])
      refine wpAny_takePL 9 rfl (by kernel_rfl) (by kernel_rfl) (by kernel_rfl) (by rintro c d v a w ⟨h, _⟩; cases h) (by rfl) ?_
      (first | go_big_quiet_skip | (go_big_quiet_want; (go_big_quiet_op; (first | go_big_quiet_on | ((refine ⟨_, fun _ _ => rfl, ?_⟩); go_big_quiet_on))))); (refine wpQuiet_nil ?_); (try simp only [Act.put]); (try simp only [List.setIfInBounds_toArray, List.set_cons_zero, List.set_cons_succ])
      refine wpAny_all (rs := [4, 8, 10]) (by kernel_rfl) (by simp) (ord_cons ?_ (ord_cons ?_ (ord_cons ?_ ord_nil)))
      rotate_left 3
      all_goals
        refine wpOp_of_listL rfl ?_
        (first | ((with_reducible refine is_load ?_); (first | (refine own_ld (h := ?_)))) | ((with_reducible refine is_store ?_); (first | (refine own_stR (hO := hO) (h := ?_); clear hO; intro wv hO) | (refine own_st1 (hO := hO) (h := ?_); clear hO; intro wv hO))) | ((with_reducible refine is_load ?_); (refine own_ldW (hO := hO) (h := ?_))) | ((with_reducible refine is_store ?_); (refine own_stW (hO := hO) (h := ?_); clear hO; intro wv hO)) | ((refine wpList_step (fun K hK => ?_)); go_simp; (first | ((refine hK _ _ ?_); clear hK K)))); (try simp only [Act.put]); (try simp only [List.setIfInBounds_toArray, List.set_cons_zero, List.set_cons_succ])
        refine wpList_done (qk_intro ?_)
      refine wpAny_takePL 5 rfl (by kernel_rfl) (by kernel_rfl) (by kernel_rfl) (by rintro c d v a w ⟨h, _⟩; cases h) (by rfl) ?_
      (first | go_big_quiet_skip | (go_big_quiet_want; (go_big_quiet_op; (first | go_big_quiet_on | ((refine ⟨_, fun _ _ => rfl, ?_⟩); go_big_quiet_on))))); (refine wpQuiet_nil ?_); (try simp only [Act.put]); (try simp only [List.setIfInBounds_toArray, List.set_cons_zero, List.set_cons_succ])
      refine wpAny_all (rs := [8, 10]) (by kernel_rfl) (by simp) (ord_cons ?_ (ord_cons ?_ ord_nil))
      rotate_left 2
      refine wpAny_all (rs := [4, 10]) (by kernel_rfl) (by simp) (ord_cons ?_ (ord_cons ?_ ord_nil))
      rotate_left 2
      refine wpAny_all (rs := [4, 8]) (by kernel_rfl) (by simp) (ord_cons ?_ (ord_cons ?_ ord_nil))
      rotate_left 2
      all_goals
        refine wpOp_of_listL rfl ?_
        (first | ((with_reducible refine is_load ?_); (first | (refine own_ld (h := ?_)))) | ((with_reducible refine is_store ?_); (first | (refine own_stR (hO := hO) (h := ?_); clear hO; intro wv hO) | (refine own_st1 (hO := hO) (h := ?_); clear hO; intro wv hO))) | ((with_reducible refine is_load ?_); (refine own_ldW (hO := hO) (h := ?_))) | ((with_reducible refine is_store ?_); (refine own_stW (hO := hO) (h := ?_); clear hO; intro wv hO)) | ((refine wpList_step (fun K hK => ?_)); go_simp; (first | ((refine hK _ _ ?_); clear hK K)))); (try simp only [Act.put]); (try simp only [List.setIfInBounds_toArray, List.set_cons_zero, List.set_cons_succ])
        refine wpList_done (qk_intro ?_)
      refine wpAny_all (rs := [10]) (by kernel_rfl) (by simp) (ord_cons ?_ ord_nil)
      rotate_left 1
      refine wpAny_takePL 11 rfl (by kernel_rfl) (by kernel_rfl) (by kernel_rfl) (by rintro c d v a w ⟨h, _⟩; cases h) (by rfl) ?_
      (first | go_big_quiet_skip | (go_big_quiet_want; (go_big_quiet_op; (first | go_big_quiet_on | ((refine ⟨_, fun _ _ => rfl, ?_⟩); go_big_quiet_on))))); (refine wpQuiet_nil ?_); (try simp only [Act.put]); (try simp only [List.setIfInBounds_toArray, List.set_cons_zero, List.set_cons_succ])
      refine wpAny_all (rs := [8, 12]) (by kernel_rfl) (by simp) (ord_cons ?_ (ord_cons ?_ ord_nil))
      rotate_left 2
      refine wpAny_takePL 5 rfl (by kernel_rfl) (by kernel_rfl) (by kernel_rfl) (by rintro c d v a w ⟨h, _⟩; cases h) (by rfl) ?_
      (first | go_big_quiet_skip | (go_big_quiet_want; (go_big_quiet_op; (first | go_big_quiet_on | ((refine ⟨_, fun _ _ => rfl, ?_⟩); go_big_quiet_on))))); (refine wpQuiet_nil ?_); (try simp only [Act.put]); (try simp only [List.setIfInBounds_toArray, List.set_cons_zero, List.set_cons_succ])
      refine wpAny_all (rs := [10]) (by kernel_rfl) (by simp) (ord_cons ?_ ord_nil)
      rotate_left 1
      refine wpAny_all (rs := [4]) (by kernel_rfl) (by simp) (ord_cons ?_ ord_nil)
      rotate_left 1
      refine wpAny_takePL 5 rfl (by kernel_rfl) (by kernel_rfl) (by kernel_rfl) (by rintro c d v a w ⟨h, _⟩; cases h) (by rfl) ?_
      (first | go_big_quiet_skip | (go_big_quiet_want; (go_big_quiet_op; (first | go_big_quiet_on | ((refine ⟨_, fun _ _ => rfl, ?_⟩); go_big_quiet_on))))); (refine wpQuiet_nil ?_); (try simp only [Act.put]); (try simp only [List.setIfInBounds_toArray, List.set_cons_zero, List.set_cons_succ])
      refine wpAny_takePL 11 rfl (by kernel_rfl) (by kernel_rfl) (by kernel_rfl) (by rintro c d v a w ⟨h, _⟩; cases h) (by rfl) ?_
      (first | go_big_quiet_skip | (go_big_quiet_want; (go_big_quiet_op; (first | go_big_quiet_on | ((refine ⟨_, fun _ _ => rfl, ?_⟩); go_big_quiet_on))))); (refine wpQuiet_nil ?_); (try simp only [Act.put]); (try simp only [List.setIfInBounds_toArray, List.set_cons_zero, List.set_cons_succ])
      refine wpAny_all (rs := [8, 12]) (by kernel_rfl) (by simp) (ord_cons ?_ (ord_cons ?_ ord_nil))
      rotate_left 2
      refine wpAny_all (rs := [4]) (by kernel_rfl) (by simp) (ord_cons ?_ ord_nil)
      rotate_left 1
      all_goals
        refine wpOp_of_listL rfl ?_
        (first | ((with_reducible refine is_load ?_); (first | (refine own_ld (h := ?_)))) | ((with_reducible refine is_store ?_); (first | (refine own_stR (hO := hO) (h := ?_); clear hO; intro wv hO) | (refine own_st1 (hO := hO) (h := ?_); clear hO; intro wv hO))) | ((with_reducible refine is_load ?_); (refine own_ldW (hO := hO) (h := ?_))) | ((with_reducible refine is_store ?_); (refine own_stW (hO := hO) (h := ?_); clear hO; intro wv hO)) | ((refine wpList_step (fun K hK => ?_)); go_simp; (first | ((refine hK _ _ ?_); clear hK K)))); (try simp only [Act.put]); (try simp only [List.setIfInBounds_toArray, List.set_cons_zero, List.set_cons_succ])
        refine wpList_done (qk_intro ?_)
      refine wpAny_takePL 11 rfl (by kernel_rfl) (by kernel_rfl) (by kernel_rfl) (by rintro c d v a w ⟨h, _⟩; cases h) (by rfl) ?_
      (first | go_big_quiet_skip | (go_big_quiet_want; (go_big_quiet_op; (first | go_big_quiet_on | ((refine ⟨_, fun _ _ => rfl, ?_⟩); go_big_quiet_on))))); (refine wpQuiet_nil ?_); (try simp only [Act.put]); (try simp only [List.setIfInBounds_toArray, List.set_cons_zero, List.set_cons_succ])
      refine wpAny_all (rs := [12]) (by kernel_rfl) (by simp) (ord_cons ?_ ord_nil)
      rotate_left 1
      refine wpAny_all (rs := [12]) (by kernel_rfl) (by simp) (ord_cons ?_ ord_nil)
      rotate_left 1
      refine wpAny_all (rs := [8]) (by kernel_rfl) (by simp) (ord_cons ?_ ord_nil)
      rotate_left 1
      refine wpAny_takePL 11 rfl (by kernel_rfl) (by kernel_rfl) (by kernel_rfl) (by rintro c d v a w ⟨h, _⟩; cases h) (by rfl) ?_
      (first | go_big_quiet_skip | (go_big_quiet_want; (go_big_quiet_op; (first | go_big_quiet_on | ((refine ⟨_, fun _ _ => rfl, ?_⟩); go_big_quiet_on))))); (refine wpQuiet_nil ?_); (try simp only [Act.put]); (try simp only [List.setIfInBounds_toArray, List.set_cons_zero, List.set_cons_succ])
      refine wpAny_all (rs := [12]) (by kernel_rfl) (by simp) (ord_cons ?_ ord_nil)
      rotate_left 1
      refine wpAny_takePL 5 rfl (by kernel_rfl) (by kernel_rfl) (by kernel_rfl) (by rintro c d v a w ⟨h, _⟩; cases h) (by rfl) ?_
      (first | go_big_quiet_skip | (go_big_quiet_want; (go_big_quiet_op; (first | go_big_quiet_on | ((refine ⟨_, fun _ _ => rfl, ?_⟩); go_big_quiet_on))))); (refine wpQuiet_nil ?_); (try simp only [Act.put]); (try simp only [List.setIfInBounds_toArray, List.set_cons_zero, List.set_cons_succ])
      refine wpAny_takePL 11 rfl (by kernel_rfl) (by kernel_rfl) (by kernel_rfl) (by rintro c d v a w ⟨h, _⟩; cases h) (by rfl) ?_
      (first | go_big_quiet_skip | (go_big_quiet_want; (go_big_quiet_op; (first | go_big_quiet_on | ((refine ⟨_, fun _ _ => rfl, ?_⟩); go_big_quiet_on))))); (refine wpQuiet_nil ?_); (try simp only [Act.put]); (try simp only [List.setIfInBounds_toArray, List.set_cons_zero, List.set_cons_succ])
      refine wpAny_all (rs := [12]) (by kernel_rfl) (by simp) (ord_cons ?_ ord_nil)
      rotate_left 1
      refine wpAny_all (rs := [12]) (by kernel_rfl) (by simp) (ord_cons ?_ ord_nil)
      rotate_left 1
      refine wpAny_all (rs := [8]) (by kernel_rfl) (by simp) (ord_cons ?_ ord_nil)
      rotate_left 1
      refine wpAny_takePL 5 rfl (by kernel_rfl) (by kernel_rfl) (by kernel_rfl) (by rintro c d v a w ⟨h, _⟩; cases h) (by rfl) ?_
      (first | go_big_quiet_skip | (go_big_quiet_want; (go_big_quiet_op; (first | go_big_quiet_on | ((refine ⟨_, fun _ _ => rfl, ?_⟩); go_big_quiet_on))))); (refine wpQuiet_nil ?_); (try simp only [Act.put]); (try simp only [List.setIfInBounds_toArray, List.set_cons_zero, List.set_cons_succ])
      refine wpAny_takePL 11 rfl (by kernel_rfl) (by kernel_rfl) (by kernel_rfl) (by rintro c d v a w ⟨h, _⟩; cases h) (by rfl) ?_
      (first | go_big_quiet_skip | (go_big_quiet_want; (go_big_quiet_op; (first | go_big_quiet_on | ((refine ⟨_, fun _ _ => rfl, ?_⟩); go_big_quiet_on))))); (refine wpQuiet_nil ?_); (try simp only [Act.put]); (try simp only [List.setIfInBounds_toArray, List.set_cons_zero, List.set_cons_succ])
      refine wpAny_all (rs := [12]) (by kernel_rfl) (by simp) (ord_cons ?_ ord_nil)
      rotate_left 1
      all_goals
        refine wpOp_of_listL rfl ?_
        (first | ((with_reducible refine is_load ?_); (first | (refine own_ld (h := ?_)))) | ((with_reducible refine is_store ?_); (first | (refine own_stR (hO := hO) (h := ?_); clear hO; intro wv hO) | (refine own_st1 (hO := hO) (h := ?_); clear hO; intro wv hO))) | ((with_reducible refine is_load ?_); (refine own_ldW (hO := hO) (h := ?_))) | ((with_reducible refine is_store ?_); (refine own_stW (hO := hO) (h := ?_); clear hO; intro wv hO)) | ((refine wpList_step (fun K hK => ?_)); go_simp; (first | ((refine hK _ _ ?_); clear hK K)))); (try simp only [Act.put]); (try simp only [List.setIfInBounds_toArray, List.set_cons_zero, List.set_cons_succ])
        refine wpList_done (qk_intro ?_)
      refine wpAny_takePL 13 rfl (by kernel_rfl) (by kernel_rfl) (by kernel_rfl) (by rintro c d v a w ⟨h, _⟩; cases h) (by rfl) ?_
      (first | go_big_quiet_skip | (go_big_quiet_want; (go_big_quiet_op; (first | go_big_quiet_on | ((refine ⟨_, fun _ _ => rfl, ?_⟩); go_big_quiet_on))))); (refine wpQuiet_nil ?_); (try simp only [Act.put]); (try simp only [List.setIfInBounds_toArray, List.set_cons_zero, List.set_cons_succ])
      refine wpAny_all (rs := [14]) (by kernel_rfl) (by simp) (ord_cons ?_ ord_nil)
      rotate_left 1
      refine wpAny_takePL 13 rfl (by kernel_rfl) (by kernel_rfl) (by kernel_rfl) (by rintro c d v a w ⟨h, _⟩; cases h) (by rfl) ?_
      (first | go_big_quiet_skip | (go_big_quiet_want; (go_big_quiet_op; (first | go_big_quiet_on | ((refine ⟨_, fun _ _ => rfl, ?_⟩); go_big_quiet_on))))); (refine wpQuiet_nil ?_); (try simp only [Act.put]); (try simp only [List.setIfInBounds_toArray, List.set_cons_zero, List.set_cons_succ])
      refine wpAny_all (rs := [14]) (by kernel_rfl) (by simp) (ord_cons ?_ ord_nil)
      rotate_left 1
      refine wpAny_takePL 13 rfl (by kernel_rfl) (by kernel_rfl) (by kernel_rfl) (by rintro c d v a w ⟨h, _⟩; cases h) (by rfl) ?_
      (first | go_big_quiet_skip | (go_big_quiet_want; (go_big_quiet_op; (first | go_big_quiet_on | ((refine ⟨_, fun _ _ => rfl, ?_⟩); go_big_quiet_on))))); (refine wpQuiet_nil ?_); (try simp only [Act.put]); (try simp only [List.setIfInBounds_toArray, List.set_cons_zero, List.set_cons_succ])
      refine wpAny_all (rs := [14]) (by kernel_rfl) (by simp) (ord_cons ?_ ord_nil)
      rotate_left 1
      refine wpAny_takePL 13 rfl (by kernel_rfl) (by kernel_rfl) (by kernel_rfl) (by rintro c d v a w ⟨h, _⟩; cases h) (by rfl) ?_
      (first | go_big_quiet_skip | (go_big_quiet_want; (go_big_quiet_op; (first | go_big_quiet_on | ((refine ⟨_, fun _ _ => rfl, ?_⟩); go_big_quiet_on))))); (refine wpQuiet_nil ?_); (try simp only [Act.put]); (try simp only [List.setIfInBounds_toArray, List.set_cons_zero, List.set_cons_succ])
      refine wpAny_all (rs := [14]) (by kernel_rfl) (by simp) (ord_cons ?_ ord_nil)
      rotate_left 1
      refine wpAny_takePL 13 rfl (by kernel_rfl) (by kernel_rfl) (by kernel_rfl) (by rintro c d v a w ⟨h, _⟩; cases h) (by rfl) ?_
      (first | go_big_quiet_skip | (go_big_quiet_want; (go_big_quiet_op; (first | go_big_quiet_on | ((refine ⟨_, fun _ _ => rfl, ?_⟩); go_big_quiet_on))))); (refine wpQuiet_nil ?_); (try simp only [Act.put]); (try simp only [List.setIfInBounds_toArray, List.set_cons_zero, List.set_cons_succ])
      refine wpAny_all (rs := [14]) (by kernel_rfl) (by simp) (ord_cons ?_ ord_nil)
      rotate_left 1
      refine wpAny_takePL 13 rfl (by kernel_rfl) (by kernel_rfl) (by kernel_rfl) (by rintro c d v a w ⟨h, _⟩; cases h) (by rfl) ?_
      (first | go_big_quiet_skip | (go_big_quiet_want; (go_big_quiet_op; (first | go_big_quiet_on | ((refine ⟨_, fun _ _ => rfl, ?_⟩); go_big_quiet_on))))); (refine wpQuiet_nil ?_); (try simp only [Act.put]); (try simp only [List.setIfInBounds_toArray, List.set_cons_zero, List.set_cons_succ])
      refine wpAny_all (rs := [14]) (by kernel_rfl) (by simp) (ord_cons ?_ ord_nil)
      rotate_left 1
      refine wpAny_takePL 13 rfl (by kernel_rfl) (by kernel_rfl) (by kernel_rfl) (by rintro c d v a w ⟨h, _⟩; cases h) (by rfl) ?_
      (first | go_big_quiet_skip | (go_big_quiet_want; (go_big_quiet_op; (first | go_big_quiet_on | ((refine ⟨_, fun _ _ => rfl, ?_⟩); go_big_quiet_on))))); (refine wpQuiet_nil ?_); (try simp only [Act.put]); (try simp only [List.setIfInBounds_toArray, List.set_cons_zero, List.set_cons_succ])
      refine wpAny_all (rs := [14]) (by kernel_rfl) (by simp) (ord_cons ?_ ord_nil)
      rotate_left 1
      refine wpAny_takePL 13 rfl (by kernel_rfl) (by kernel_rfl) (by kernel_rfl) (by rintro c d v a w ⟨h, _⟩; cases h) (by rfl) ?_
      (first | go_big_quiet_skip | (go_big_quiet_want; (go_big_quiet_op; (first | go_big_quiet_on | ((refine ⟨_, fun _ _ => rfl, ?_⟩); go_big_quiet_on))))); (refine wpQuiet_nil ?_); (try simp only [Act.put]); (try simp only [List.setIfInBounds_toArray, List.set_cons_zero, List.set_cons_succ])
      refine wpAny_all (rs := [14]) (by kernel_rfl) (by simp) (ord_cons ?_ ord_nil)
      rotate_left 1
      all_goals
        refine wpOp_of_listL rfl ?_
        (first | ((with_reducible refine is_load ?_); (first | (refine own_ld (h := ?_)))) | ((with_reducible refine is_store ?_); (first | (refine own_stR (hO := hO) (h := ?_); clear hO; intro wv hO) | (refine own_st1 (hO := hO) (h := ?_); clear hO; intro wv hO))) | ((with_reducible refine is_load ?_); (refine own_ldW (hO := hO) (h := ?_))) | ((with_reducible refine is_store ?_); (refine own_stW (hO := hO) (h := ?_); clear hO; intro wv hO)) | ((refine wpList_step (fun K hK => ?_)); go_simp; (first | ((refine hK _ _ ?_); clear hK K)))); (try simp only [Act.put]); (try simp only [List.setIfInBounds_toArray, List.set_cons_zero, List.set_cons_succ])
        refine wpList_done (qk_intro ?_)
      exact wpAny_done (by kernel_rfl) ⟨rfl, rfl, hO⟩ _
      exact wpAny_done (by kernel_rfl) ⟨rfl, rfl, hO⟩ _
      exact wpAny_done (by kernel_rfl) ⟨rfl, rfl, hO⟩ _
      exact wpAny_done (by kernel_rfl) ⟨rfl, rfl, hO⟩ _
      exact wpAny_done (by kernel_rfl) ⟨rfl, rfl, hO⟩ _
      exact wpAny_done (by kernel_rfl) ⟨rfl, rfl, hO⟩ _
      exact wpAny_done (by kernel_rfl) ⟨rfl, rfl, hO⟩ _
      exact wpAny_done (by kernel_rfl) ⟨rfl, rfl, hO⟩ _
    clear hO
    intro wv hO
    clear hn0
    rw [HL1.out] at hO
    have tk := tk_hdP ⟨s, d, 6, sp, dp⟩ t f (.slice a pl.length c)
    go_wp2_with (first | ((with_reducible refine is_load ?_); (first | (refine own_ldP hO (h := ?_)) | (refine own_ld (h := ?_)))) | ((with_reducible refine is_store ?_); (first | (refine own_stRp (hO := hO) (h := ?_); clear hO; intro wv hO) | (refine own_st1p (hO := hO) (h := ?_); clear hO; intro wv hO) | (refine own_stR (hO := hO) (h := ?_); clear hO; intro wv hO) | (refine own_st1 (hO := hO) (h := ?_); clear hO; intro wv hO))) | ((with_reducible refine is_box ?_); (first | (refine own_bx (o := ⟨some 1, _, _, _, _, _⟩) (hO := hO) (h := ?_); clear hO; intro n1 wv hO))) | ((with_reducible refine is_append ?_); (first | (refine own_ap (o := ⟨some 30, _, _, _, _, _⟩) (hO := hO) (h := ?_); clear hO; intro g30 c30 wv hO))) | (go_at_call 47; refine (h1 _ _ (by unfold OwnsB; rw [HN1.out]; exact hO.row _ List.mem_cons_self)).mono ?_; rintro e wv hw; obtain rfl := hw.1; have hw2 := hw.2.2; rw [HN1.out] at hw2; replace hO := hO.afterRow .here hw.2.1 hw2; clear hw hw2 h1) | ((with_reducible refine is_load ?_); (refine own_ldW (hO := hO) (h := ?_))) | ((with_reducible refine is_store ?_); (refine own_stW (hO := hO) (h := ?_); clear hO; intro wv hO)))
    have hn2 := HN2.out
    apply wp_via
    case h =>
      refine wp_region_any (by kernel_rfl) ?_
      replace hO := hO.drew
      refine wpAny_takePL 0 rfl (by kernel_rfl) (by kernel_rfl) (by kernel_rfl) (by rintro c d v a w ⟨h, _⟩; cases h) (by rfl) ?_
      (first | go_big_quiet_skip | (go_big_quiet_want; (go_big_quiet_op; (first | go_big_quiet_on | ((refine ⟨_, fun _ _ => rfl, ?_⟩); go_big_quiet_on))))); (refine wpQuiet_nil ?_); (try simp only [Act.put]); (try simp only [List.setIfInBounds_toArray, List.set_cons_zero, List.set_cons_succ])
      refine wpAny_takePL 1 rfl (by kernel_rfl) (by kernel_rfl) (by kernel_rfl) (by rintro c d v a w ⟨h, _⟩; cases h) (by rfl) ?_
      (first | go_big_quiet_skip | (go_big_quiet_want; (go_big_quiet_op; (first | go_big_quiet_on | ((refine ⟨_, fun _ _ => rfl, ?_⟩); go_big_quiet_on))))); (refine wpQuiet_nil ?_); (try simp only [Act.put]); (try simp only [List.setIfInBounds_toArray, List.set_cons_zero, List.set_cons_succ])
      refine wpAny_takePL 2 rfl (by kernel_rfl) (by kernel_rfl) (by kernel_rfl) (by rintro c d v a w ⟨h, _⟩; cases h) (by rfl) ?_
      (first | go_big_quiet_skip | (go_big_quiet_want; (go_big_quiet_op; (first | go_big_quiet_on | ((refine ⟨_, fun _ _ => rfl, ?_⟩); go_big_quiet_on))))); (refine wpQuiet_nil ?_); (try simp only [Act.put]); (try simp only [List.setIfInBounds_toArray, List.set_cons_zero, List.set_cons_succ])
      refine wpAny_takePL 5 rfl (by kernel_rfl) (by kernel_rfl) (by kernel_rfl) (by rintro c d v a w ⟨h, _⟩; cases h) (by rfl) ?_
      (first | go_big_quiet_skip | (go_big_quiet_want; (go_big_quiet_op; (first | go_big_quiet_on | ((refine ⟨_, fun _ _ => rfl, ?_⟩); go_big_quiet_on))))); (refine wpQuiet_nil ?_); (try simp only [Act.put]); (try simp only [List.setIfInBounds_toArray, List.set_cons_zero, List.set_cons_succ])
      refine wpAny_all (rs := [3, 6]) (by kernel_rfl) (by simp) (ord_cons ?_ (ord_cons ?_ ord_nil))
      rotate_left 2
      all_goals
        refine wpOp_of_listL rfl ?_
        (first | ((with_reducible refine is_load ?_); (first | (refine own_ld (h := ?_)))) | ((with_reducible refine is_store ?_); (first | (refine own_stR (hO := hO) (h := ?_); clear hO; intro wv hO) | (refine own_st1 (hO := hO) (h := ?_); clear hO; intro wv hO))) | ((with_reducible refine is_load ?_); (refine own_ldW (hO := hO) (h := ?_))) | ((with_reducible refine is_store ?_); (refine own_stW (hO := hO) (h := ?_); clear hO; intro wv hO)) | ((refine wpList_step (fun K hK => ?_)); go_simp; (first | ((refine hK _ _ ?_); clear hK K)))); (try simp only [Act.put]); (try simp only [List.setIfInBounds_toArray, List.set_cons_zero, List.set_cons_succ])
        refine wpList_done (qk_intro ?_)
      refine wpAny_takePL 4 rfl (by kernel_rfl) (by kernel_rfl) (by kernel_rfl) (by rintro c d v a w ⟨h, _⟩; cases h) (by rfl) ?_
      (first | go_big_quiet_skip | (go_big_quiet_want; (go_big_quiet_op; (first | go_big_quiet_on | ((refine ⟨_, fun _ _ => rfl, ?_⟩); go_big_quiet_on))))); (refine wpQuiet_nil ?_); (try simp only [Act.put]); (try simp only [List.setIfInBounds_toArray, List.set_cons_zero, List.set_cons_succ])
      refine wpAny_all (rs := [6]) (by kernel_rfl) (by simp) (ord_cons ?_ ord_nil)
      rotate_left 1
      refine wpAny_all (rs := [3]) (by kernel_rfl) (by simp) (ord_cons ?_ ord_nil)
      rotate_left 1
      all_goals
        refine wpOp_of_listL rfl ?_
        (first | ((with_reducible refine is_load ?_); (first | (refine own_ld (h := ?_)))) | ((with_reducible refine is_store ?_); (first | (refine own_stR (hO := hO) (h := ?_); clear hO; intro wv hO) | (refine own_st1 (hO := hO) (h := ?_); clear hO; intro wv hO))) | ((with_reducible refine is_load ?_); (refine own_ldW (hO := hO) (h := ?_))) | ((with_reducible refine is_store ?_); (refine own_stW (hO := hO) (h := ?_); clear hO; intro wv hO)) | ((refine wpList_step (fun K hK => ?_)); go_simp; (first | ((refine hK _ _ ?_); clear hK K)))); (try simp only [Act.put]); (try simp only [List.setIfInBounds_toArray, List.set_cons_zero, List.set_cons_succ])
        refine wpList_done (qk_intro ?_)
      refine wpAny_takePL 7 rfl (by kernel_rfl) (by kernel_rfl) (by kernel_rfl) (by rintro c d v a w ⟨h, _⟩; cases h) (by rfl) ?_
      (first | go_big_quiet_skip | (go_big_quiet_want; (go_big_quiet_op; (first | go_big_quiet_on | ((refine ⟨_, fun _ _ => rfl, ?_⟩); go_big_quiet_on))))); (refine wpQuiet_nil ?_); (try simp only [Act.put]); (try simp only [List.setIfInBounds_toArray, List.set_cons_zero, List.set_cons_succ])
      refine wpAny_all (rs := [8]) (by kernel_rfl) (by simp) (ord_cons ?_ ord_nil)
      rotate_left 1
      refine wpAny_takePL 4 rfl (by kernel_rfl) (by kernel_rfl) (by kernel_rfl) (by rintro c d v a w ⟨h, _⟩; cases h) (by rfl) ?_
      (first | go_big_quiet_skip | (go_big_quiet_want; (go_big_quiet_op; (first | go_big_quiet_on | ((refine ⟨_, fun _ _ => rfl, ?_⟩); go_big_quiet_on))))); (refine wpQuiet_nil ?_); (try simp only [Act.put]); (try simp only [List.setIfInBounds_toArray, List.set_cons_zero, List.set_cons_succ])
      refine wpAny_takePL 7 rfl (by kernel_rfl) (by kernel_rfl) (by kernel_rfl) (by rintro c d v a w ⟨h, _⟩; cases h) (by rfl) ?_
      (first | go_big_quiet_skip | (go_big_quiet_want; (go_big_quiet_op; (first | go_big_quiet_on | ((refine ⟨_, fun _ _ => rfl, ?_⟩); go_big_quiet_on))))); (refine wpQuiet_nil ?_); (try simp only [Act.put]); (try simp only [List.setIfInBounds_toArray, List.set_cons_zero, List.set_cons_succ])
      refine wpAny_all (rs := [8]) (by kernel_rfl) (by simp) (ord_cons ?_ ord_nil)
      rotate_left 1
      all_goals
        refine wpOp_of_listL rfl ?_
        (first | ((with_reducible refine is_load ?_); (first | (refine own_ld (h := ?_)))) | ((with_reducible refine is_store ?_); (first | (refine own_stR (hO := hO) (h := ?_); clear hO; intro wv hO) | (refine own_st1 (hO := hO) (h := ?_); clear hO; intro wv hO))) | ((with_reducible refine is_load ?_); (refine own_ldW (hO := hO) (h := ?_))) | ((with_reducible refine is_store ?_); (refine own_stW (hO := hO) (h := ?_); clear hO; intro wv hO)) | ((refine wpList_step (fun K hK => ?_)); go_simp; (first | ((refine hK _ _ ?_); clear hK K)))); (try simp only [Act.put]); (try simp only [List.setIfInBounds_toArray, List.set_cons_zero, List.set_cons_succ])
        refine wpList_done (qk_intro ?_)
      exact wpAny_done (by kernel_rfl) ⟨rfl, rfl, hO⟩ _
      exact wpAny_done (by kernel_rfl) ⟨rfl, rfl, hO⟩ _
    clear hO
    intro wv hO
    clear hn2
    rw [hL3.out] at hO
    go_wp2_with (first | ((with_reducible refine is_load ?_); (first | (refine own_ldP hO (h := ?_)) | (refine own_ld (h := ?_)))) | ((with_reducible refine is_store ?_); (first | (refine own_stRp (hO := hO) (h := ?_); clear hO; intro wv hO) | (refine own_st1p (hO := hO) (h := ?_); clear hO; intro wv hO) | (refine own_stR (hO := hO) (h := ?_); clear hO; intro wv hO) | (refine own_st1 (hO := hO) (h := ?_); clear hO; intro wv hO))) | ((with_reducible refine is_box ?_); (first | (refine own_bx (o := ⟨some 1, _, _, _, _, _⟩) (hO := hO) (h := ?_); clear hO; intro n1 wv hO))) | ((with_reducible refine is_append ?_); (first | (refine own_ap (o := ⟨some 30, _, _, _, _, _⟩) (hO := hO) (h := ?_); clear hO; intro g30 c30 wv hO))) | (go_at_call 48; refine (h4 _ _ (by unfold OwnsB; rw [HN3.out]; exact hO.row _ List.mem_cons_self)).mono ?_; rintro e wv hw; obtain rfl := hw.1; have hw2 := hw.2.2; rw [HN3.out] at hw2; replace hO := hO.afterRow .here hw.2.1 hw2; clear hw hw2 h4) | (go_at_call 49; refine (hsum _ _ (by unfold OwnsB; rw [HN4.out]; exact hO.row _ List.mem_cons_self)).mono ?_; rintro e wv hw; obtain rfl := hw.1; have hw2 := hw.2.2; rw [HN4.out] at hw2; replace hO := hO.afterRow .here hw.2.1 hw2; clear hw hw2 hsum) | ((with_reducible refine is_load ?_); (refine own_ldW (hO := hO) (h := ?_))) | ((with_reducible refine is_store ?_); (refine own_stW (hO := hO) (h := ?_); clear hO; intro wv hO)))
    go_ret2
    exact ⟨_, rfl, by rw [HN5.out]; exact hO.newRow List.mem_cons_self, hO.keep.below⟩
  · have hEL : encLen 17 = 28 := rfl
    have hLF : lenF 17 = 8 := rfl
    have hSA : sumAtF 17 = 26 := rfl
    have hEM : encM ⟨⟨s, d, 17, sp, dp⟩, t, f, pl⟩ = hdrF (p16 (encHd ⟨⟨s, d, 17, sp, dp⟩, t, f, pl⟩) 24 (((encHd ⟨⟨s, d, 17, sp, dp⟩, t, f, pl⟩).length : Int) - 20)) ⟨s, d, 17, sp, dp⟩ := rfl
    have hEH : encHd ⟨⟨s, d, 17, sp, dp⟩, t, f, pl⟩ = p16 ((((List.replicate 28 0 ++ pl).set 0 69).set 8 t).set 9 17) 2 ((28 : Int) + pl.length) := by
      show p16 ((((List.replicate (encLen 17) 0 ++ pl).set 0 69).set 8 t).set 9 17) 2 ((encLen 17 : Int) + pl.length) = _
      rw [hEL]; rfl
    replace hsum := hsum (by rw [hSA, hEL]; omega)
    rw [hEM] at hsum hnM ⊢
    rw [hEH] at hsum hnM ⊢
    rw [hEL] at hsz
    dsimp only at hnM
    rw [hEL] at hnM
    have HZ := Lib.hid (bc_zero 28)
    have hZl : (List.replicate 28 (0 : Int)).length = 28 := List.length_replicate
    clear hEM hEH
    generalize List.replicate 28 (0 : Int) = Z at *
    obtain ⟨N, hN⟩ : ∃ N, 28 + pl.length = N := ⟨_, rfl⟩
    have hNi : (28 : Int) + pl.length = (N : Int) := by omega
    rw [hNi] at hsum hnM ⊢
    rw [hN] at hnM
    have hn0 : (Z ++ pl).length = N := by rw [List.length_append, hZl, hN]
    rw [hLF] at hlen
    clear ho hNi hZl hEL hLF hSA
    generalize hL0 : Z ++ pl = L0 at *
    have hn1 : (((L0.set 0 69).set 8 t).set 9 17).length = N := by simp [hn0]
    generalize hL1 : ((L0.set 0 69).set 8 t).set 9 17 = L1 at *
    have h1 := fun v w hw => put16_any (v := v) (l := L1) 2 (N : Int) w hw (by omega) (by omega) (by omega) (by omega)
    have hn2 : (p16 L1 2 (N : Int)).length = N := by rw [p16_length, hn1]
    generalize hL2 : p16 L1 2 (N : Int) = L2 at *
    have HN0 := Lib.hid hn0
    have HN1 := Lib.hid hn1
    have HL0 := Lib.hid hL0
    have HL1 := Lib.hid hL1
    have HN2 := Lib.hid hn2
    clear hn0 hn1 hL0 hL1 hL2
    rw [hn2] at hsum hnM ⊢
    have h3 := fun v w hw => put16_any (v := v) (l := L2) 24 ((N : Int) - 20) w hw (by omega) (by omega) (by omega) (by omega)
    have hn3 : (p16 L2 24 ((N : Int) - 20)).length = N := by rw [p16_length, hn2]
    generalize hL3 : p16 L2 24 ((N : Int) - 20) = L3 at *
    have h4 := fun v w hw => putHeader_any (v := v) (l := L3) ⟨s, d, 17, sp, dp⟩ w hw (by omega) (by omega) k.h (fun _ => by omega)
    generalize hL4 : hdrF L3 ⟨s, d, 17, sp, dp⟩ = L4 at *
    have HN3 := Lib.hid hn3
    have HN4 := Lib.hid hnM
    clear hn2 hn3 hnM hL4
    generalize hL5 : sumsF L4 = L5 at *
    have HN5 := Lib.hid (show L5.length = N by rw [← hL5, sumsF_length, HN4.out])
    clear hL5
    clear hL3
    go_enter Tryd.func26, Tryd.ntmps26
    go_wp2_with (first | ((with_reducible refine is_load ?_); (first | (refine own_ldP hO (h := ?_)) | (refine own_ld (h := ?_)))) | ((with_reducible refine is_store ?_); (first | (refine own_stRp (hO := hO) (h := ?_); clear hO; intro wv hO) | (refine own_st1p (hO := hO) (h := ?_); clear hO; intro wv hO) | (refine own_stR (hO := hO) (h := ?_); clear hO; intro wv hO) | (refine own_st1 (hO := hO) (h := ?_); clear hO; intro wv hO))) | ((with_reducible refine is_box ?_); (first | (refine own_bx (o := ⟨some 1, _, _, _, _, _⟩) (hO := hO) (h := ?_); clear hO; intro n1 wv hO))) | ((with_reducible refine is_append ?_); (first | (refine own_ap (o := ⟨some 30, _, _, _, _, _⟩) (hO := hO) (h := ?_); clear hO; intro g30 c30 wv hO))) | (go_at_call 45; refine (hcod _).mono ?_; rintro e wv ⟨rfl, hb⟩; replace hO := hO.call hb; clear hb) | (go_at_call 46; refine (hlen _).mono ?_; rintro e _ ⟨rfl, rfl⟩) | ((with_reducible refine is_make ?_); (refine own_makeB (o := ⟨some 26, _, _, _, _, _⟩) hO (by rfl) rfl slice_u8 zero_u8 rfl rfl (n := 28) (c := N) (by first | rfl | omega | (simp; omega)) (by first | rfl | omega | (simp; omega)) (by omega) (by omega) HZ.out ?_); clear hO; intro n26 wv hO) | ((with_reducible refine is_append ?_); (refine own_appendP (o := ⟨some 30, _, _, _, _, _⟩) hO rfl rfl slice_u8 rfl rfl (src_of_cells (IsCells.below hv hO.keep.below) (by simp [bc_length]; try omega)) (bc_one _) (fun _ => by repeat (first | exact UpdR.here | apply UpdR.there)) (by first | omega | (simp; omega)) (by unfold maxLen; first | omega | (simp; omega)) (by first | omega | (simp; done) | (simp; omega)) ?_); clear hO; intro g30 c30 wv hO) | ((with_reducible refine is_load ?_); (refine own_ldW (hO := hO) (h := ?_))) | ((with_reducible refine is_store ?_); (refine own_stW (hO := hO) (h := ?_); clear hO; intro wv hO)))
    rw [← bc_append, hN, HL0.out] at hO
    have hn0 := HN0.out
    apply wp_via
    case h =>
      refine wp_region_any (by kernel_rfl) ?_
      replace hO := hO.drew
      refine wpAny_takePL 0 rfl (by kernel_rfl) (by kernel_rfl) (by kernel_rfl) (by rintro c d v a w ⟨h, _⟩; cases h) (by rfl) ?_
      (first | go_big_quiet_skip | (go_big_quiet_want; (go_big_quiet_op; (first | go_big_quiet_on | ((refine ⟨_, fun _ _ => rfl, ?_⟩); go_big_quiet_on))))); (refine wpQuiet_nil ?_); (try simp only [Act.put]); (try simp only [List.setIfInBounds_toArray, List.set_cons_zero, List.set_cons_succ])
      refine wpAny_takePL 1 rfl (by kernel_rfl) (by kernel_rfl) (by kernel_rfl) (by rintro c d v a w ⟨h, _⟩; cases h) (by rfl) ?_
      (first | go_big_quiet_skip | (go_big_quiet_want; (go_big_quiet_op; (first | go_big_quiet_on | ((refine ⟨_, fun _ _ => rfl, ?_⟩); go_big_quiet_on))))); (refine wpQuiet_nil ?_); (try simp only [Act.put]); (try simp only [List.setIfInBounds_toArray, List.set_cons_zero, List.set_cons_succ])
      refine wpAny_takePL 2 rfl (by kernel_rfl) (by kernel_rfl) (by kernel_rfl) (by rintro c d v a w ⟨h, _⟩; cases h) (by rfl) ?_
      (first | go_big_quiet_skip | (go_big_quiet_want; (go_big_quiet_op; (first | go_big_quiet_on | ((refine ⟨_, fun _ _ => rfl, ?_⟩); go_big_quiet_on))))); (refine wpQuiet_nil ?_); (try simp only [Act.put]); (try simp only [List.setIfInBounds_toArray, List.set_cons_zero, List.set_cons_succ])
      refine wpAny_takePL 3 rfl (by kernel_rfl) (by kernel_rfl) (by kernel_rfl) (by rintro c d v a w ⟨h, _⟩; cases h) (by rfl) ?_
      (first | go_big_quiet_skip | (go_big_quiet_want; (go_big_quiet_op; (first | go_big_quiet_on | ((refine ⟨_, fun _ _ => rfl, ?_⟩); go_big_quiet_on))))); (refine wpQuiet_nil ?_); (try simp only [Act.put]); (try simp only [List.setIfInBounds_toArray, List.set_cons_zero, List.set_cons_succ])
      refine wpAny_takePL 6 rfl (by kernel_rfl) (by kernel_rfl) (by kernel_rfl) (by rintro c d v a w ⟨h, _⟩; cases h) (by rfl) ?_
      (first | go_big_quiet_skip | (go_big_quiet_want; (go_big_quiet_op; (first | go_big_quiet_on | ((refine ⟨_, fun _ _ => rfl, ?_⟩); go_big_quiet_on))))); (refine wpQuiet_nil ?_); (try simp only [Act.put]); (try simp only [List.setIfInBounds_toArray, List.set_cons_zero, List.set_cons_succ])
      refine wpAny_takePL 7 rfl (by kernel_rfl) (by kernel_rfl) (by kernel_rfl) (by rintro c d v a w ⟨h, _⟩; cases h) (by rfl) ?_
      (first | go_big_quiet_skip | (go_big_quiet_want; (go_big_quiet_op; (first | go_big_quiet_on | ((refine ⟨_, fun _ _ => rfl, ?_⟩); go_big_quiet_on))))); (refine wpQuiet_nil ?_); (try simp only [Act.put]); (try simp only [List.setIfInBounds_toArray, List.set_cons_zero, List.set_cons_succ])
      refine wpAny_takePL 9 rfl (by kernel_rfl) (by kernel_rfl) (by kernel_rfl) (by rintro c d v a w ⟨h, _⟩; cases h) (by rfl) ?_
      (first | go_big_quiet_skip | (go_big_quiet_want; (go_big_quiet_op; (first | go_big_quiet_on | ((refine ⟨_, fun _ _ => rfl, ?_⟩); go_big_quiet_on))))); (refine wpQuiet_nil ?_); (try simp only [Act.put]); (try simp only [List.setIfInBounds_toArray, List.set_cons_zero, List.set_cons_succ])
      refine wpAny_all (rs := [4, 8, 10]) (by kernel_rfl) (by simp) (ord_cons ?_ (ord_cons ?_ (ord_cons ?_ ord_nil)))
      rotate_left 3
      all_goals
        refine wpOp_of_listL rfl ?_
        (first | ((with_reducible refine is_load ?_); (first | (refine own_ld (h := ?_)))) | ((with_reducible refine is_store ?_); (first | (refine own_stR (hO := hO) (h := ?_); clear hO; intro wv hO) | (refine own_st1 (hO := hO) (h := ?_); clear hO; intro wv hO))) | ((with_reducible refine is_load ?_); (refine own_ldW (hO := hO) (h := ?_))) | ((with_reducible refine is_store ?_); (refine own_stW (hO := hO) (h := ?_); clear hO; intro wv hO)) | ((refine wpList_step (fun K hK => ?_)); go_simp; (first | ((refine hK _ _ ?_); clear hK K)))); (try simp only [Act.put]); (try simp only [List.setIfInBounds_toArray, List.set_cons_zero, List.set_cons_succ])
        refine wpList_done (qk_intro ?_)
      refine wpAny_takePL 5 rfl (by kernel_rfl) (by kernel_rfl) (by kernel_rfl) (by rintro c d v a w ⟨h, _⟩; cases h) (by rfl) ?_
      (first | go_big_quiet_skip | (go_big_quiet_want; (go_big_quiet_op; (first | go_big_quiet_on | ((refine ⟨_, fun _ _ => rfl, ?_⟩); go_big_quiet_on))))); (refine wpQuiet_nil ?_); (try simp only [Act.put]); (try simp only [List.setIfInBounds_toArray, List.set_cons_zero, List.set_cons_succ])
      refine wpAny_all (rs := [8, 10]) (by kernel_rfl) (by simp) (ord_cons ?_ (ord_cons ?_ ord_nil))
      rotate_left 2
      refine wpAny_all (rs := [4, 10]) (by kernel_rfl) (by simp) (ord_cons ?_ (ord_cons ?_ ord_nil))
      rotate_left 2
      refine wpAny_all (rs := [4, 8]) (by kernel_rfl) (by simp) (ord_cons ?_ (ord_cons ?_ ord_nil))
      rotate_left 2
      all_goals
        refine wpOp_of_listL rfl ?_
        (first | ((with_reducible refine is_load ?_); (first | (refine own_ld (h := ?_)))) | ((with_reducible refine is_store ?_); (first | (refine own_stR (hO := hO) (h := ?_); clear hO; intro wv hO) | (refine own_st1 (hO := hO) (h := ?_); clear hO; intro wv hO))) | ((with_reducible refine is_load ?_); (refine own_ldW (hO := hO) (h := ?_))) | ((with_reducible refine is_store ?_); (refine own_stW (hO := hO) (h := ?_); clear hO; intro wv hO)) | ((refine wpList_step (fun K hK => ?_)); go_simp; (first | ((refine hK _ _ ?_); clear hK K)))); (try simp only [Act.put]); (try simp only [List.setIfInBounds_toArray, List.set_cons_zero, List.set_cons_succ])
        refine wpList_done (qk_intro ?_)
      refine wpAny_all (rs := [10]) (by kernel_rfl) (by simp) (ord_cons ?_ ord_nil)
      rotate_left 1
      refine wpAny_takePL 11 rfl (by kernel_rfl) (by kernel_rfl) (by kernel_rfl) (by rintro c d v a w ⟨h, _⟩; cases h) (by rfl) ?_
      (first | go_big_quiet_skip | (go_big_quiet_want; (go_big_quiet_op; (first | go_big_quiet_on | ((refine ⟨_, fun _ _ => rfl, ?_⟩); go_big_quiet_on))))); (refine wpQuiet_nil ?_); (try simp only [Act.put]); (try simp only [List.setIfInBounds_toArray, List.set_cons_zero, List.set_cons_succ])
      refine wpAny_all (rs := [8, 12]) (by kernel_rfl) (by simp) (ord_cons ?_ (ord_cons ?_ ord_nil))
      rotate_left 2
      refine wpAny_takePL 5 rfl (by kernel_rfl) (by kernel_rfl) (by kernel_rfl) (by rintro c d v a w ⟨h, _⟩; cases h) (by rfl) ?_
      (first | go_big_quiet_skip | (go_big_quiet_want; (go_big_quiet_op; (first | go_big_quiet_on | ((refine ⟨_, fun _ _ => rfl, ?_⟩); go_big_quiet_on))))); (refine wpQuiet_nil ?_); (try simp only [Act.put]); (try simp only [List.setIfInBounds_toArray, List.set_cons_zero, List.set_cons_succ])
      refine wpAny_all (rs := [10]) (by kernel_rfl) (by simp) (ord_cons ?_ ord_nil)
      rotate_left 1
      refine wpAny_all (rs := [4]) (by kernel_rfl) (by simp) (ord_cons ?_ ord_nil)
      rotate_left 1
      refine wpAny_takePL 5 rfl (by kernel_rfl) (by kernel_rfl) (by kernel_rfl) (by rintro c d v a w ⟨h, _⟩; cases h) (by rfl) ?_
      (first | go_big_quiet_skip | (go_big_quiet_want; (go_big_quiet_op; (first | go_big_quiet_on | ((refine ⟨_, fun _ _ => rfl, ?_⟩); go_big_quiet_on))))); (refine wpQuiet_nil ?_); (try simp only [Act.put]); (try simp only [List.setIfInBounds_toArray, List.set_cons_zero, List.set_cons_succ])
      refine wpAny_takePL 11 rfl (by kernel_rfl) (by kernel_rfl) (by kernel_rfl) (by rintro c d v a w ⟨h, _⟩; cases h) (by rfl) ?_
      (first | go_big_quiet_skip | (go_big_quiet_want; (go_big_quiet_op; (first | go_big_quiet_on | ((refine ⟨_, fun _ _ => rfl, ?_⟩); go_big_quiet_on))))); (refine wpQuiet_nil ?_); (try simp only [Act.put]); (try simp only [List.setIfInBounds_toArray, List.set_cons_zero, List.set_cons_succ])
      refine wpAny_all (rs := [8, 12]) (by kernel_rfl) (by simp) (ord_cons ?_ (ord_cons ?_ ord_nil))
      rotate_left 2
      refine wpAny_all (rs := [4]) (by kernel_rfl) (by simp) (ord_cons ?_ ord_nil)
      rotate_left 1
      all_goals
        refine wpOp_of_listL rfl ?_
        (first | ((with_reducible refine is_load ?_); (first | (refine own_ld (h := ?_)))) | ((with_reducible refine is_store ?_); (first | (refine own_stR (hO := hO) (h := ?_); clear hO; intro wv hO) | (refine own_st1 (hO := hO) (h := ?_); clear hO; intro wv hO))) | ((with_reducible refine is_load ?_); (refine own_ldW (hO := hO) (h := ?_))) | ((with_reducible refine is_store ?_); (refine own_stW (hO := hO) (h := ?_); clear hO; intro wv hO)) | ((refine wpList_step (fun K hK => ?_)); go_simp; (first | ((refine hK _ _ ?_); clear hK K)))); (try simp only [Act.put]); (try simp only [List.setIfInBounds_toArray, List.set_cons_zero, List.set_cons_succ])
        refine wpList_done (qk_intro ?_)
      refine wpAny_takePL 11 rfl (by kernel_rfl) (by kernel_rfl) (by kernel_rfl) (by rintro c d v a w ⟨h, _⟩; cases h) (by rfl) ?_
      (first | go_big_quiet_skip | (go_big_quiet_want; (go_big_quiet_op; (first | go_big_quiet_on | ((refine ⟨_, fun _ _ => rfl, ?_⟩); go_big_quiet_on))))); (refine wpQuiet_nil ?_); (try simp only [Act.put]); (try simp only [List.setIfInBounds_toArray, List.set_cons_zero, List.set_cons_succ])
      refine wpAny_all (rs := [12]) (by kernel_rfl) (by simp) (ord_cons ?_ ord_nil)
      rotate_left 1
      refine wpAny_all (rs := [12]) (by kernel_rfl) (by simp) (ord_cons ?_ ord_nil)
      rotate_left 1
      refine wpAny_all (rs := [8]) (by kernel_rfl) (by simp) (ord_cons ?_ ord_nil)
      rotate_left 1
      refine wpAny_takePL 11 rfl (by kernel_rfl) (by kernel_rfl) (by kernel_rfl) (by rintro c d v a w ⟨h, _⟩; cases h) (by rfl) ?_
      (first | go_big_quiet_skip | (go_big_quiet_want; (go_big_quiet_op; (first | go_big_quiet_on | ((refine ⟨_, fun _ _ => rfl, ?_⟩); go_big_quiet_on))))); (refine wpQuiet_nil ?_); (try simp only [Act.put]); (try simp only [List.setIfInBounds_toArray, List.set_cons_zero, List.set_cons_succ])
      refine wpAny_all (rs := [12]) (by kernel_rfl) (by simp) (ord_cons ?_ ord_nil)
      rotate_left 1
      refine wpAny_takePL 5 rfl (by kernel_rfl) (by kernel_rfl) (by kernel_rfl) (by rintro c d v a w ⟨h, _⟩; cases h) (by rfl) ?_
      (first | go_big_quiet_skip | (go_big_quiet_want; (go_big_quiet_op; (first | go_big_quiet_on | ((refine ⟨_, fun _ _ => rfl, ?_⟩); go_big_quiet_on))))); (refine wpQuiet_nil ?_); (try simp only [Act.put]); (try simp only [List.setIfInBounds_toArray, List.set_cons_zero, List.set_cons_succ])
      refine wpAny_takePL 11 rfl (by kernel_rfl) (by kernel_rfl) (by kernel_rfl) (by rintro c d v a w ⟨h, _⟩; cases h) (by rfl) ?_
      (first | go_big_quiet_skip | (go_big_quiet_want; (go_big_quiet_op; (first | go_big_quiet_on | ((refine ⟨_, fun _ _ => rfl, ?_⟩); go_big_quiet_on))))); (refine wpQuiet_nil ?_); (try simp only [Act.put]); (try simp only [List.setIfInBounds_toArray, List.set_cons_zero, List.set_cons_succ])
      refine wpAny_all (rs := [12]) (by kernel_rfl) (by simp) (ord_cons ?_ ord_nil)
      rotate_left 1
      refine wpAny_all (rs := [12]) (by kernel_rfl) (by simp) (ord_cons ?_ ord_nil)
      rotate_left 1
      refine wpAny_all (rs := [8]) (by kernel_rfl) (by simp) (ord_cons ?_ ord_nil)
      rotate_left 1
      refine wpAny_takePL 5 rfl (by kernel_rfl) (by kernel_rfl) (by kernel_rfl) (by rintro c d v a w ⟨h, _⟩; cases h) (by rfl) ?_
      (first | go_big_quiet_skip | (go_big_quiet_want; (go_big_quiet_op; (first | go_big_quiet_on | ((refine ⟨_, fun _ _ => rfl, ?_⟩); go_big_quiet_on))))); (refine wpQuiet_nil ?_); (try simp only [Act.put]); (try simp only [List.setIfInBounds_toArray, List.set_cons_zero, List.set_cons_succ])
      refine wpAny_takePL 11 rfl (by kernel_rfl) (by kernel_rfl) (by kernel_rfl) (by rintro c d v a w ⟨h, _⟩; cases h) (by rfl) ?_
      (first | go_big_quiet_skip | (go_big_quiet_want; (go_big_quiet_op; (first | go_big_quiet_on | ((refine ⟨_, fun _ _ => rfl, ?_⟩); go_big_quiet_on))))); (refine wpQuiet_nil ?_); (try simp only [Act.put]); (try simp only [List.setIfInBounds_toArray, List.set_cons_zero, List.set_cons_succ])
      refine wpAny_all (rs := [12]) (by kernel_rfl) (by simp) (ord_cons ?_ ord_nil)
      rotate_left 1
      all_goals
        refine wpOp_of_listL rfl ?_
        (first | ((with_reducible refine is_load ?_); (first | (refine own_ld (h := ?_)))) | ((with_reducible refine is_store ?_); (first | (refine own_stR (hO := hO) (h := ?_); clear hO; intro wv hO) | (refine own_st1 (hO := hO) (h := ?_); clear hO; intro wv hO))) | ((with_reducible refine is_load ?_); (refine own_ldW (hO := hO) (h := ?_))) | ((with_reducible refine is_store ?_); (refine own_stW (hO := hO) (h := ?_); clear hO; intro wv hO)) | ((refine wpList_step (fun K hK => ?_)); go_simp; (first | ((refine hK _ _ ?_); clear hK K)))); (try simp only [Act.put]); (try simp only [List.setIfInBounds_toArray, List.set_cons_zero, List.set_cons_succ])
        refine wpList_done (qk_intro ?_)
      refine wpAny_takePL 13 rfl (by kernel_rfl) (by kernel_rfl) (by kernel_rfl) (by rintro c d v a w ⟨h, _⟩; cases h) (by rfl) ?_
      (first | go_big_quiet_skip | (go_big_quiet_want; (go_big_quiet_op; (first | go_big_quiet_on | ((refine ⟨_, fun _ _ => rfl, ?_⟩); go_big_quiet_on))))); (refine wpQuiet_nil ?_); (try simp only [Act.put]); (try simp only [List.setIfInBounds_toArray, List.set_cons_zero, List.set_cons_succ])
      refine wpAny_all (rs := [14]) (by kernel_rfl) (by simp) (ord_cons ?_ ord_nil)
      rotate_left 1
      refine wpAny_takePL 13 rfl (by kernel_rfl) (by kernel_rfl) (by kernel_rfl) (by rintro c d v a w ⟨h, _⟩; cases h) (by rfl) ?_
      (first | go_big_quiet_skip | (go_big_quiet_want; (go_big_quiet_op; (first | go_big_quiet_on | ((refine ⟨_, fun _ _ => rfl, ?_⟩); go_big_quiet_on))))); (refine wpQuiet_nil ?_); (try simp only [Act.put]); (try simp only [List.setIfInBounds_toArray, List.set_cons_zero, List.set_cons_succ])
      refine wpAny_all (rs := [14]) (by kernel_rfl) (by simp) (ord_cons ?_ ord_nil)
      rotate_left 1
      refine wpAny_takePL 13 rfl (by kernel_rfl) (by kernel_rfl) (by kernel_rfl) (by rintro c d v a w ⟨h, _⟩; cases h) (by rfl) ?_
      (first | go_big_quiet_skip | (go_big_quiet_want; (go_big_quiet_op; (first | go_big_quiet_on | ((refine ⟨_, fun _ _ => rfl, ?_⟩); go_big_quiet_on))))); (refine wpQuiet_nil ?_); (try simp only [Act.put]); (try simp only [List.setIfInBounds_toArray, List.set_cons_zero, List.set_cons_succ])
      refine wpAny_all (rs := [14]) (by kernel_rfl) (by simp) (ord_cons ?_ ord_nil)
      rotate_left 1
      refine wpAny_takePL 13 rfl (by kernel_rfl) (by kernel_rfl) (by kernel_rfl) (by rintro c d v a w ⟨h, _⟩; cases h) (by rfl) ?_
      (first | go_big_quiet_skip | (go_big_quiet_want; (go_big_quiet_op; (first | go_big_quiet_on | ((refine ⟨_, fun _ _ => rfl, ?_⟩); go_big_quiet_on))))); (refine wpQuiet_nil ?_); (try simp only [Act.put]); (try simp only [List.setIfInBounds_toArray, List.set_cons_zero, List.set_cons_succ])
      refine wpAny_all (rs := [14]) (by kernel_rfl) (by simp) (ord_cons ?_ ord_nil)
      rotate_left 1
      refine wpAny_takePL 13 rfl (by kernel_rfl) (by kernel_rfl) (by kernel_rfl) (by rintro c d v a w ⟨h, _⟩; cases h) (by rfl) ?_
      (first | go_big_quiet_skip | (go_big_quiet_want; (go_big_quiet_op; (first | go_big_quiet_on | ((refine ⟨_, fun _ _ => rfl, ?_⟩); go_big_quiet_on))))); (refine wpQuiet_nil ?_); (try simp only [Act.put]); (try simp only [List.setIfInBounds_toArray, List.set_cons_zero, List.set_cons_succ])
      refine wpAny_all (rs := [14]) (by kernel_rfl) (by simp) (ord_cons ?_ ord_nil)
      rotate_left 1
      refine wpAny_takePL 13 rfl (by kernel_rfl) (by kernel_rfl) (by kernel_rfl) (by rintro c d v a w ⟨h, _⟩; cases h) (by rfl) ?_
      (first | go_big_quiet_skip | (go_big_quiet_want; (go_big_quiet_op; (first | go_big_quiet_on | ((refine ⟨_, fun _ _ => rfl, ?_⟩); go_big_quiet_on))))); (refine wpQuiet_nil ?_); (try simp only [Act.put]); (try simp only [List.setIfInBounds_toArray, List.set_cons_zero, List.set_cons_succ])
      refine wpAny_all (rs := [14]) (by kernel_rfl) (by simp) (ord_cons ?_ ord_nil)
      rotate_left 1
      refine wpAny_takePL 13 rfl (by kernel_rfl) (by kernel_rfl) (by kernel_rfl) (by rintro c d v a w ⟨h, _⟩; cases h) (by rfl) ?_
      (first | go_big_quiet_skip | (go_big_quiet_want; (go_big_quiet_op; (first | go_big_quiet_on | ((refine ⟨_, fun _ _ => rfl, ?_⟩); go_big_quiet_on))))); (refine wpQuiet_nil ?_); (try simp only [Act.put]); (try simp only [List.setIfInBounds_toArray, List.set_cons_zero, List.set_cons_succ])
      refine wpAny_all (rs := [14]) (by kernel_rfl) (by simp) (ord_cons ?_ ord_nil)
      rotate_left 1
      refine wpAny_takePL 13 rfl (by kernel_rfl) (by kernel_rfl) (by kernel_rfl) (by rintro c d v a w ⟨h, _⟩; cases h) (by rfl) ?_
      (first | go_big_quiet_skip | (go_big_quiet_want; (go_big_quiet_op; (first | go_big_quiet_on | ((refine ⟨_, fun _ _ => rfl, ?_⟩); go_big_quiet_on))))); (refine wpQuiet_nil ?_); (try simp only [Act.put]); (try simp only [List.setIfInBounds_toArray, List.set_cons_zero, List.set_cons_succ])
      refine wpAny_all (rs := [14]) (by kernel_rfl) (by simp) (ord_cons ?_ ord_nil)
      rotate_left 1
      all_goals
        refine wpOp_of_listL rfl ?_
        (first | ((with_reducible refine is_load ?_); (first | (refine own_ld (h := ?_)))) | ((with_reducible refine is_store ?_); (first | (refine own_stR (hO := hO) (h := ?_); clear hO; intro wv hO) | (refine own_st1 (hO := hO) (h := ?_); clear hO; intro wv hO))) | ((with_reducible refine is_load ?_); (refine own_ldW (hO := hO) (h := ?_))) | ((with_reducible refine is_store ?_); (refine own_stW (hO := hO) (h := ?_); clear hO; intro wv hO)) | ((refine wpList_step (fun K hK => ?_)); go_simp; (first | ((refine hK _ _ ?_); clear hK K)))); (try simp only [Act.put]); (try simp only [List.setIfInBounds_toArray, List.set_cons_zero, List.set_cons_succ])
        refine wpList_done (qk_intro ?_)
      exact wpAny_done (by kernel_rfl) ⟨rfl, rfl, hO⟩ _
      exact wpAny_done (by kernel_rfl) ⟨rfl, rfl, hO⟩ _
      exact wpAny_done (by kernel_rfl) ⟨rfl, rfl, hO⟩ _
      exact wpAny_done (by kernel_rfl) ⟨rfl, rfl, hO⟩ _
      exact wpAny_done (by kernel_rfl) ⟨rfl, rfl, hO⟩ _
      exact wpAny_done (by kernel_rfl) ⟨rfl, rfl, hO⟩ _
      exact wpAny_done (by kernel_rfl) ⟨rfl, rfl, hO⟩ _
      exact wpAny_done (by kernel_rfl) ⟨rfl, rfl, hO⟩ _
    clear hO
    intro wv hO
    clear hn0
    rw [HL1.out] at hO
    have tk := tk_hdP ⟨s, d, 17, sp, dp⟩ t f (.slice a pl.length c)
    go_wp2_with (first | ((with_reducible refine is_load ?_); (first | (refine own_ldP hO (h := ?_)) | (refine own_ld (h := ?_)))) | ((with_reducible refine is_store ?_); (first | (refine own_stRp (hO := hO) (h := ?_); clear hO; intro wv hO) | (refine own_st1p (hO := hO) (h := ?_); clear hO; intro wv hO) | (refine own_stR (hO := hO) (h := ?_); clear hO; intro wv hO) | (refine own_st1 (hO := hO) (h := ?_); clear hO; intro wv hO))) | ((with_reducible refine is_box ?_); (first | (refine own_bx (o := ⟨some 1, _, _, _, _, _⟩) (hO := hO) (h := ?_); clear hO; intro n1 wv hO))) | ((with_reducible refine is_append ?_); (first | (refine own_ap (o := ⟨some 30, _, _, _, _, _⟩) (hO := hO) (h := ?_); clear hO; intro g30 c30 wv hO))) | (go_at_call 47; refine (h1 _ _ (by unfold OwnsB; rw [HN1.out]; exact hO.row _ List.mem_cons_self)).mono ?_; rintro e wv hw; obtain rfl := hw.1; have hw2 := hw.2.2; rw [HN1.out] at hw2; replace hO := hO.afterRow .here hw.2.1 hw2; clear hw hw2 h1) | (go_at_call 47; refine (h3 _ _ (by unfold OwnsB; rw [HN2.out]; exact hO.row _ List.mem_cons_self)).mono ?_; rintro e wv hw; obtain rfl := hw.1; have hw2 := hw.2.2; rw [HN2.out] at hw2; replace hO := hO.afterRow .here hw.2.1 hw2; clear hw hw2 h3) | (go_at_call 48; refine (h4 _ _ (by unfold OwnsB; rw [HN3.out]; exact hO.row _ List.mem_cons_self)).mono ?_; rintro e wv hw; obtain rfl := hw.1; have hw2 := hw.2.2; rw [HN3.out] at hw2; replace hO := hO.afterRow .here hw.2.1 hw2; clear hw hw2 h4) | (go_at_call 49; refine (hsum _ _ (by unfold OwnsB; rw [HN4.out]; exact hO.row _ List.mem_cons_self)).mono ?_; rintro e wv hw; obtain rfl := hw.1; have hw2 := hw.2.2; rw [HN4.out] at hw2; replace hO := hO.afterRow .here hw.2.1 hw2; clear hw hw2 hsum) | ((with_reducible refine is_load ?_); (refine own_ldW (hO := hO) (h := ?_))) | ((with_reducible refine is_store ?_); (refine own_stW (hO := hO) (h := ?_); clear hO; intro wv hO)))
    go_ret2
    exact ⟨_, rfl, by rw [HN5.out]; exact hO.newRow List.mem_cons_self, hO.keep.below⟩
  · have hEL : encLen 1 = 28 := rfl
    have hLF : lenF 1 = 8 := rfl
    have hSA : sumAtF 1 = 22 := rfl
    cases hd8 : dp == 8
    · have hEM : encM ⟨⟨s, d, 1, sp, dp⟩, t, f, pl⟩ = hdrF (encHd ⟨⟨s, d, 1, sp, dp⟩, t, f, pl⟩) ⟨s, d, 1, sp, dp⟩ := by unfold encM kindF; dsimp only; rw [if_neg (by decide), if_neg (by decide), if_pos b11, hd8]; rfl
      have hEH : encHd ⟨⟨s, d, 1, sp, dp⟩, t, f, pl⟩ = p16 ((((List.replicate 28 0 ++ pl).set 0 69).set 8 t).set 9 1) 2 ((28 : Int) + pl.length) := by
        show p16 ((((List.replicate (encLen 1) 0 ++ pl).set 0 69).set 8 t).set 9 1) 2 ((encLen 1 : Int) + pl.length) = _
        rw [hEL]; rfl
      replace hsum := hsum (by rw [hSA, hEL]; omega)
      rw [hEM] at hsum hnM ⊢
      rw [hEH] at hsum hnM ⊢
      rw [hEL] at hsz
      dsimp only at hnM
      rw [hEL] at hnM
      have HZ := Lib.hid (bc_zero 28)
      have hZl : (List.replicate 28 (0 : Int)).length = 28 := List.length_replicate
      clear hEM hEH
      generalize List.replicate 28 (0 : Int) = Z at *
      obtain ⟨N, hN⟩ : ∃ N, 28 + pl.length = N := ⟨_, rfl⟩
      have hNi : (28 : Int) + pl.length = (N : Int) := by omega
      rw [hNi] at hsum hnM ⊢
      rw [hN] at hnM
      have hn0 : (Z ++ pl).length = N := by rw [List.length_append, hZl, hN]
      rw [hLF] at hlen
      clear ho hNi hZl hEL hLF hSA
      generalize hL0 : Z ++ pl = L0 at *
      have hn1 : (((L0.set 0 69).set 8 t).set 9 1).length = N := by simp [hn0]
      generalize hL1 : ((L0.set 0 69).set 8 t).set 9 1 = L1 at *
      have h1 := fun v w hw => put16_any (v := v) (l := L1) 2 (N : Int) w hw (by omega) (by omega) (by omega) (by omega)
      have hn2 : (p16 L1 2 (N : Int)).length = N := by rw [p16_length, hn1]
      generalize hL2 : p16 L1 2 (N : Int) = L2 at *
      have HN0 := Lib.hid hn0
      have HN1 := Lib.hid hn1
      have HL0 := Lib.hid hL0
      have HL1 := Lib.hid hL1
      have HN2 := Lib.hid hn2
      clear hn0 hn1 hL0 hL1 hL2
      obtain ⟨L3, hL3⟩ : ∃ L, L2 = L := ⟨_, rfl⟩
      subst hL3
      have h4 := fun v w hw => putHeader_any (v := v) (l := L2) ⟨s, d, 1, sp, dp⟩ w hw (by omega) (by omega) k.h (fun _ => by omega)
      generalize hL4 : hdrF L2 ⟨s, d, 1, sp, dp⟩ = L4 at *
      have HN4 := Lib.hid hnM
      clear hn2 hnM hL4
      generalize hL5 : sumsF L4 = L5 at *
      have HN5 := Lib.hid (show L5.length = N by rw [← hL5, sumsF_length, HN4.out])
      clear hL5
      go_enter Tryd.func26, Tryd.ntmps26
      go_wp2_with (first | ((with_reducible refine is_load ?_); (first | (refine own_ldP hO (h := ?_)) | (refine own_ld (h := ?_)))) | ((with_reducible refine is_store ?_); (first | (refine own_stRp (hO := hO) (h := ?_); clear hO; intro wv hO) | (refine own_st1p (hO := hO) (h := ?_); clear hO; intro wv hO) | (refine own_stR (hO := hO) (h := ?_); clear hO; intro wv hO) | (refine own_st1 (hO := hO) (h := ?_); clear hO; intro wv hO))) | ((with_reducible refine is_box ?_); (first | (refine own_bx (o := ⟨some 1, _, _, _, _, _⟩) (hO := hO) (h := ?_); clear hO; intro n1 wv hO))) | ((with_reducible refine is_append ?_); (first | (refine own_ap (o := ⟨some 30, _, _, _, _, _⟩) (hO := hO) (h := ?_); clear hO; intro g30 c30 wv hO))) | (go_at_call 45; refine (hcod _).mono ?_; rintro e wv ⟨rfl, hb⟩; replace hO := hO.call hb; clear hb) | (go_at_call 46; refine (hlen _).mono ?_; rintro e _ ⟨rfl, rfl⟩) | ((with_reducible refine is_make ?_); (refine own_makeB (o := ⟨some 26, _, _, _, _, _⟩) hO (by rfl) rfl slice_u8 zero_u8 rfl rfl (n := 28) (c := N) (by first | rfl | omega | (simp; omega)) (by first | rfl | omega | (simp; omega)) (by omega) (by omega) HZ.out ?_); clear hO; intro n26 wv hO) | ((with_reducible refine is_append ?_); (refine own_appendP (o := ⟨some 30, _, _, _, _, _⟩) hO rfl rfl slice_u8 rfl rfl (src_of_cells (IsCells.below hv hO.keep.below) (by simp [bc_length]; try omega)) (bc_one _) (fun _ => by repeat (first | exact UpdR.here | apply UpdR.there)) (by first | omega | (simp; omega)) (by unfold maxLen; first | omega | (simp; omega)) (by first | omega | (simp; done) | (simp; omega)) ?_); clear hO; intro g30 c30 wv hO) | ((with_reducible refine is_load ?_); (refine own_ldW (hO := hO) (h := ?_))) | ((with_reducible refine is_store ?_); (refine own_stW (hO := hO) (h := ?_); clear hO; intro wv hO)))
      rw [← bc_append, hN, HL0.out] at hO
      have hn0 := HN0.out
      apply wp_via
      case h =>
        refine wp_region_any (by kernel_rfl) ?_
        replace hO := hO.drew
        refine wpAny_takePL 0 rfl (by kernel_rfl) (by kernel_rfl) (by kernel_rfl) (by rintro c d v a w ⟨h, _⟩; cases h) (by rfl) ?_
        (first | go_big_quiet_skip | (go_big_quiet_want; (go_big_quiet_op; (first | go_big_quiet_on | ((refine ⟨_, fun _ _ => rfl, ?_⟩); go_big_quiet_on))))); (refine wpQuiet_nil ?_); (try simp only [Act.put]); (try simp only [List.setIfInBounds_toArray, List.set_cons_zero, List.set_cons_succ])
        refine wpAny_takePL 1 rfl (by kernel_rfl) (by kernel_rfl) (by kernel_rfl) (by rintro c d v a w ⟨h, _⟩; cases h) (by rfl) ?_
        (first | go_big_quiet_skip | (go_big_quiet_want; (go_big_quiet_op; (first | go_big_quiet_on | ((refine ⟨_, fun _ _ => rfl, ?_⟩); go_big_quiet_on))))); (refine wpQuiet_nil ?_); (try simp only [Act.put]); (try simp only [List.setIfInBounds_toArray, List.set_cons_zero, List.set_cons_succ])
        refine wpAny_takePL 2 rfl (by kernel_rfl) (by kernel_rfl) (by kernel_rfl) (by rintro c d v a w ⟨h, _⟩; cases h) (by rfl) ?_
        (first | go_big_quiet_skip | (go_big_quiet_want; (go_big_quiet_op; (first | go_big_quiet_on | ((refine ⟨_, fun _ _ => rfl, ?_⟩); go_big_quiet_on))))); (refine wpQuiet_nil ?_); (try simp only [Act.put]); (try simp only [List.setIfInBounds_toArray, List.set_cons_zero, List.set_cons_succ])
        refine wpAny_takePL 3 rfl (by kernel_rfl) (by kernel_rfl) (by kernel_rfl) (by rintro c d v a w ⟨h, _⟩; cases h) (by rfl) ?_
        (first | go_big_quiet_skip | (go_big_quiet_want; (go_big_quiet_op; (first | go_big_quiet_on | ((refine ⟨_, fun _ _ => rfl, ?_⟩); go_big_quiet_on))))); (refine wpQuiet_nil ?_); (try simp only [Act.put]); (try simp only [List.setIfInBounds_toArray, List.set_cons_zero, List.set_cons_succ])
        refine wpAny_takePL 6 rfl (by kernel_rfl) (by kernel_rfl) (by kernel_rfl) (by rintro c d v a w ⟨h, _⟩; cases h) (by rfl) ?_
        (first | go_big_quiet_skip | (go_big_quiet_want; (go_big_quiet_op; (first | go_big_quiet_on | ((refine ⟨_, fun _ _ => rfl, ?_⟩); go_big_quiet_on))))); (refine wpQuiet_nil ?_); (try simp only [Act.put]); (try simp only [List.setIfInBounds_toArray, List.set_cons_zero, List.set_cons_succ])
        refine wpAny_takePL 7 rfl (by kernel_rfl) (by kernel_rfl) (by kernel_rfl) (by rintro c d v a w ⟨h, _⟩; cases h) (by rfl) ?_
        (first | go_big_quiet_skip | (go_big_quiet_want; (go_big_quiet_op; (first | go_big_quiet_on | ((refine ⟨_, fun _ _ => rfl, ?_⟩); go_big_quiet_on))))); (refine wpQuiet_nil ?_); (try simp only [Act.put]); (try simp only [List.setIfInBounds_toArray, List.set_cons_zero, List.set_cons_succ])
        refine wpAny_takePL 9 rfl (by kernel_rfl) (by kernel_rfl) (by kernel_rfl) (by rintro c d v a w ⟨h, _⟩; cases h) (by rfl) ?_
        (first | go_big_quiet_skip | (go_big_quiet_want; (go_big_quiet_op; (first | go_big_quiet_on | ((refine ⟨_, fun _ _ => rfl, ?_⟩); go_big_quiet_on))))); (refine wpQuiet_nil ?_); (try simp only [Act.put]); (try simp only [List.setIfInBounds_toArray, List.set_cons_zero, List.set_cons_succ])
        refine wpAny_all (rs := [4, 8, 10]) (by kernel_rfl) (by simp) (ord_cons ?_ (ord_cons ?_ (ord_cons ?_ ord_nil)))
        rotate_left 3
        all_goals
          refine wpOp_of_listL rfl ?_
          (first | ((with_reducible refine is_load ?_); (first | (refine own_ld (h := ?_)))) | ((with_reducible refine is_store ?_); (first | (refine own_stR (hO := hO) (h := ?_); clear hO; intro wv hO) | (refine own_st1 (hO := hO) (h := ?_); clear hO; intro wv hO))) | ((with_reducible refine is_load ?_); (refine own_ldW (hO := hO) (h := ?_))) | ((with_reducible refine is_store ?_); (refine own_stW (hO := hO) (h := ?_); clear hO; intro wv hO)) | ((refine wpList_step (fun K hK => ?_)); go_simp; (first | ((refine hK _ _ ?_); clear hK K)))); (try simp only [Act.put]); (try simp only [List.setIfInBounds_toArray, List.set_cons_zero, List.set_cons_succ])
          refine wpList_done (qk_intro ?_)
        refine wpAny_takePL 5 rfl (by kernel_rfl) (by kernel_rfl) (by kernel_rfl) (by rintro c d v a w ⟨h, _⟩; cases h) (by rfl) ?_
        (first | go_big_quiet_skip | (go_big_quiet_want; (go_big_quiet_op; (first | go_big_quiet_on | ((refine ⟨_, fun _ _ => rfl, ?_⟩); go_big_quiet_on))))); (refine wpQuiet_nil ?_); (try simp only [Act.put]); (try simp only [List.setIfInBounds_toArray, List.set_cons_zero, List.set_cons_succ])
        refine wpAny_all (rs := [8, 10]) (by kernel_rfl) (by simp) (ord_cons ?_ (ord_cons ?_ ord_nil))
        rotate_left 2
        refine wpAny_all (rs := [4, 10]) (by kernel_rfl) (by simp) (ord_cons ?_ (ord_cons ?_ ord_nil))
        rotate_left 2
        refine wpAny_all (rs := [4, 8]) (by kernel_rfl) (by simp) (ord_cons ?_ (ord_cons ?_ ord_nil))
        rotate_left 2
        all_goals
          refine wpOp_of_listL rfl ?_
          (first | ((with_reducible refine is_load ?_); (first | (refine own_ld (h := ?_)))) | ((with_reducible refine is_store ?_); (first | (refine own_stR (hO := hO) (h := ?_); clear hO; intro wv hO) | (refine own_st1 (hO := hO) (h := ?_); clear hO; intro wv hO))) | ((with_reducible refine is_load ?_); (refine own_ldW (hO := hO) (h := ?_))) | ((with_reducible refine is_store ?_); (refine own_stW (hO := hO) (h := ?_); clear hO; intro wv hO)) | ((refine wpList_step (fun K hK => ?_)); go_simp; (first | ((refine hK _ _ ?_); clear hK K)))); (try simp only [Act.put]); (try simp only [List.setIfInBounds_toArray, List.set_cons_zero, List.set_cons_succ])
          refine wpList_done (qk_intro ?_)
        refine wpAny_all (rs := [10]) (by kernel_rfl) (by simp) (ord_cons ?_ ord_nil)
        rotate_left 1
        refine wpAny_takePL 11 rfl (by kernel_rfl) (by kernel_rfl) (by kernel_rfl) (by rintro c d v a w ⟨h, _⟩; cases h) (by rfl) ?_
        (first | go_big_quiet_skip | (go_big_quiet_want; (go_big_quiet_op; (first | go_big_quiet_on | ((refine ⟨_, fun _ _ => rfl, ?_⟩); go_big_quiet_on))))); (refine wpQuiet_nil ?_); (try simp only [Act.put]); (try simp only [List.setIfInBounds_toArray, List.set_cons_zero, List.set_cons_succ])
        refine wpAny_all (rs := [8, 12]) (by kernel_rfl) (by simp) (ord_cons ?_ (ord_cons ?_ ord_nil))
        rotate_left 2
        refine wpAny_takePL 5 rfl (by kernel_rfl) (by kernel_rfl) (by kernel_rfl) (by rintro c d v a w ⟨h, _⟩; cases h) (by rfl) ?_
        (first | go_big_quiet_skip | (go_big_quiet_want; (go_big_quiet_op; (first | go_big_quiet_on | ((refine ⟨_, fun _ _ => rfl, ?_⟩); go_big_quiet_on))))); (refine wpQuiet_nil ?_); (try simp only [Act.put]); (try simp only [List.setIfInBounds_toArray, List.set_cons_zero, List.set_cons_succ])
        refine wpAny_all (rs := [10]) (by kernel_rfl) (by simp) (ord_cons ?_ ord_nil)
        rotate_left 1
        refine wpAny_all (rs := [4]) (by kernel_rfl) (by simp) (ord_cons ?_ ord_nil)
        rotate_left 1
        refine wpAny_takePL 5 rfl (by kernel_rfl) (by kernel_rfl) (by kernel_rfl) (by rintro c d v a w ⟨h, _⟩; cases h) (by rfl) ?_
        (first | go_big_quiet_skip | (go_big_quiet_want; (go_big_quiet_op; (first | go_big_quiet_on | ((refine ⟨_, fun _ _ => rfl, ?_⟩); go_big_quiet_on))))); (refine wpQuiet_nil ?_); (try simp only [Act.put]); (try simp only [List.setIfInBounds_toArray, List.set_cons_zero, List.set_cons_succ])
        refine wpAny_takePL 11 rfl (by kernel_rfl) (by kernel_rfl) (by kernel_rfl) (by rintro c d v a w ⟨h, _⟩; cases h) (by rfl) ?_
        (first | go_big_quiet_skip | (go_big_quiet_want; (go_big_quiet_op; (first | go_big_quiet_on | ((refine ⟨_, fun _ _ => rfl, ?_⟩); go_big_quiet_on))))); (refine wpQuiet_nil ?_); (try simp only [Act.put]); (try simp only [List.setIfInBounds_toArray, List.set_cons_zero, List.set_cons_succ])
        refine wpAny_all (rs := [8, 12]) (by kernel_rfl) (by simp) (ord_cons ?_ (ord_cons ?_ ord_nil))
        rotate_left 2
        refine wpAny_all (rs := [4]) (by kernel_rfl) (by simp) (ord_cons ?_ ord_nil)
        rotate_left 1
        all_goals
          refine wpOp_of_listL rfl ?_
          (first | ((with_reducible refine is_load ?_); (first | (refine own_ld (h := ?_)))) | ((with_reducible refine is_store ?_); (first | (refine own_stR (hO := hO) (h := ?_); clear hO; intro wv hO) | (refine own_st1 (hO := hO) (h := ?_); clear hO; intro wv hO))) | ((with_reducible refine is_load ?_); (refine own_ldW (hO := hO) (h := ?_))) | ((with_reducible refine is_store ?_); (refine own_stW (hO := hO) (h := ?_); clear hO; intro wv hO)) | ((refine wpList_step (fun K hK => ?_)); go_simp; (first | ((refine hK _ _ ?_); clear hK K)))); (try simp only [Act.put]); (try simp only [List.setIfInBounds_toArray, List.set_cons_zero, List.set_cons_succ])
          refine wpList_done (qk_intro ?_)
        refine wpAny_takePL 11 rfl (by kernel_rfl) (by kernel_rfl) (by kernel_rfl) (by rintro c d v a w ⟨h, _⟩; cases h) (by rfl) ?_
        (first | go_big_quiet_skip | (go_big_quiet_want; (go_big_quiet_op; (first | go_big_quiet_on | ((refine ⟨_, fun _ _ => rfl, ?_⟩); go_big_quiet_on))))); (refine wpQuiet_nil ?_); (try simp only [Act.put]); (try simp only [List.setIfInBounds_toArray, List.set_cons_zero, List.set_cons_succ])
        refine wpAny_all (rs := [12]) (by kernel_rfl) (by simp) (ord_cons ?_ ord_nil)
        rotate_left 1
        refine wpAny_all (rs := [12]) (by kernel_rfl) (by simp) (ord_cons ?_ ord_nil)
        rotate_left 1
        refine wpAny_all (rs := [8]) (by kernel_rfl) (by simp) (ord_cons ?_ ord_nil)
        rotate_left 1
        refine wpAny_takePL 11 rfl (by kernel_rfl) (by kernel_rfl) (by kernel_rfl) (by rintro c d v a w ⟨h, _⟩; cases h) (by rfl) ?_
        (first | go_big_quiet_skip | (go_big_quiet_want; (go_big_quiet_op; (first | go_big_quiet_on | ((refine ⟨_, fun _ _ => rfl, ?_⟩); go_big_quiet_on))))); (refine wpQuiet_nil ?_); (try simp only [Act.put]); (try simp only [List.setIfInBounds_toArray, List.set_cons_zero, List.set_cons_succ])
        refine wpAny_all (rs := [12]) (by kernel_rfl) (by simp) (ord_cons ?_ ord_nil)
        rotate_left 1
        refine wpAny_takePL 5 rfl (by kernel_rfl) (by kernel_rfl) (by kernel_rfl) (by rintro c d v a w ⟨h, _⟩; cases h) (by rfl) ?_
        (first | go_big_quiet_skip | (go_big_quiet_want; (go_big_quiet_op; (first | go_big_quiet_on | ((refine ⟨_, fun _ _ => rfl, ?_⟩); go_big_quiet_on))))); (refine wpQuiet_nil ?_); (try simp only [Act.put]); (try simp only [List.setIfInBounds_toArray, List.set_cons_zero, List.set_cons_succ])
        refine wpAny_takePL 11 rfl (by kernel_rfl) (by kernel_rfl) (by kernel_rfl) (by rintro c d v a w ⟨h, _⟩; cases h) (by rfl) ?_
        (first | go_big_quiet_skip | (go_big_quiet_want; (go_big_quiet_op; (first | go_big_quiet_on | ((refine ⟨_, fun _ _ => rfl, ?_⟩); go_big_quiet_on))))); (refine wpQuiet_nil ?_); (try simp only [Act.put]); (try simp only [List.setIfInBounds_toArray, List.set_cons_zero, List.set_cons_succ])
        refine wpAny_all (rs := [12]) (by kernel_rfl) (by simp) (ord_cons ?_ ord_nil)
        rotate_left 1
        refine wpAny_all (rs := [12]) (by kernel_rfl) (by simp) (ord_cons ?_ ord_nil)
        rotate_left 1
        refine wpAny_all (rs := [8]) (by kernel_rfl) (by simp) (ord_cons ?_ ord_nil)
        rotate_left 1
        refine wpAny_takePL 5 rfl (by kernel_rfl) (by kernel_rfl) (by kernel_rfl) (by rintro c d v a w ⟨h, _⟩; cases h) (by rfl) ?_
        (first | go_big_quiet_skip | (go_big_quiet_want; (go_big_quiet_op; (first | go_big_quiet_on | ((refine ⟨_, fun _ _ => rfl, ?_⟩); go_big_quiet_on))))); (refine wpQuiet_nil ?_); (try simp only [Act.put]); (try simp only [List.setIfInBounds_toArray, List.set_cons_zero, List.set_cons_succ])
        refine wpAny_takePL 11 rfl (by kernel_rfl) (by kernel_rfl) (by kernel_rfl) (by rintro c d v a w ⟨h, _⟩; cases h) (by rfl) ?_
        (first | go_big_quiet_skip | (go_big_quiet_want; (go_big_quiet_op; (first | go_big_quiet_on | ((refine ⟨_, fun _ _ => rfl, ?_⟩); go_big_quiet_on))))); (refine wpQuiet_nil ?_); (try simp only [Act.put]); (try simp only [List.setIfInBounds_toArray, List.set_cons_zero, List.set_cons_succ])
        refine wpAny_all (rs := [12]) (by kernel_rfl) (by simp) (ord_cons ?_ ord_nil)
        rotate_left 1
        all_goals
          refine wpOp_of_listL rfl ?_
          (first | ((with_reducible refine is_load ?_); (first | (refine own_ld (h := ?_)))) | ((with_reducible refine is_store ?_); (first | (refine own_stR (hO := hO) (h := ?_); clear hO; intro wv hO) | (refine own_st1 (hO := hO) (h := ?_); clear hO; intro wv hO))) | ((with_reducible refine is_load ?_); (refine own_ldW (hO := hO) (h := ?_))) | ((with_reducible refine is_store ?_); (refine own_stW (hO := hO) (h := ?_); clear hO; intro wv hO)) | ((refine wpList_step (fun K hK => ?_)); go_simp; (first | ((refine hK _ _ ?_); clear hK K)))); (try simp only [Act.put]); (try simp only [List.setIfInBounds_toArray, List.set_cons_zero, List.set_cons_succ])
          refine wpList_done (qk_intro ?_)
        refine wpAny_takePL 13 rfl (by kernel_rfl) (by kernel_rfl) (by kernel_rfl) (by rintro c d v a w ⟨h, _⟩; cases h) (by rfl) ?_
        (first | go_big_quiet_skip | (go_big_quiet_want; (go_big_quiet_op; (first | go_big_quiet_on | ((refine ⟨_, fun _ _ => rfl, ?_⟩); go_big_quiet_on))))); (refine wpQuiet_nil ?_); (try simp only [Act.put]); (try simp only [List.setIfInBounds_toArray, List.set_cons_zero, List.set_cons_succ])
        refine wpAny_all (rs := [14]) (by kernel_rfl) (by simp) (ord_cons ?_ ord_nil)
        rotate_left 1
        refine wpAny_takePL 13 rfl (by kernel_rfl) (by kernel_rfl) (by kernel_rfl) (by rintro c d v a w ⟨h, _⟩; cases h) (by rfl) ?_
        (first | go_big_quiet_skip | (go_big_quiet_want; (go_big_quiet_op; (first | go_big_quiet_on | ((refine ⟨_, fun _ _ => rfl, ?_⟩); go_big_quiet_on))))); (refine wpQuiet_nil ?_); (try simp only [Act.put]); (try simp only [List.setIfInBounds_toArray, List.set_cons_zero, List.set_cons_succ])
        refine wpAny_all (rs := [14]) (by kernel_rfl) (by simp) (ord_cons ?_ ord_nil)
        rotate_left 1
        refine wpAny_takePL 13 rfl (by kernel_rfl) (by kernel_rfl) (by kernel_rfl) (by rintro c d v a w ⟨h, _⟩; cases h) (by rfl) ?_
        (first | go_big_quiet_skip | (go_big_quiet_want; (go_big_quiet_op; (first | go_big_quiet_on | ((refine ⟨_, fun _ _ => rfl, ?_⟩); go_big_quiet_on))))); (refine wpQuiet_nil ?_); (try simp only [Act.put]); (try simp only [List.setIfInBounds_toArray, List.set_cons_zero, List.set_cons_succ])
        refine wpAny_all (rs := [14]) (by kernel_rfl) (by simp) (ord_cons ?_ ord_nil)
        rotate_left 1
        refine wpAny_takePL 13 rfl (by kernel_rfl) (by kernel_rfl) (by kernel_rfl) (by rintro c d v a w ⟨h, _⟩; cases h) (by rfl) ?_
        (first | go_big_quiet_skip | (go_big_quiet_want; (go_big_quiet_op; (first | go_big_quiet_on | ((refine ⟨_, fun _ _ => rfl, ?_⟩); go_big_quiet_on))))); (refine wpQuiet_nil ?_); (try simp only [Act.put]); (try simp only [List.setIfInBounds_toArray, List.set_cons_zero, List.set_cons_succ])
        refine wpAny_all (rs := [14]) (by kernel_rfl) (by simp) (ord_cons ?_ ord_nil)
        rotate_left 1
        refine wpAny_takePL 13 rfl (by kernel_rfl) (by kernel_rfl) (by kernel_rfl) (by rintro c d v a w ⟨h, _⟩; cases h) (by rfl) ?_
        (first | go_big_quiet_skip | (go_big_quiet_want; (go_big_quiet_op; (first | go_big_quiet_on | ((refine ⟨_, fun _ _ => rfl, ?_⟩); go_big_quiet_on))))); (refine wpQuiet_nil ?_); (try simp only [Act.put]); (try simp only [List.setIfInBounds_toArray, List.set_cons_zero, List.set_cons_succ])
        refine wpAny_all (rs := [14]) (by kernel_rfl) (by simp) (ord_cons ?_ ord_nil)
        rotate_left 1
        refine wpAny_takePL 13 rfl (by kernel_rfl) (by kernel_rfl) (by kernel_rfl) (by rintro c d v a w ⟨h, _⟩; cases h) (by rfl) ?_
        (first | go_big_quiet_skip | (go_big_quiet_want; (go_big_quiet_op; (first | go_big_quiet_on | ((refine ⟨_, fun _ _ => rfl, ?_⟩); go_big_quiet_on))))); (refine wpQuiet_nil ?_); (try simp only [Act.put]); (try simp only [List.setIfInBounds_toArray, List.set_cons_zero, List.set_cons_succ])
        refine wpAny_all (rs := [14]) (by kernel_rfl) (by simp) (ord_cons ?_ ord_nil)
        rotate_left 1
        refine wpAny_takePL 13 rfl (by kernel_rfl) (by kernel_rfl) (by kernel_rfl) (by rintro c d v a w ⟨h, _⟩; cases h) (by rfl) ?_
        (first | go_big_quiet_skip | (go_big_quiet_want; (go_big_quiet_op; (first | go_big_quiet_on | ((refine ⟨_, fun _ _ => rfl, ?_⟩); go_big_quiet_on))))); (refine wpQuiet_nil ?_); (try simp only [Act.put]); (try simp only [List.setIfInBounds_toArray, List.set_cons_zero, List.set_cons_succ])
        refine wpAny_all (rs := [14]) (by kernel_rfl) (by simp) (ord_cons ?_ ord_nil)
        rotate_left 1
        refine wpAny_takePL 13 rfl (by kernel_rfl) (by kernel_rfl) (by kernel_rfl) (by rintro c d v a w ⟨h, _⟩; cases h) (by rfl) ?_
        (first | go_big_quiet_skip | (go_big_quiet_want; (go_big_quiet_op; (first | go_big_quiet_on | ((refine ⟨_, fun _ _ => rfl, ?_⟩); go_big_quiet_on))))); (refine wpQuiet_nil ?_); (try simp only [Act.put]); (try simp only [List.setIfInBounds_toArray, List.set_cons_zero, List.set_cons_succ])
        refine wpAny_all (rs := [14]) (by kernel_rfl) (by simp) (ord_cons ?_ ord_nil)
        rotate_left 1
        all_goals
          refine wpOp_of_listL rfl ?_
          (first | ((with_reducible refine is_load ?_); (first | (refine own_ld (h := ?_)))) | ((with_reducible refine is_store ?_); (first | (refine own_stR (hO := hO) (h := ?_); clear hO; intro wv hO) | (refine own_st1 (hO := hO) (h := ?_); clear hO; intro wv hO))) | ((with_reducible refine is_load ?_); (refine own_ldW (hO := hO) (h := ?_))) | ((with_reducible refine is_store ?_); (refine own_stW (hO := hO) (h := ?_); clear hO; intro wv hO)) | ((refine wpList_step (fun K hK => ?_)); go_simp; (first | ((refine hK _ _ ?_); clear hK K)))); (try simp only [Act.put]); (try simp only [List.setIfInBounds_toArray, List.set_cons_zero, List.set_cons_succ])
          refine wpList_done (qk_intro ?_)
        exact wpAny_done (by kernel_rfl) ⟨rfl, rfl, hO⟩ _
        exact wpAny_done (by kernel_rfl) ⟨rfl, rfl, hO⟩ _
        exact wpAny_done (by kernel_rfl) ⟨rfl, rfl, hO⟩ _
        exact wpAny_done (by kernel_rfl) ⟨rfl, rfl, hO⟩ _
        exact wpAny_done (by kernel_rfl) ⟨rfl, rfl, hO⟩ _
        exact wpAny_done (by kernel_rfl) ⟨rfl, rfl, hO⟩ _
        exact wpAny_done (by kernel_rfl) ⟨rfl, rfl, hO⟩ _
        exact wpAny_done (by kernel_rfl) ⟨rfl, rfl, hO⟩ _
      clear hO
      intro wv hO
      clear hn0
      rw [HL1.out] at hO
      have tk := tk_hdP ⟨s, d, 1, sp, dp⟩ t f (.slice a pl.length c)
      go_wp2_with (first | ((with_reducible refine is_load ?_); (first | (refine own_ldP hO (h := ?_)) | (refine own_ld (h := ?_)))) | ((with_reducible refine is_store ?_); (first | (refine own_stRp (hO := hO) (h := ?_); clear hO; intro wv hO) | (refine own_st1p (hO := hO) (h := ?_); clear hO; intro wv hO) | (refine own_stR (hO := hO) (h := ?_); clear hO; intro wv hO) | (refine own_st1 (hO := hO) (h := ?_); clear hO; intro wv hO))) | ((with_reducible refine is_box ?_); (first | (refine own_bx (o := ⟨some 1, _, _, _, _, _⟩) (hO := hO) (h := ?_); clear hO; intro n1 wv hO))) | ((with_reducible refine is_append ?_); (first | (refine own_ap (o := ⟨some 30, _, _, _, _, _⟩) (hO := hO) (h := ?_); clear hO; intro g30 c30 wv hO))) | (go_at_call 47; refine (h1 _ _ (by unfold OwnsB; rw [HN1.out]; exact hO.row _ List.mem_cons_self)).mono ?_; rintro e wv hw; obtain rfl := hw.1; have hw2 := hw.2.2; rw [HN1.out] at hw2; replace hO := hO.afterRow .here hw.2.1 hw2; clear hw hw2 h1) | (go_at_call 48; refine (h4 _ _ (by unfold OwnsB; rw [HN2.out]; exact hO.row _ List.mem_cons_self)).mono ?_; rintro e wv hw; obtain rfl := hw.1; have hw2 := hw.2.2; rw [HN2.out] at hw2; replace hO := hO.afterRow .here hw.2.1 hw2; clear hw hw2 h4) | (go_at_call 49; refine (hsum _ _ (by unfold OwnsB; rw [HN4.out]; exact hO.row _ List.mem_cons_self)).mono ?_; rintro e wv hw; obtain rfl := hw.1; have hw2 := hw.2.2; rw [HN4.out] at hw2; replace hO := hO.afterRow .here hw.2.1 hw2; clear hw hw2 hsum) | ((with_reducible refine is_load ?_); (refine own_ldW (hO := hO) (h := ?_))) | ((with_reducible refine is_store ?_); (refine own_stW (hO := hO) (h := ?_); clear hO; intro wv hO)))
      go_ret2
      exact ⟨_, rfl, by rw [HN5.out]; exact hO.newRow List.mem_cons_self, hO.keep.below⟩
    · have hEM : encM ⟨⟨s, d, 1, sp, dp⟩, t, f, pl⟩ = hdrF ((encHd ⟨⟨s, d, 1, sp, dp⟩, t, f, pl⟩).set 20 8) ⟨s, d, 1, sp, dp⟩ := by unfold encM kindF; dsimp only; rw [if_neg (by decide), if_neg (by decide), if_pos b11, hd8]; rfl
      have hEH : encHd ⟨⟨s, d, 1, sp, dp⟩, t, f, pl⟩ = p16 ((((List.replicate 28 0 ++ pl).set 0 69).set 8 t).set 9 1) 2 ((28 : Int) + pl.length) := by
        show p16 ((((List.replicate (encLen 1) 0 ++ pl).set 0 69).set 8 t).set 9 1) 2 ((encLen 1 : Int) + pl.length) = _
        rw [hEL]; rfl
      replace hsum := hsum (by rw [hSA, hEL]; omega)
      rw [hEM] at hsum hnM ⊢
      rw [hEH] at hsum hnM ⊢
      rw [hEL] at hsz
      dsimp only at hnM
      rw [hEL] at hnM
      have HZ := Lib.hid (bc_zero 28)
      have hZl : (List.replicate 28 (0 : Int)).length = 28 := List.length_replicate
      clear hEM hEH
      generalize List.replicate 28 (0 : Int) = Z at *
      obtain ⟨N, hN⟩ : ∃ N, 28 + pl.length = N := ⟨_, rfl⟩
      have hNi : (28 : Int) + pl.length = (N : Int) := by omega
      rw [hNi] at hsum hnM ⊢
      rw [hN] at hnM
      have hn0 : (Z ++ pl).length = N := by rw [List.length_append, hZl, hN]
      rw [hLF] at hlen
      clear ho hNi hZl hEL hLF hSA
      generalize hL0 : Z ++ pl = L0 at *
      have hn1 : (((L0.set 0 69).set 8 t).set 9 1).length = N := by simp [hn0]
      generalize hL1 : ((L0.set 0 69).set 8 t).set 9 1 = L1 at *
      have h1 := fun v w hw => put16_any (v := v) (l := L1) 2 (N : Int) w hw (by omega) (by omega) (by omega) (by omega)
      have hn2 : (p16 L1 2 (N : Int)).length = N := by rw [p16_length, hn1]
      generalize hL2 : p16 L1 2 (N : Int) = L2 at *
      have HN0 := Lib.hid hn0
      have HN1 := Lib.hid hn1
      have HL0 := Lib.hid hL0
      have HL1 := Lib.hid hL1
      have HN2 := Lib.hid hn2
      clear hn0 hn1 hL0 hL1 hL2
      generalize hL3 : L2.set 20 8 = L3 at *
      have hn3 : L3.length = N := by rw [← hL3]; simp [hn2]
      have h4 := fun v w hw => putHeader_any (v := v) (l := L3) ⟨s, d, 1, sp, dp⟩ w hw (by omega) (by omega) k.h (fun _ => by omega)
      generalize hL4 : hdrF L3 ⟨s, d, 1, sp, dp⟩ = L4 at *
      have HN3 := Lib.hid hn3
      have HN4 := Lib.hid hnM
      clear hn2 hn3 hnM hL4
      generalize hL5 : sumsF L4 = L5 at *
      have HN5 := Lib.hid (show L5.length = N by rw [← hL5, sumsF_length, HN4.out])
      clear hL5
      have hn2 := HN2.out
      go_enter Tryd.func26, Tryd.ntmps26
      go_wp2_with (first | ((with_reducible refine is_load ?_); (first | (refine own_ldP hO (h := ?_)) | (refine own_ld (h := ?_)))) | ((with_reducible refine is_store ?_); (first | (refine own_stRp (hO := hO) (h := ?_); clear hO; intro wv hO) | (refine own_st1p (hO := hO) (h := ?_); clear hO; intro wv hO) | (refine own_stR (hO := hO) (h := ?_); clear hO; intro wv hO) | (refine own_st1 (hO := hO) (h := ?_); clear hO; intro wv hO))) | ((with_reducible refine is_box ?_); (first | (refine own_bx (o := ⟨some 1, _, _, _, _, _⟩) (hO := hO) (h := ?_); clear hO; intro n1 wv hO))) | ((with_reducible refine is_append ?_); (first | (refine own_ap (o := ⟨some 30, _, _, _, _, _⟩) (hO := hO) (h := ?_); clear hO; intro g30 c30 wv hO))) | (go_at_call 45; refine (hcod _).mono ?_; rintro e wv ⟨rfl, hb⟩; replace hO := hO.call hb; clear hb) | (go_at_call 46; refine (hlen _).mono ?_; rintro e _ ⟨rfl, rfl⟩) | ((with_reducible refine is_make ?_); (refine own_makeB (o := ⟨some 26, _, _, _, _, _⟩) hO (by rfl) rfl slice_u8 zero_u8 rfl rfl (n := 28) (c := N) (by first | rfl | omega | (simp; omega)) (by first | rfl | omega | (simp; omega)) (by omega) (by omega) HZ.out ?_); clear hO; intro n26 wv hO) | ((with_reducible refine is_append ?_); (refine own_appendP (o := ⟨some 30, _, _, _, _, _⟩) hO rfl rfl slice_u8 rfl rfl (src_of_cells (IsCells.below hv hO.keep.below) (by simp [bc_length]; try omega)) (bc_one _) (fun _ => by repeat (first | exact UpdR.here | apply UpdR.there)) (by first | omega | (simp; omega)) (by unfold maxLen; first | omega | (simp; omega)) (by first | omega | (simp; done) | (simp; omega)) ?_); clear hO; intro g30 c30 wv hO) | ((with_reducible refine is_load ?_); (refine own_ldW (hO := hO) (h := ?_))) | ((with_reducible refine is_store ?_); (refine own_stW (hO := hO) (h := ?_); clear hO; intro wv hO)))
      rw [← bc_append, hN, HL0.out] at hO
      have hn0 := HN0.out
      apply wp_via
      case h =>
        refine wp_region_any (by kernel_rfl) ?_
        replace hO := hO.drew
        refine wpAny_takePL 0 rfl (by kernel_rfl) (by kernel_rfl) (by kernel_rfl) (by rintro c d v a w ⟨h, _⟩; cases h) (by rfl) ?_
        (first | go_big_quiet_skip | (go_big_quiet_want; (go_big_quiet_op; (first | go_big_quiet_on | ((refine ⟨_, fun _ _ => rfl, ?_⟩); go_big_quiet_on))))); (refine wpQuiet_nil ?_); (try simp only [Act.put]); (try simp only [List.setIfInBounds_toArray, List.set_cons_zero, List.set_cons_succ])
        refine wpAny_takePL 1 rfl (by kernel_rfl) (by kernel_rfl) (by kernel_rfl) (by rintro c d v a w ⟨h, _⟩; cases h) (by rfl) ?_
        (first | go_big_quiet_skip | (go_big_quiet_want; (go_big_quiet_op; (first | go_big_quiet_on | ((refine ⟨_, fun _ _ => rfl, ?_⟩); go_big_quiet_on))))); (refine wpQuiet_nil ?_); (try simp only [Act.put]); (try simp only [List.setIfInBounds_toArray, List.set_cons_zero, List.set_cons_succ])
        refine wpAny_takePL 2 rfl (by kernel_rfl) (by kernel_rfl) (by kernel_rfl) (by rintro c d v a w ⟨h, _⟩; cases h) (by rfl) ?_
        (first | go_big_quiet_skip | (go_big_quiet_want; (go_big_quiet_op; (first | go_big_quiet_on | ((refine ⟨_, fun _ _ => rfl, ?_⟩); go_big_quiet_on))))); (refine wpQuiet_nil ?_); (try simp only [Act.put]); (try simp only [List.setIfInBounds_toArray, List.set_cons_zero, List.set_cons_succ])
        refine wpAny_takePL 3 rfl (by kernel_rfl) (by kernel_rfl) (by kernel_rfl) (by rintro c d v a w ⟨h, _⟩; cases h) (by rfl) ?_
        (first | go_big_quiet_skip | (go_big_quiet_want; (go_big_quiet_op; (first | go_big_quiet_on | ((refine ⟨_, fun _ _ => rfl, ?_⟩); go_big_quiet_on))))); (refine wpQuiet_nil ?_); (try simp only [Act.put]); (try simp only [List.setIfInBounds_toArray, List.set_cons_zero, List.set_cons_succ])
        refine wpAny_takePL 6 rfl (by kernel_rfl) (by kernel_rfl) (by kernel_rfl) (by rintro c d v a w ⟨h, _⟩; cases h) (by rfl) ?_
        (first | go_big_quiet_skip | (go_big_quiet_want; (go_big_quiet_op; (first | go_big_quiet_on | ((refine ⟨_, fun _ _ => rfl, ?_⟩); go_big_quiet_on))))); (refine wpQuiet_nil ?_); (try simp only [Act.put]); (try simp only [List.setIfInBounds_toArray, List.set_cons_zero, List.set_cons_succ])
        refine wpAny_takePL 7 rfl (by kernel_rfl) (by kernel_rfl) (by kernel_rfl) (by rintro c d v a w ⟨h, _⟩; cases h) (by rfl) ?_
        (first | go_big_quiet_skip | (go_big_quiet_want; (go_big_quiet_op; (first | go_big_quiet_on | ((refine ⟨_, fun _ _ => rfl, ?_⟩); go_big_quiet_on))))); (refine wpQuiet_nil ?_); (try simp only [Act.put]); (try simp only [List.setIfInBounds_toArray, List.set_cons_zero, List.set_cons_succ])
        refine wpAny_takePL 9 rfl (by kernel_rfl) (by kernel_rfl) (by kernel_rfl) (by rintro c d v a w ⟨h, _⟩; cases h) (by rfl) ?_
        (first | go_big_quiet_skip | (go_big_quiet_want; (go_big_quiet_op; (first | go_big_quiet_on | ((refine ⟨_, fun _ _ => rfl, ?_⟩); go_big_quiet_on))))); (refine wpQuiet_nil ?_); (try simp only [Act.put]); (try simp only [List.setIfInBounds_toArray, List.set_cons_zero, List.set_cons_succ])
        refine wpAny_all (rs := [4, 8, 10]) (by kernel_rfl) (by simp) (ord_cons ?_ (ord_cons ?_ (ord_cons ?_ ord_nil)))
        rotate_left 3
        all_goals
          refine wpOp_of_listL rfl ?_
          (first | ((with_reducible refine is_load ?_); (first | (refine own_ld (h := ?_)))) | ((with_reducible refine is_store ?_); (first | (refine own_stR (hO := hO) (h := ?_); clear hO; intro wv hO) | (refine own_st1 (hO := hO) (h := ?_); clear hO; intro wv hO))) | ((with_reducible refine is_load ?_); (refine own_ldW (hO := hO) (h := ?_))) | ((with_reducible refine is_store ?_); (refine own_stW (hO := hO) (h := ?_); clear hO; intro wv hO)) | ((refine wpList_step (fun K hK => ?_)); go_simp; (first | ((refine hK _ _ ?_); clear hK K)))); (try simp only [Act.put]); (try simp only [List.setIfInBounds_toArray, List.set_cons_zero, List.set_cons_succ])
          refine wpList_done (qk_intro ?_)
        refine wpAny_takePL 5 rfl (by kernel_rfl) (by kernel_rfl) (by kernel_rfl) (by rintro c d v a w ⟨h, _⟩; cases h) (by rfl) ?_
        (first | go_big_quiet_skip | (go_big_quiet_want; (go_big_quiet_op; (first | go_big_quiet_on | ((refine ⟨_, fun _ _ => rfl, ?_⟩); go_big_quiet_on))))); (refine wpQuiet_nil ?_); (try simp only [Act.put]); (try simp only [List.setIfInBounds_toArray, List.set_cons_zero, List.set_cons_succ])
        refine wpAny_all (rs := [8, 10]) (by kernel_rfl) (by simp) (ord_cons ?_ (ord_cons ?_ ord_nil))
        rotate_left 2
        refine wpAny_all (rs := [4, 10]) (by kernel_rfl) (by simp) (ord_cons ?_ (ord_cons ?_ ord_nil))
        rotate_left 2
        refine wpAny_all (rs := [4, 8]) (by kernel_rfl) (by simp) (ord_cons ?_ (ord_cons ?_ ord_nil))
        rotate_left 2
        all_goals
          refine wpOp_of_listL rfl ?_
          (first | ((with_reducible refine is_load ?_); (first | (refine own_ld (h := ?_)))) | ((with_reducible refine is_store ?_); (first | (refine own_stR (hO := hO) (h := ?_); clear hO; intro wv hO) | (refine own_st1 (hO := hO) (h := ?_); clear hO; intro wv hO))) | ((with_reducible refine is_load ?_); (refine own_ldW (hO := hO) (h := ?_))) | ((with_reducible refine is_store ?_); (refine own_stW (hO := hO) (h := ?_); clear hO; intro wv hO)) | ((refine wpList_step (fun K hK => ?_)); go_simp; (first | ((refine hK _ _ ?_); clear hK K)))); (try simp only [Act.put]); (try simp only [List.setIfInBounds_toArray, List.set_cons_zero, List.set_cons_succ])
          refine wpList_done (qk_intro ?_)
        refine wpAny_all (rs := [10]) (by kernel_rfl) (by simp) (ord_cons ?_ ord_nil)
        rotate_left 1
        refine wpAny_takePL 11 rfl (by kernel_rfl) (by kernel_rfl) (by kernel_rfl) (by rintro c d v a w ⟨h, _⟩; cases h) (by rfl) ?_
        (first | go_big_quiet_skip | (go_big_quiet_want; (go_big_quiet_op; (first | go_big_quiet_on | ((refine ⟨_, fun _ _ => rfl, ?_⟩); go_big_quiet_on))))); (refine wpQuiet_nil ?_); (try simp only [Act.put]); (try simp only [List.setIfInBounds_toArray, List.set_cons_zero, List.set_cons_succ])
        refine wpAny_all (rs := [8, 12]) (by kernel_rfl) (by simp) (ord_cons ?_ (ord_cons ?_ ord_nil))
        rotate_left 2
        refine wpAny_takePL 5 rfl (by kernel_rfl) (by kernel_rfl) (by kernel_rfl) (by rintro c d v a w ⟨h, _⟩; cases h) (by rfl) ?_
        (first | go_big_quiet_skip | (go_big_quiet_want; (go_big_quiet_op; (first | go_big_quiet_on | ((refine ⟨_, fun _ _ => rfl, ?_⟩); go_big_quiet_on))))); (refine wpQuiet_nil ?_); (try simp only [Act.put]); (try simp only [List.setIfInBounds_toArray, List.set_cons_zero, List.set_cons_succ])
        refine wpAny_all (rs := [10]) (by kernel_rfl) (by simp) (ord_cons ?_ ord_nil)
        rotate_left 1
        refine wpAny_all (rs := [4]) (by kernel_rfl) (by simp) (ord_cons ?_ ord_nil)
        rotate_left 1
        refine wpAny_takePL 5 rfl (by kernel_rfl) (by kernel_rfl) (by kernel_rfl) (by rintro c d v a w ⟨h, _⟩; cases h) (by rfl) ?_
        (first | go_big_quiet_skip | (go_big_quiet_want; (go_big_quiet_op; (first | go_big_quiet_on | ((refine ⟨_, fun _ _ => rfl, ?_⟩); go_big_quiet_on))))); (refine wpQuiet_nil ?_); (try simp only [Act.put]); (try simp only [List.setIfInBounds_toArray, List.set_cons_zero, List.set_cons_succ])
        refine wpAny_takePL 11 rfl (by kernel_rfl) (by kernel_rfl) (by kernel_rfl) (by rintro c d v a w ⟨h, _⟩; cases h) (by rfl) ?_
        (first | go_big_quiet_skip | (go_big_quiet_want; (go_big_quiet_op; (first | go_big_quiet_on | ((refine ⟨_, fun _ _ => rfl, ?_⟩); go_big_quiet_on))))); (refine wpQuiet_nil ?_); (try simp only [Act.put]); (try simp only [List.setIfInBounds_toArray, List.set_cons_zero, List.set_cons_succ])
        refine wpAny_all (rs := [8, 12]) (by kernel_rfl) (by simp) (ord_cons ?_ (ord_cons ?_ ord_nil))
        rotate_left 2
        refine wpAny_all (rs := [4]) (by kernel_rfl) (by simp) (ord_cons ?_ ord_nil)
        rotate_left 1
        all_goals
          refine wpOp_of_listL rfl ?_
          (first | ((with_reducible refine is_load ?_); (first | (refine own_ld (h := ?_)))) | ((with_reducible refine is_store ?_); (first | (refine own_stR (hO := hO) (h := ?_); clear hO; intro wv hO) | (refine own_st1 (hO := hO) (h := ?_); clear hO; intro wv hO))) | ((with_reducible refine is_load ?_); (refine own_ldW (hO := hO) (h := ?_))) | ((with_reducible refine is_store ?_); (refine own_stW (hO := hO) (h := ?_); clear hO; intro wv hO)) | ((refine wpList_step (fun K hK => ?_)); go_simp; (first | ((refine hK _ _ ?_); clear hK K)))); (try simp only [Act.put]); (try simp only [List.setIfInBounds_toArray, List.set_cons_zero, List.set_cons_succ])
          refine wpList_done (qk_intro ?_)
        refine wpAny_takePL 11 rfl (by kernel_rfl) (by kernel_rfl) (by kernel_rfl) (by rintro c d v a w ⟨h, _⟩; cases h) (by rfl) ?_
        (first | go_big_quiet_skip | (go_big_quiet_want; (go_big_quiet_op; (first | go_big_quiet_on | ((refine ⟨_, fun _ _ => rfl, ?_⟩); go_big_quiet_on))))); (refine wpQuiet_nil ?_); (try simp only [Act.put]); (try simp only [List.setIfInBounds_toArray, List.set_cons_zero, List.set_cons_succ])
        refine wpAny_all (rs := [12]) (by kernel_rfl) (by simp) (ord_cons ?_ ord_nil)
        rotate_left 1
        refine wpAny_all (rs := [12]) (by kernel_rfl) (by simp) (ord_cons ?_ ord_nil)
        rotate_left 1
        refine wpAny_all (rs := [8]) (by kernel_rfl) (by simp) (ord_cons ?_ ord_nil)
        rotate_left 1
        refine wpAny_takePL 11 rfl (by kernel_rfl) (by kernel_rfl) (by kernel_rfl) (by rintro c d v a w ⟨h, _⟩; cases h) (by rfl) ?_
        (first | go_big_quiet_skip | (go_big_quiet_want; (go_big_quiet_op; (first | go_big_quiet_on | ((refine ⟨_, fun _ _ => rfl, ?_⟩); go_big_quiet_on))))); (refine wpQuiet_nil ?_); (try simp only [Act.put]); (try simp only [List.setIfInBounds_toArray, List.set_cons_zero, List.set_cons_succ])
        refine wpAny_all (rs := [12]) (by kernel_rfl) (by simp) (ord_cons ?_ ord_nil)
        rotate_left 1
        refine wpAny_takePL 5 rfl (by kernel_rfl) (by kernel_rfl) (by kernel_rfl) (by rintro c d v a w ⟨h, _⟩; cases h) (by rfl) ?_
        (first | go_big_quiet_skip | (go_big_quiet_want; (go_big_quiet_op; (first | go_big_quiet_on | ((refine ⟨_, fun _ _ => rfl, ?_⟩); go_big_quiet_on))))); (refine wpQuiet_nil ?_); (try simp only [Act.put]); (try simp only [List.setIfInBounds_toArray, List.set_cons_zero, List.set_cons_succ])
        refine wpAny_takePL 11 rfl (by kernel_rfl) (by kernel_rfl) (by kernel_rfl) (by rintro c d v a w ⟨h, _⟩; cases h) (by rfl) ?_
        (first | go_big_quiet_skip | (go_big_quiet_want; (go_big_quiet_op; (first | go_big_quiet_on | ((refine ⟨_, fun _ _ => rfl, ?_⟩); go_big_quiet_on))))); (refine wpQuiet_nil ?_); (try simp only [Act.put]); (try simp only [List.setIfInBounds_toArray, List.set_cons_zero, List.set_cons_succ])
        refine wpAny_all (rs := [12]) (by kernel_rfl) (by simp) (ord_cons ?_ ord_nil)
        rotate_left 1
        refine wpAny_all (rs := [12]) (by kernel_rfl) (by simp) (ord_cons ?_ ord_nil)
        rotate_left 1
        refine wpAny_all (rs := [8]) (by kernel_rfl) (by simp) (ord_cons ?_ ord_nil)
        rotate_left 1
        refine wpAny_takePL 5 rfl (by kernel_rfl) (by kernel_rfl) (by kernel_rfl) (by rintro c d v a w ⟨h, _⟩; cases h) (by rfl) ?_
        (first | go_big_quiet_skip | (go_big_quiet_want; (go_big_quiet_op; (first | go_big_quiet_on | ((refine ⟨_, fun _ _ => rfl, ?_⟩); go_big_quiet_on))))); (refine wpQuiet_nil ?_); (try simp only [Act.put]); (try simp only [List.setIfInBounds_toArray, List.set_cons_zero, List.set_cons_succ])
        refine wpAny_takePL 11 rfl (by kernel_rfl) (by kernel_rfl) (by kernel_rfl) (by rintro c d v a w ⟨h, _⟩; cases h) (by rfl) ?_
        (first | go_big_quiet_skip | (go_big_quiet_want; (go_big_quiet_op; (first | go_big_quiet_on | ((refine ⟨_, fun _ _ => rfl, ?_⟩); go_big_quiet_on))))); (refine wpQuiet_nil ?_); (try simp only [Act.put]); (try simp only [List.setIfInBounds_toArray, List.set_cons_zero, List.set_cons_succ])
        refine wpAny_all (rs := [12]) (by kernel_rfl) (by simp) (ord_cons ?_ ord_nil)
        rotate_left 1
        all_goals
          refine wpOp_of_listL rfl ?_
          (first | ((with_reducible refine is_load ?_); (first | (refine own_ld (h := ?_)))) | ((with_reducible refine is_store ?_); (first | (refine own_stR (hO := hO) (h := ?_); clear hO; intro wv hO) | (refine own_st1 (hO := hO) (h := ?_); clear hO; intro wv hO))) | ((with_reducible refine is_load ?_); (refine own_ldW (hO := hO) (h := ?_))) | ((with_reducible refine is_store ?_); (refine own_stW (hO := hO) (h := ?_); clear hO; intro wv hO)) | ((refine wpList_step (fun K hK => ?_)); go_simp; (first | ((refine hK _ _ ?_); clear hK K)))); (try simp only [Act.put]); (try simp only [List.setIfInBounds_toArray, List.set_cons_zero, List.set_cons_succ])
          refine wpList_done (qk_intro ?_)
        refine wpAny_takePL 13 rfl (by kernel_rfl) (by kernel_rfl) (by kernel_rfl) (by rintro c d v a w ⟨h, _⟩; cases h) (by rfl) ?_
        (first | go_big_quiet_skip | (go_big_quiet_want; (go_big_quiet_op; (first | go_big_quiet_on | ((refine ⟨_, fun _ _ => rfl, ?_⟩); go_big_quiet_on))))); (refine wpQuiet_nil ?_); (try simp only [Act.put]); (try simp only [List.setIfInBounds_toArray, List.set_cons_zero, List.set_cons_succ])
        refine wpAny_all (rs := [14]) (by kernel_rfl) (by simp) (ord_cons ?_ ord_nil)
        rotate_left 1
        refine wpAny_takePL 13 rfl (by kernel_rfl) (by kernel_rfl) (by kernel_rfl) (by rintro c d v a w ⟨h, _⟩; cases h) (by rfl) ?_
        (first | go_big_quiet_skip | (go_big_quiet_want; (go_big_quiet_op; (first | go_big_quiet_on | ((refine ⟨_, fun _ _ => rfl, ?_⟩); go_big_quiet_on))))); (refine wpQuiet_nil ?_); (try simp only [Act.put]); (try simp only [List.setIfInBounds_toArray, List.set_cons_zero, List.set_cons_succ])
        refine wpAny_all (rs := [14]) (by kernel_rfl) (by simp) (ord_cons ?_ ord_nil)
        rotate_left 1
        refine wpAny_takePL 13 rfl (by kernel_rfl) (by kernel_rfl) (by kernel_rfl) (by rintro c d v a w ⟨h, _⟩; cases h) (by rfl) ?_
        (first | go_big_quiet_skip | (go_big_quiet_want; (go_big_quiet_op; (first | go_big_quiet_on | ((refine ⟨_, fun _ _ => rfl, ?_⟩); go_big_quiet_on))))); (refine wpQuiet_nil ?_); (try simp only [Act.put]); (try simp only [List.setIfInBounds_toArray, List.set_cons_zero, List.set_cons_succ])
        refine wpAny_all (rs := [14]) (by kernel_rfl) (by simp) (ord_cons ?_ ord_nil)
        rotate_left 1
        refine wpAny_takePL 13 rfl (by kernel_rfl) (by kernel_rfl) (by kernel_rfl) (by rintro c d v a w ⟨h, _⟩; cases h) (by rfl) ?_
        (first | go_big_quiet_skip | (go_big_quiet_want; (go_big_quiet_op; (first | go_big_quiet_on | ((refine ⟨_, fun _ _ => rfl, ?_⟩); go_big_quiet_on))))); (refine wpQuiet_nil ?_); (try simp only [Act.put]); (try simp only [List.setIfInBounds_toArray, List.set_cons_zero, List.set_cons_succ])
        refine wpAny_all (rs := [14]) (by kernel_rfl) (by simp) (ord_cons ?_ ord_nil)
        rotate_left 1
        refine wpAny_takePL 13 rfl (by kernel_rfl) (by kernel_rfl) (by kernel_rfl) (by rintro c d v a w ⟨h, _⟩; cases h) (by rfl) ?_
        (first | go_big_quiet_skip | (go_big_quiet_want; (go_big_quiet_op; (first | go_big_quiet_on | ((refine ⟨_, fun _ _ => rfl, ?_⟩); go_big_quiet_on))))); (refine wpQuiet_nil ?_); (try simp only [Act.put]); (try simp only [List.setIfInBounds_toArray, List.set_cons_zero, List.set_cons_succ])
        refine wpAny_all (rs := [14]) (by kernel_rfl) (by simp) (ord_cons ?_ ord_nil)
        rotate_left 1
        refine wpAny_takePL 13 rfl (by kernel_rfl) (by kernel_rfl) (by kernel_rfl) (by rintro c d v a w ⟨h, _⟩; cases h) (by rfl) ?_
        (first | go_big_quiet_skip | (go_big_quiet_want; (go_big_quiet_op; (first | go_big_quiet_on | ((refine ⟨_, fun _ _ => rfl, ?_⟩); go_big_quiet_on))))); (refine wpQuiet_nil ?_); (try simp only [Act.put]); (try simp only [List.setIfInBounds_toArray, List.set_cons_zero, List.set_cons_succ])
        refine wpAny_all (rs := [14]) (by kernel_rfl) (by simp) (ord_cons ?_ ord_nil)
        rotate_left 1
        refine wpAny_takePL 13 rfl (by kernel_rfl) (by kernel_rfl) (by kernel_rfl) (by rintro c d v a w ⟨h, _⟩; cases h) (by rfl) ?_
        (first | go_big_quiet_skip | (go_big_quiet_want; (go_big_quiet_op; (first | go_big_quiet_on | ((refine ⟨_, fun _ _ => rfl, ?_⟩); go_big_quiet_on))))); (refine wpQuiet_nil ?_); (try simp only [Act.put]); (try simp only [List.setIfInBounds_toArray, List.set_cons_zero, List.set_cons_succ])
        refine wpAny_all (rs := [14]) (by kernel_rfl) (by simp) (ord_cons ?_ ord_nil)
        rotate_left 1
        refine wpAny_takePL 13 rfl (by kernel_rfl) (by kernel_rfl) (by kernel_rfl) (by rintro c d v a w ⟨h, _⟩; cases h) (by rfl) ?_
        (first | go_big_quiet_skip | (go_big_quiet_want; (go_big_quiet_op; (first | go_big_quiet_on | ((refine ⟨_, fun _ _ => rfl, ?_⟩); go_big_quiet_on))))); (refine wpQuiet_nil ?_); (try simp only [Act.put]); (try simp only [List.setIfInBounds_toArray, List.set_cons_zero, List.set_cons_succ])
        refine wpAny_all (rs := [14]) (by kernel_rfl) (by simp) (ord_cons ?_ ord_nil)
        rotate_left 1
        all_goals
          refine wpOp_of_listL rfl ?_
          (first | ((with_reducible refine is_load ?_); (first | (refine own_ld (h := ?_)))) | ((with_reducible refine is_store ?_); (first | (refine own_stR (hO := hO) (h := ?_); clear hO; intro wv hO) | (refine own_st1 (hO := hO) (h := ?_); clear hO; intro wv hO))) | ((with_reducible refine is_load ?_); (refine own_ldW (hO := hO) (h := ?_))) | ((with_reducible refine is_store ?_); (refine own_stW (hO := hO) (h := ?_); clear hO; intro wv hO)) | ((refine wpList_step (fun K hK => ?_)); go_simp; (first | ((refine hK _ _ ?_); clear hK K)))); (try simp only [Act.put]); (try simp only [List.setIfInBounds_toArray, List.set_cons_zero, List.set_cons_succ])
          refine wpList_done (qk_intro ?_)
        exact wpAny_done (by kernel_rfl) ⟨rfl, rfl, hO⟩ _
        exact wpAny_done (by kernel_rfl) ⟨rfl, rfl, hO⟩ _
        exact wpAny_done (by kernel_rfl) ⟨rfl, rfl, hO⟩ _
        exact wpAny_done (by kernel_rfl) ⟨rfl, rfl, hO⟩ _
        exact wpAny_done (by kernel_rfl) ⟨rfl, rfl, hO⟩ _
        exact wpAny_done (by kernel_rfl) ⟨rfl, rfl, hO⟩ _
        exact wpAny_done (by kernel_rfl) ⟨rfl, rfl, hO⟩ _
        exact wpAny_done (by kernel_rfl) ⟨rfl, rfl, hO⟩ _
      clear hO
      intro wv hO
      clear hn0
      rw [HL1.out] at hO
      have tk := tk_hdP ⟨s, d, 1, sp, dp⟩ t f (.slice a pl.length c)
      go_wp2_with (first | ((with_reducible refine is_load ?_); (first | (refine own_ldP hO (h := ?_)) | (refine own_ld (h := ?_)))) | ((with_reducible refine is_store ?_); (first | (refine own_stRp (hO := hO) (h := ?_); clear hO; intro wv hO) | (refine own_st1p (hO := hO) (h := ?_); clear hO; intro wv hO) | (refine own_stR (hO := hO) (h := ?_); clear hO; intro wv hO) | (refine own_st1 (hO := hO) (h := ?_); clear hO; intro wv hO))) | ((with_reducible refine is_box ?_); (first | (refine own_bx (o := ⟨some 1, _, _, _, _, _⟩) (hO := hO) (h := ?_); clear hO; intro n1 wv hO))) | ((with_reducible refine is_append ?_); (first | (refine own_ap (o := ⟨some 30, _, _, _, _, _⟩) (hO := hO) (h := ?_); clear hO; intro g30 c30 wv hO))) | (go_at_call 47; refine (h1 _ _ (by unfold OwnsB; rw [HN1.out]; exact hO.row _ List.mem_cons_self)).mono ?_; rintro e wv hw; obtain rfl := hw.1; have hw2 := hw.2.2; rw [HN1.out] at hw2; replace hO := hO.afterRow .here hw.2.1 hw2; clear hw hw2 h1) | (go_at_call 48; rw [hL3] at hO; refine (h4 _ _ (by unfold OwnsB; rw [HN3.out]; exact hO.row _ List.mem_cons_self)).mono ?_; rintro e wv hw; obtain rfl := hw.1; have hw2 := hw.2.2; rw [HN3.out] at hw2; replace hO := hO.afterRow .here hw.2.1 hw2; clear hw hw2 h4) | (go_at_call 49; refine (hsum _ _ (by unfold OwnsB; rw [HN4.out]; exact hO.row _ List.mem_cons_self)).mono ?_; rintro e wv hw; obtain rfl := hw.1; have hw2 := hw.2.2; rw [HN4.out] at hw2; replace hO := hO.afterRow .here hw.2.1 hw2; clear hw hw2 hsum) | ((with_reducible refine is_load ?_); (refine own_ldW (hO := hO) (h := ?_))) | ((with_reducible refine is_store ?_); (refine own_stW (hO := hO) (h := ?_); clear hO; intro wv hO)))
      go_ret2
      exact ⟨_, rfl, by rw [HN5.out]; exact hO.newRow List.mem_cons_self, hO.keep.below⟩
  · have hEL : encLen p = 20 := by unfold encLen; rw [q1, q2, q3]; rfl
    have hLF : lenF p = 0 := by unfold lenF; rw [q1, q2, q3]; rfl
    have hSA : sumAtF p = 0 := by unfold sumAtF; rw [q1, q2, q3]; rfl
    have hEM : encM ⟨⟨s, d, p, sp, dp⟩, t, f, pl⟩ = hdrF (encHd ⟨⟨s, d, p, sp, dp⟩, t, f, pl⟩) ⟨s, d, p, sp, dp⟩ := by unfold encM kindF; dsimp only; rw [q1, q2, q3]; rfl
    have hEH : encHd ⟨⟨s, d, p, sp, dp⟩, t, f, pl⟩ = p16 ((((List.replicate 20 0 ++ pl).set 0 69).set 8 t).set 9 p) 2 ((20 : Int) + pl.length) := by
      show p16 ((((List.replicate (encLen p) 0 ++ pl).set 0 69).set 8 t).set 9 p) 2 ((encLen p : Int) + pl.length) = _
      rw [hEL]; rfl
    replace hsum := hsum (by rw [hSA, hEL]; omega)
    rw [hEM] at hsum hnM ⊢
    rw [hEH] at hsum hnM ⊢
    rw [hEL] at hsz
    dsimp only at hnM
    rw [hEL] at hnM
    have HZ := Lib.hid (bc_zero 20)
    have hZl : (List.replicate 20 (0 : Int)).length = 20 := List.length_replicate
    clear hEM hEH
    generalize List.replicate 20 (0 : Int) = Z at *
    obtain ⟨N, hN⟩ : ∃ N, 20 + pl.length = N := ⟨_, rfl⟩
    have hNi : (20 : Int) + pl.length = (N : Int) := by omega
    rw [hNi] at hsum hnM ⊢
    rw [hN] at hnM
    have hn0 : (Z ++ pl).length = N := by rw [List.length_append, hZl, hN]
    rw [hLF] at hlen
    clear ho hNi hZl hEL hLF hSA
    generalize hL0 : Z ++ pl = L0 at *
    have hn1 : (((L0.set 0 69).set 8 t).set 9 p).length = N := by simp [hn0]
    generalize hL1 : ((L0.set 0 69).set 8 t).set 9 p = L1 at *
    have h1 := fun v w hw => put16_any (v := v) (l := L1) 2 (N : Int) w hw (by omega) (by omega) (by omega) (by omega)
    have hn2 : (p16 L1 2 (N : Int)).length = N := by rw [p16_length, hn1]
    generalize hL2 : p16 L1 2 (N : Int) = L2 at *
    have HN0 := Lib.hid hn0
    have HN1 := Lib.hid hn1
    have HL0 := Lib.hid hL0
    have HL1 := Lib.hid hL1
    have HN2 := Lib.hid hn2
    clear hn0 hn1 hL0 hL1 hL2
    have h4 := fun v w hw => putHeader_any (v := v) (l := L2) ⟨s, d, p, sp, dp⟩ w hw (by omega) (by omega) k.h (fun h => by dsimp only at h; simp only [beq_eq_false_iff_ne, ne_eq] at q1 q2 q3; omega)
    generalize hL4 : hdrF L2 ⟨s, d, p, sp, dp⟩ = L4 at *
    have HN4 := Lib.hid hnM
    clear hn2 hnM hL4
    generalize hL5 : sumsF L4 = L5 at *
    have HN5 := Lib.hid (show L5.length = N by rw [← hL5, sumsF_length, HN4.out])
    clear hL5
    go_enter Tryd.func26, Tryd.ntmps26
    go_wp2_with (first | ((with_reducible refine is_load ?_); (first | (refine own_ldP hO (h := ?_)) | (refine own_ld (h := ?_)))) | ((with_reducible refine is_store ?_); (first | (refine own_stRp (hO := hO) (h := ?_); clear hO; intro wv hO) | (refine own_st1p (hO := hO) (h := ?_); clear hO; intro wv hO) | (refine own_stR (hO := hO) (h := ?_); clear hO; intro wv hO) | (refine own_st1 (hO := hO) (h := ?_); clear hO; intro wv hO))) | ((with_reducible refine is_box ?_); (first | (refine own_bx (o := ⟨some 1, _, _, _, _, _⟩) (hO := hO) (h := ?_); clear hO; intro n1 wv hO))) | ((with_reducible refine is_append ?_); (first | (refine own_ap (o := ⟨some 30, _, _, _, _, _⟩) (hO := hO) (h := ?_); clear hO; intro g30 c30 wv hO))) | (go_at_call 45; refine (hcod _).mono ?_; rintro e wv ⟨rfl, hb⟩; replace hO := hO.call hb; clear hb) | (go_at_call 46; refine (hlen _).mono ?_; rintro e _ ⟨rfl, rfl⟩) | ((with_reducible refine is_make ?_); (refine own_makeB (o := ⟨some 26, _, _, _, _, _⟩) hO (by rfl) rfl slice_u8 zero_u8 rfl rfl (n := 20) (c := N) (by first | rfl | omega | (simp; omega)) (by first | rfl | omega | (simp; omega)) (by omega) (by omega) HZ.out ?_); clear hO; intro n26 wv hO) | ((with_reducible refine is_append ?_); (refine own_appendP (o := ⟨some 30, _, _, _, _, _⟩) hO rfl rfl slice_u8 rfl rfl (src_of_cells (IsCells.below hv hO.keep.below) (by simp [bc_length]; try omega)) (bc_one _) (fun _ => by repeat (first | exact UpdR.here | apply UpdR.there)) (by first | omega | (simp; omega)) (by unfold maxLen; first | omega | (simp; omega)) (by first | omega | (simp; done) | (simp; omega)) ?_); clear hO; intro g30 c30 wv hO) | ((with_reducible refine is_load ?_); (refine own_ldW (hO := hO) (h := ?_))) | ((with_reducible refine is_store ?_); (refine own_stW (hO := hO) (h := ?_); clear hO; intro wv hO)))
    rw [← bc_append, hN, HL0.out] at hO
    have hn0 := HN0.out
    apply wp_via
    case h =>
      refine wp_region_any (by kernel_rfl) ?_
      replace hO := hO.drew
      refine wpAny_takePL 0 rfl (by kernel_rfl) (by kernel_rfl) (by kernel_rfl) (by rintro c d v a w ⟨h, _⟩; cases h) (by rfl) ?_
      (first | go_big_quiet_skip | (go_big_quiet_want; (go_big_quiet_op; (first | go_big_quiet_on | ((refine ⟨_, fun _ _ => rfl, ?_⟩); go_big_quiet_on))))); (refine wpQuiet_nil ?_); (try simp only [Act.put]); (try simp only [List.setIfInBounds_toArray, List.set_cons_zero, List.set_cons_succ])
      refine wpAny_takePL 1 rfl (by kernel_rfl) (by kernel_rfl) (by kernel_rfl) (by rintro c d v a w ⟨h, _⟩; cases h) (by rfl) ?_
      (first | go_big_quiet_skip | (go_big_quiet_want; (go_big_quiet_op; (first | go_big_quiet_on | ((refine ⟨_, fun _ _ => rfl, ?_⟩); go_big_quiet_on))))); (refine wpQuiet_nil ?_); (try simp only [Act.put]); (try simp only [List.setIfInBounds_toArray, List.set_cons_zero, List.set_cons_succ])
      refine wpAny_takePL 2 rfl (by kernel_rfl) (by kernel_rfl) (by kernel_rfl) (by rintro c d v a w ⟨h, _⟩; cases h) (by rfl) ?_
      (first | go_big_quiet_skip | (go_big_quiet_want; (go_big_quiet_op; (first | go_big_quiet_on | ((refine ⟨_, fun _ _ => rfl, ?_⟩); go_big_quiet_on))))); (refine wpQuiet_nil ?_); (try simp only [Act.put]); (try simp only [List.setIfInBounds_toArray, List.set_cons_zero, List.set_cons_succ])
      refine wpAny_takePL 3 rfl (by kernel_rfl) (by kernel_rfl) (by kernel_rfl) (by rintro c d v a w ⟨h, _⟩; cases h) (by rfl) ?_
      (first | go_big_quiet_skip | (go_big_quiet_want; (go_big_quiet_op; (first | go_big_quiet_on | ((refine ⟨_, fun _ _ => rfl, ?_⟩); go_big_quiet_on))))); (refine wpQuiet_nil ?_); (try simp only [Act.put]); (try simp only [List.setIfInBounds_toArray, List.set_cons_zero, List.set_cons_succ])
      refine wpAny_takePL 6 rfl (by kernel_rfl) (by kernel_rfl) (by kernel_rfl) (by rintro c d v a w ⟨h, _⟩; cases h) (by rfl) ?_
      (first | go_big_quiet_skip | (go_big_quiet_want; (go_big_quiet_op; (first | go_big_quiet_on | ((refine ⟨_, fun _ _ => rfl, ?_⟩); go_big_quiet_on))))); (refine wpQuiet_nil ?_); (try simp only [Act.put]); (try simp only [List.setIfInBounds_toArray, List.set_cons_zero, List.set_cons_succ])
      refine wpAny_takePL 7 rfl (by kernel_rfl) (by kernel_rfl) (by kernel_rfl) (by rintro c d v a w ⟨h, _⟩; cases h) (by rfl) ?_
      (first | go_big_quiet_skip | (go_big_quiet_want; (go_big_quiet_op; (first | go_big_quiet_on | ((refine ⟨_, fun _ _ => rfl, ?_⟩); go_big_quiet_on))))); (refine wpQuiet_nil ?_); (try simp only [Act.put]); (try simp only [List.setIfInBounds_toArray, List.set_cons_zero, List.set_cons_succ])
      refine wpAny_takePL 9 rfl (by kernel_rfl) (by kernel_rfl) (by kernel_rfl) (by rintro c d v a w ⟨h, _⟩; cases h) (by rfl) ?_
      (first | go_big_quiet_skip | (go_big_quiet_want; (go_big_quiet_op; (first | go_big_quiet_on | ((refine ⟨_, fun _ _ => rfl, ?_⟩); go_big_quiet_on))))); (refine wpQuiet_nil ?_); (try simp only [Act.put]); (try simp only [List.setIfInBounds_toArray, List.set_cons_zero, List.set_cons_succ])
      refine wpAny_all (rs := [4, 8, 10]) (by kernel_rfl) (by simp) (ord_cons ?_ (ord_cons ?_ (ord_cons ?_ ord_nil)))
      rotate_left 3
      all_goals
        refine wpOp_of_listL rfl ?_
        (first | ((with_reducible refine is_load ?_); (first | (refine own_ld (h := ?_)))) | ((with_reducible refine is_store ?_); (first | (refine own_stR (hO := hO) (h := ?_); clear hO; intro wv hO) | (refine own_st1 (hO := hO) (h := ?_); clear hO; intro wv hO))) | ((with_reducible refine is_load ?_); (refine own_ldW (hO := hO) (h := ?_))) | ((with_reducible refine is_store ?_); (refine own_stW (hO := hO) (h := ?_); clear hO; intro wv hO)) | ((refine wpList_step (fun K hK => ?_)); go_simp; (first | ((refine hK _ _ ?_); clear hK K)))); (try simp only [Act.put]); (try simp only [List.setIfInBounds_toArray, List.set_cons_zero, List.set_cons_succ])
        refine wpList_done (qk_intro ?_)
      refine wpAny_takePL 5 rfl (by kernel_rfl) (by kernel_rfl) (by kernel_rfl) (by rintro c d v a w ⟨h, _⟩; cases h) (by rfl) ?_
      (first | go_big_quiet_skip | (go_big_quiet_want; (go_big_quiet_op; (first | go_big_quiet_on | ((refine ⟨_, fun _ _ => rfl, ?_⟩); go_big_quiet_on))))); (refine wpQuiet_nil ?_); (try simp only [Act.put]); (try simp only [List.setIfInBounds_toArray, List.set_cons_zero, List.set_cons_succ])
      refine wpAny_all (rs := [8, 10]) (by kernel_rfl) (by simp) (ord_cons ?_ (ord_cons ?_ ord_nil))
      rotate_left 2
      refine wpAny_all (rs := [4, 10]) (by kernel_rfl) (by simp) (ord_cons ?_ (ord_cons ?_ ord_nil))
      rotate_left 2
      refine wpAny_all (rs := [4, 8]) (by kernel_rfl) (by simp) (ord_cons ?_ (ord_cons ?_ ord_nil))
      rotate_left 2
      all_goals
        refine wpOp_of_listL rfl ?_
        (first | ((with_reducible refine is_load ?_); (first | (refine own_ld (h := ?_)))) | ((with_reducible refine is_store ?_); (first | (refine own_stR (hO := hO) (h := ?_); clear hO; intro wv hO) | (refine own_st1 (hO := hO) (h := ?_); clear hO; intro wv hO))) | ((with_reducible refine is_load ?_); (refine own_ldW (hO := hO) (h := ?_))) | ((with_reducible refine is_store ?_); (refine own_stW (hO := hO) (h := ?_); clear hO; intro wv hO)) | ((refine wpList_step (fun K hK => ?_)); go_simp; (first | ((refine hK _ _ ?_); clear hK K)))); (try simp only [Act.put]); (try simp only [List.setIfInBounds_toArray, List.set_cons_zero, List.set_cons_succ])
        refine wpList_done (qk_intro ?_)
      refine wpAny_all (rs := [10]) (by kernel_rfl) (by simp) (ord_cons ?_ ord_nil)
      rotate_left 1
      refine wpAny_takePL 11 rfl (by kernel_rfl) (by kernel_rfl) (by kernel_rfl) (by rintro c d v a w ⟨h, _⟩; cases h) (by rfl) ?_
      (first | go_big_quiet_skip | (go_big_quiet_want; (go_big_quiet_op; (first | go_big_quiet_on | ((refine ⟨_, fun _ _ => rfl, ?_⟩); go_big_quiet_on))))); (refine wpQuiet_nil ?_); (try simp only [Act.put]); (try simp only [List.setIfInBounds_toArray, List.set_cons_zero, List.set_cons_succ])
      refine wpAny_all (rs := [8, 12]) (by kernel_rfl) (by simp) (ord_cons ?_ (ord_cons ?_ ord_nil))
      rotate_left 2
      refine wpAny_takePL 5 rfl (by kernel_rfl) (by kernel_rfl) (by kernel_rfl) (by rintro c d v a w ⟨h, _⟩; cases h) (by rfl) ?_
      (first | go_big_quiet_skip | (go_big_quiet_want; (go_big_quiet_op; (first | go_big_quiet_on | ((refine ⟨_, fun _ _ => rfl, ?_⟩); go_big_quiet_on))))); (refine wpQuiet_nil ?_); (try simp only [Act.put]); (try simp only [List.setIfInBounds_toArray, List.set_cons_zero, List.set_cons_succ])
      refine wpAny_all (rs := [10]) (by kernel_rfl) (by simp) (ord_cons ?_ ord_nil)
      rotate_left 1
      refine wpAny_all (rs := [4]) (by kernel_rfl) (by simp) (ord_cons ?_ ord_nil)
      rotate_left 1
      refine wpAny_takePL 5 rfl (by kernel_rfl) (by kernel_rfl) (by kernel_rfl) (by rintro c d v a w ⟨h, _⟩; cases h) (by rfl) ?_
      (first | go_big_quiet_skip | (go_big_quiet_want; (go_big_quiet_op; (first | go_big_quiet_on | ((refine ⟨_, fun _ _ => rfl, ?_⟩); go_big_quiet_on))))); (refine wpQuiet_nil ?_); (try simp only [Act.put]); (try simp only [List.setIfInBounds_toArray, List.set_cons_zero, List.set_cons_succ])
      refine wpAny_takePL 11 rfl (by kernel_rfl) (by kernel_rfl) (by kernel_rfl) (by rintro c d v a w ⟨h, _⟩; cases h) (by rfl) ?_
      (first | go_big_quiet_skip | (go_big_quiet_want; (go_big_quiet_op; (first | go_big_quiet_on | ((refine ⟨_, fun _ _ => rfl, ?_⟩); go_big_quiet_on))))); (refine wpQuiet_nil ?_); (try simp only [Act.put]); (try simp only [List.setIfInBounds_toArray, List.set_cons_zero, List.set_cons_succ])
      refine wpAny_all (rs := [8, 12]) (by kernel_rfl) (by simp) (ord_cons ?_ (ord_cons ?_ ord_nil))
      rotate_left 2
      refine wpAny_all (rs := [4]) (by kernel_rfl) (by simp) (ord_cons ?_ ord_nil)
      rotate_left 1
      all_goals
        refine wpOp_of_listL rfl ?_
        (first | ((with_reducible refine is_load ?_); (first | (refine own_ld (h := ?_)))) | ((with_reducible refine is_store ?_); (first | (refine own_stR (hO := hO) (h := ?_); clear hO; intro wv hO) | (refine own_st1 (hO := hO) (h := ?_); clear hO; intro wv hO))) | ((with_reducible refine is_load ?_); (refine own_ldW (hO := hO) (h := ?_))) | ((with_reducible refine is_store ?_); (refine own_stW (hO := hO) (h := ?_); clear hO; intro wv hO)) | ((refine wpList_step (fun K hK => ?_)); go_simp; (first | ((refine hK _ _ ?_); clear hK K)))); (try simp only [Act.put]); (try simp only [List.setIfInBounds_toArray, List.set_cons_zero, List.set_cons_succ])
        refine wpList_done (qk_intro ?_)
      refine wpAny_takePL 11 rfl (by kernel_rfl) (by kernel_rfl) (by kernel_rfl) (by rintro c d v a w ⟨h, _⟩; cases h) (by rfl) ?_
      (first | go_big_quiet_skip | (go_big_quiet_want; (go_big_quiet_op; (first | go_big_quiet_on | ((refine ⟨_, fun _ _ => rfl, ?_⟩); go_big_quiet_on))))); (refine wpQuiet_nil ?_); (try simp only [Act.put]); (try simp only [List.setIfInBounds_toArray, List.set_cons_zero, List.set_cons_succ])
      refine wpAny_all (rs := [12]) (by kernel_rfl) (by simp) (ord_cons ?_ ord_nil)
      rotate_left 1
      refine wpAny_all (rs := [12]) (by kernel_rfl) (by simp) (ord_cons ?_ ord_nil)
      rotate_left 1
      refine wpAny_all (rs := [8]) (by kernel_rfl) (by simp) (ord_cons ?_ ord_nil)
      rotate_left 1
      refine wpAny_takePL 11 rfl (by kernel_rfl) (by kernel_rfl) (by kernel_rfl) (by rintro c d v a w ⟨h, _⟩; cases h) (by rfl) ?_
      (first | go_big_quiet_skip | (go_big_quiet_want; (go_big_quiet_op; (first | go_big_quiet_on | ((refine ⟨_, fun _ _ => rfl, ?_⟩); go_big_quiet_on))))); (refine wpQuiet_nil ?_); (try simp only [Act.put]); (try simp only [List.setIfInBounds_toArray, List.set_cons_zero, List.set_cons_succ])
      refine wpAny_all (rs := [12]) (by kernel_rfl) (by simp) (ord_cons ?_ ord_nil)
      rotate_left 1
      refine wpAny_takePL 5 rfl (by kernel_rfl) (by kernel_rfl) (by kernel_rfl) (by rintro c d v a w ⟨h, _⟩; cases h) (by rfl) ?_
      (first | go_big_quiet_skip | (go_big_quiet_want; (go_big_quiet_op; (first | go_big_quiet_on | ((refine ⟨_, fun _ _ => rfl, ?_⟩); go_big_quiet_on))))); (refine wpQuiet_nil ?_); (try simp only [Act.put]); (try simp only [List.setIfInBounds_toArray, List.set_cons_zero, List.set_cons_succ])
      refine wpAny_takePL 11 rfl (by kernel_rfl) (by kernel_rfl) (by kernel_rfl) (by rintro c d v a w ⟨h, _⟩; cases h) (by rfl) ?_
      (first | go_big_quiet_skip | (go_big_quiet_want; (go_big_quiet_op; (first | go_big_quiet_on | ((refine ⟨_, fun _ _ => rfl, ?_⟩); go_big_quiet_on))))); (refine wpQuiet_nil ?_); (try simp only [Act.put]); (try simp only [List.setIfInBounds_toArray, List.set_cons_zero, List.set_cons_succ])
      refine wpAny_all (rs := [12]) (by kernel_rfl) (by simp) (ord_cons ?_ ord_nil)
      rotate_left 1
      refine wpAny_all (rs := [12]) (by kernel_rfl) (by simp) (ord_cons ?_ ord_nil)
      rotate_left 1
      refine wpAny_all (rs := [8]) (by kernel_rfl) (by simp) (ord_cons ?_ ord_nil)
      rotate_left 1
      refine wpAny_takePL 5 rfl (by kernel_rfl) (by kernel_rfl) (by kernel_rfl) (by rintro c d v a w ⟨h, _⟩; cases h) (by rfl) ?_
      (first | go_big_quiet_skip | (go_big_quiet_want; (go_big_quiet_op; (first | go_big_quiet_on | ((refine ⟨_, fun _ _ => rfl, ?_⟩); go_big_quiet_on))))); (refine wpQuiet_nil ?_); (try simp only [Act.put]); (try simp only [List.setIfInBounds_toArray, List.set_cons_zero, List.set_cons_succ])
      refine wpAny_takePL 11 rfl (by kernel_rfl) (by kernel_rfl) (by kernel_rfl) (by rintro c d v a w ⟨h, _⟩; cases h) (by rfl) ?_
      (first | go_big_quiet_skip | (go_big_quiet_want; (go_big_quiet_op; (first | go_big_quiet_on | ((refine ⟨_, fun _ _ => rfl, ?_⟩); go_big_quiet_on))))); (refine wpQuiet_nil ?_); (try simp only [Act.put]); (try simp only [List.setIfInBounds_toArray, List.set_cons_zero, List.set_cons_succ])
      refine wpAny_all (rs := [12]) (by kernel_rfl) (by simp) (ord_cons ?_ ord_nil)
      rotate_left 1
      all_goals
        refine wpOp_of_listL rfl ?_
        (first | ((with_reducible refine is_load ?_); (first | (refine own_ld (h := ?_)))) | ((with_reducible refine is_store ?_); (first | (refine own_stR (hO := hO) (h := ?_); clear hO; intro wv hO) | (refine own_st1 (hO := hO) (h := ?_); clear hO; intro wv hO))) | ((with_reducible refine is_load ?_); (refine own_ldW (hO := hO) (h := ?_))) | ((with_reducible refine is_store ?_); (refine own_stW (hO := hO) (h := ?_); clear hO; intro wv hO)) | ((refine wpList_step (fun K hK => ?_)); go_simp; (first | ((refine hK _ _ ?_); clear hK K)))); (try simp only [Act.put]); (try simp only [List.setIfInBounds_toArray, List.set_cons_zero, List.set_cons_succ])
        refine wpList_done (qk_intro ?_)
      refine wpAny_takePL 13 rfl (by kernel_rfl) (by kernel_rfl) (by kernel_rfl) (by rintro c d v a w ⟨h, _⟩; cases h) (by rfl) ?_
      (first | go_big_quiet_skip | (go_big_quiet_want; (go_big_quiet_op; (first | go_big_quiet_on | ((refine ⟨_, fun _ _ => rfl, ?_⟩); go_big_quiet_on))))); (refine wpQuiet_nil ?_); (try simp only [Act.put]); (try simp only [List.setIfInBounds_toArray, List.set_cons_zero, List.set_cons_succ])
      refine wpAny_all (rs := [14]) (by kernel_rfl) (by simp) (ord_cons ?_ ord_nil)
      rotate_left 1
      refine wpAny_takePL 13 rfl (by kernel_rfl) (by kernel_rfl) (by kernel_rfl) (by rintro c d v a w ⟨h, _⟩; cases h) (by rfl) ?_
      (first | go_big_quiet_skip | (go_big_quiet_want; (go_big_quiet_op; (first | go_big_quiet_on | ((refine ⟨_, fun _ _ => rfl, ?_⟩); go_big_quiet_on))))); (refine wpQuiet_nil ?_); (try simp only [Act.put]); (try simp only [List.setIfInBounds_toArray, List.set_cons_zero, List.set_cons_succ])
      refine wpAny_all (rs := [14]) (by kernel_rfl) (by simp) (ord_cons ?_ ord_nil)
      rotate_left 1
      refine wpAny_takePL 13 rfl (by kernel_rfl) (by kernel_rfl) (by kernel_rfl) (by rintro c d v a w ⟨h, _⟩; cases h) (by rfl) ?_
      (first | go_big_quiet_skip | (go_big_quiet_want; (go_big_quiet_op; (first | go_big_quiet_on | ((refine ⟨_, fun _ _ => rfl, ?_⟩); go_big_quiet_on))))); (refine wpQuiet_nil ?_); (try simp only [Act.put]); (try simp only [List.setIfInBounds_toArray, List.set_cons_zero, List.set_cons_succ])
      refine wpAny_all (rs := [14]) (by kernel_rfl) (by simp) (ord_cons ?_ ord_nil)
      rotate_left 1
      refine wpAny_takePL 13 rfl (by kernel_rfl) (by kernel_rfl) (by kernel_rfl) (by rintro c d v a w ⟨h, _⟩; cases h) (by rfl) ?_
      (first | go_big_quiet_skip | (go_big_quiet_want; (go_big_quiet_op; (first | go_big_quiet_on | ((refine ⟨_, fun _ _ => rfl, ?_⟩); go_big_quiet_on))))); (refine wpQuiet_nil ?_); (try simp only [Act.put]); (try simp only [List.setIfInBounds_toArray, List.set_cons_zero, List.set_cons_succ])
      refine wpAny_all (rs := [14]) (by kernel_rfl) (by simp) (ord_cons ?_ ord_nil)
      rotate_left 1
      refine wpAny_takePL 13 rfl (by kernel_rfl) (by kernel_rfl) (by kernel_rfl) (by rintro c d v a w ⟨h, _⟩; cases h) (by rfl) ?_
      (first | go_big_quiet_skip | (go_big_quiet_want; (go_big_quiet_op; (first | go_big_quiet_on | ((refine ⟨_, fun _ _ => rfl, ?_⟩); go_big_quiet_on))))); (refine wpQuiet_nil ?_); (try simp only [Act.put]); (try simp only [List.setIfInBounds_toArray, List.set_cons_zero, List.set_cons_succ])
      refine wpAny_all (rs := [14]) (by kernel_rfl) (by simp) (ord_cons ?_ ord_nil)
      rotate_left 1
      refine wpAny_takePL 13 rfl (by kernel_rfl) (by kernel_rfl) (by kernel_rfl) (by rintro c d v a w ⟨h, _⟩; cases h) (by rfl) ?_
      (first | go_big_quiet_skip | (go_big_quiet_want; (go_big_quiet_op; (first | go_big_quiet_on | ((refine ⟨_, fun _ _ => rfl, ?_⟩); go_big_quiet_on))))); (refine wpQuiet_nil ?_); (try simp only [Act.put]); (try simp only [List.setIfInBounds_toArray, List.set_cons_zero, List.set_cons_succ])
      refine wpAny_all (rs := [14]) (by kernel_rfl) (by simp) (ord_cons ?_ ord_nil)
      rotate_left 1
      refine wpAny_takePL 13 rfl (by kernel_rfl) (by kernel_rfl) (by kernel_rfl) (by rintro c d v a w ⟨h, _⟩; cases h) (by rfl) ?_
      (first | go_big_quiet_skip | (go_big_quiet_want; (go_big_quiet_op; (first | go_big_quiet_on | ((refine ⟨_, fun _ _ => rfl, ?_⟩); go_big_quiet_on))))); (refine wpQuiet_nil ?_); (try simp only [Act.put]); (try simp only [List.setIfInBounds_toArray, List.set_cons_zero, List.set_cons_succ])
      refine wpAny_all (rs := [14]) (by kernel_rfl) (by simp) (ord_cons ?_ ord_nil)
      rotate_left 1
      refine wpAny_takePL 13 rfl (by kernel_rfl) (by kernel_rfl) (by kernel_rfl) (by rintro c d v a w ⟨h, _⟩; cases h) (by rfl) ?_
      (first | go_big_quiet_skip | (go_big_quiet_want; (go_big_quiet_op; (first | go_big_quiet_on | ((refine ⟨_, fun _ _ => rfl, ?_⟩); go_big_quiet_on))))); (refine wpQuiet_nil ?_); (try simp only [Act.put]); (try simp only [List.setIfInBounds_toArray, List.set_cons_zero, List.set_cons_succ])
      refine wpAny_all (rs := [14]) (by kernel_rfl) (by simp) (ord_cons ?_ ord_nil)
      rotate_left 1
      all_goals
        refine wpOp_of_listL rfl ?_
        (first | ((with_reducible refine is_load ?_); (first | (refine own_ld (h := ?_)))) | ((with_reducible refine is_store ?_); (first | (refine own_stR (hO := hO) (h := ?_); clear hO; intro wv hO) | (refine own_st1 (hO := hO) (h := ?_); clear hO; intro wv hO))) | ((with_reducible refine is_load ?_); (refine own_ldW (hO := hO) (h := ?_))) | ((with_reducible refine is_store ?_); (refine own_stW (hO := hO) (h := ?_); clear hO; intro wv hO)) | ((refine wpList_step (fun K hK => ?_)); go_simp; (first | ((refine hK _ _ ?_); clear hK K)))); (try simp only [Act.put]); (try simp only [List.setIfInBounds_toArray, List.set_cons_zero, List.set_cons_succ])
        refine wpList_done (qk_intro ?_)
      exact wpAny_done (by kernel_rfl) ⟨rfl, rfl, hO⟩ _
      exact wpAny_done (by kernel_rfl) ⟨rfl, rfl, hO⟩ _
      exact wpAny_done (by kernel_rfl) ⟨rfl, rfl, hO⟩ _
      exact wpAny_done (by kernel_rfl) ⟨rfl, rfl, hO⟩ _
      exact wpAny_done (by kernel_rfl) ⟨rfl, rfl, hO⟩ _
      exact wpAny_done (by kernel_rfl) ⟨rfl, rfl, hO⟩ _
      exact wpAny_done (by kernel_rfl) ⟨rfl, rfl, hO⟩ _
      exact wpAny_done (by kernel_rfl) ⟨rfl, rfl, hO⟩ _
    clear hO
    intro wv hO
    clear hn0
    rw [HL1.out] at hO
    have tk := tk_hdP ⟨s, d, p, sp, dp⟩ t f (.slice a pl.length c)
    go_wp2_with (first | ((with_reducible refine is_load ?_); (first | (refine own_ldP hO (h := ?_)) | (refine own_ld (h := ?_)))) | ((with_reducible refine is_store ?_); (first | (refine own_stRp (hO := hO) (h := ?_); clear hO; intro wv hO) | (refine own_st1p (hO := hO) (h := ?_); clear hO; intro wv hO) | (refine own_stR (hO := hO) (h := ?_); clear hO; intro wv hO) | (refine own_st1 (hO := hO) (h := ?_); clear hO; intro wv hO))) | ((with_reducible refine is_box ?_); (first | (refine own_bx (o := ⟨some 1, _, _, _, _, _⟩) (hO := hO) (h := ?_); clear hO; intro n1 wv hO))) | ((with_reducible refine is_append ?_); (first | (refine own_ap (o := ⟨some 30, _, _, _, _, _⟩) (hO := hO) (h := ?_); clear hO; intro g30 c30 wv hO))) | (go_at_call 47; refine (h1 _ _ (by unfold OwnsB; rw [HN1.out]; exact hO.row _ List.mem_cons_self)).mono ?_; rintro e wv hw; obtain rfl := hw.1; have hw2 := hw.2.2; rw [HN1.out] at hw2; replace hO := hO.afterRow .here hw.2.1 hw2; clear hw hw2 h1) | (go_at_call 48; refine (h4 _ _ (by unfold OwnsB; rw [HN2.out]; exact hO.row _ List.mem_cons_self)).mono ?_; rintro e wv hw; obtain rfl := hw.1; have hw2 := hw.2.2; rw [HN2.out] at hw2; replace hO := hO.afterRow .here hw.2.1 hw2; clear hw hw2 h4) | (go_at_call 49; refine (hsum _ _ (by unfold OwnsB; rw [HN4.out]; exact hO.row _ List.mem_cons_self)).mono ?_; rintro e wv hw; obtain rfl := hw.1; have hw2 := hw.2.2; rw [HN4.out] at hw2; replace hO := hO.afterRow .here hw.2.1 hw2; clear hw hw2 hsum) | ((with_reducible refine is_load ?_); (refine own_ldW (hO := hO) (h := ?_))) | ((with_reducible refine is_store ?_); (refine own_stW (hO := hO) (h := ?_); clear hO; intro wv hO)))
    go_ret2
    exact ⟨_, rfl, by rw [HN5.out]; exact hO.newRow List.mem_cons_self, hO.keep.below⟩
end Go.Proofs.YtjfiipbjphabeaaDoor
