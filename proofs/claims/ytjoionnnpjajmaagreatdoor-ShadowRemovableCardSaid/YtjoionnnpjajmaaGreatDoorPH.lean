/- The reference of findings: Ints, Same. -/
import Derived.Test.YtjoionnnpjajmaaGreatDoorPC
import Derived.Test.YtjoionnnpjajmaaGreatDoorPB
import Derived.Test.YtjoionnnpjajmaaGreatDoorPG
import Derived.Test.YtjoionnnpjajmaaGreatDoorPF
import Derived.Test.YtjoionnnpjajmaaGreatDoorOE
namespace Go.Proofs.YtjoionnnpjajmaaGreatDoor
open Go.RowKit
set_option maxRecDepth 100000
theorem own_nums2 {w : World} {v u : Value} {l m : List Int} (h : IsNums w v l) (k : IsNums w u m) : Own [] w [] [] (roS v (ints l) ++ roS u (ints m)) w := by
 have hO := own_start [] w
 have h1 : Own [] w [] [] (roS u (ints m)) w := by
  rcases k with ⟨rfl, _, _⟩ | ⟨g, o, c, rfl, _, hr⟩
  ·exact hO
  ·exact hO.addOld ⟨g, o, ints m⟩ hr
 rcases h with ⟨rfl, _, _⟩ | ⟨g, o, c, rfl, _, hr⟩
 ·exact h1
 ·exact h1.addOld ⟨g, o, ints l⟩ hr
set_option maxHeartbeats 4000000 in
theorem rInts_any (v u : Value) (l : List Int) (w : World) (hv : IsNums w v l) (hu : IsNums w u l) (hl : l.length ≤ 9223372036854775806) :
  Calls Tryz.prog 19 #[v, u] w fun e w' => e = .returned (.bool true) ∧ Below w.heap.size w w' := by
 have hO := own_nums2 hv hu
 obtain ⟨a, c, rfl, ha⟩ := (isCells_form hv).view
 obtain ⟨b, d, rfl, hb⟩ := (isCells_form hu).view
 clear hv hu
 have g0 : ((l.length : Int) == (l.length : Int)) = true := beq_self_eq_true _
 go_enter Tryz.func19, Tryz.ntmps19
 go_wp2_with (first | refine ldNT ?_ | ((first | refine stNT hO ?_ | refine st1NT hO ?_); clear hO; intro wv hO))
 go_loopw [5] (fun i wr => ∃ k : Nat, k ≤ l.length ∧ i = .int .i64 k ∧ Own [] w [] [] (roS (.slice a l.length c) (ints l) ++ roS (.slice b l.length d) (ints l)) wr) (fun i _ => l.length - (intOf i).toNat)
 case atStart => exact ⟨0, by omega, rfl, hO⟩
 case round =>
  clear hO g0
  obtain ⟨k, hk, rfl, hO⟩ := hrel
  have s1 : IntKind.i64.wrap ((k : Int) + 1) = (k : Int) + 1 := IntWalk.i64_in _ (by omega)
  by_cases hlt : k < l.length
  ·obtain ⟨g, o, rfl⟩ := ha (by omega)
   obtain ⟨g', o', rfl⟩ := hb (by omega)
   replace hO := hO.sub (S' := [⟨g, o, ints l⟩, ⟨g', o', ints l⟩]) (.refl _) (.refl _) (fun q hq => hq)
   have t1 := ints_get hlt
   generalize l[k] = x at *
   have e1 : (x == x) = true := beq_self_eq_true x
   go_wp2_with (first | refine ldNT ?_ | ((first | refine stNT hO ?_ | refine st1NT hO ?_); clear hO; intro wv hO))
   (try simp only [Act.put]); (refine own_quiet hO (by kernel_rfl) (by kernel_rfl) ?_; clear hO; (repeat (first | go_big_quiet_skip | (go_big_quiet_want; (first | ((with_reducible refine is_loadQ ?_); (first | (refine q_ldT (h := ?_))); (try simp only [Act.put]); (try simp only [sI9, sZ9, sS9]); go_big_quiet_on) | (go_big_quiet_op; (first | go_big_quiet_on | ((refine ⟨_, fun _ _ => rfl, ?_⟩); go_big_quiet_on) | go_big_quiet_call (fail))))))); (refine wpQuiet_nil ?_); intro wv hO)
   go_wp2_with (first | refine ldNT ?_ | ((first | refine stNT hO ?_ | refine st1NT hO ?_); clear hO; intro wv hO))
   go_roundw
   case rel => exact ⟨k + 1, by omega, by go_num, hO⟩
   case measure => simp [intOf]; omega
  ·obtain rfl : k = l.length := by omega
   go_wp2_with (first | refine ldNT ?_ | ((first | refine stNT hO ?_ | refine st1NT hO ?_); clear hO; intro wv hO))
   go_ret
   exact ⟨rfl, hO.keep.below⟩
def ReadsF (w : World) (v : Value) (ps : List (Fnd × Value)) : Prop := IsCells w v ps.length (cellsN ps) ∧ ∀ p ∈ ps, IsNums w p.2 p.1.2.2
theorem own_nums {w : World} {X : List Chunk} {R : List Row} {S : List Ro} {w0 : World} (hO : Own [] w0 X R S w) {v : Value} {n : Nat} {xs : List Value} (h : IsCells w0 v n xs) : Own [] w0 X R (roS v xs ++ S) w := by
 rcases h with ⟨rfl, _, _⟩ | ⟨g, o, c, rfl, _, hr⟩
 ·exact hO
 ·exact hO.addOld ⟨g, o, xs⟩ hr
theorem map_at {α β : Type} {f : α → β} {l m : List α} (h : l.map f = m.map f) {k : Nat} (h1 : k < l.length) (h2 : k < m.length) : f l[k] = f m[k] := by
 have h3 : (l.map f)[k]? = (m.map f)[k]? := by rw [h]
 simpa [h1, h2] using h3
set_option maxHeartbeats 16000000 in
theorem rSameN_any (v u : Value) (ps qs : List (Fnd × Value)) (w : World) (hv : ReadsF w v ps) (hu : ReadsF w u qs) (he : ps.map (·.1) = qs.map (·.1)) (hl : ps.length ≤ 1000000000000) (hn : ∀ p ∈ ps, p.1.2.2.length ≤ 9223372036854775806) :
  Calls Tryz.prog 17 #[v, u] w fun e w' => e = .returned (.bool true) ∧ Below w.heap.size w w' := by
 have hO := own_nums (own_nums (own_start [] w) hu.1) hv.1
 have hlen : ps.length = qs.length := by simpa using congrArg List.length he
 obtain ⟨a, c, rfl, ha⟩ := (isCells_form hv.1).view
 obtain ⟨b, d, hb0, hb⟩ := (isCells_form hu.1).view
 have HA := Lib.hid (fun p hp => (hv.2 p hp))
 have HB := Lib.hid (fun p hp => (hu.2 p hp))
 have HK := Lib.hid (fun (k : Nat) (hk : k < ps.length) => (show k < qs.length by omega))
 have HE := Lib.hid (fun (k : Nat) (hk : k < ps.length) => map_at he hk (HK.out k hk))
 have hc2 : (ps.length : Int) = (qs.length : Int) := by omega
 rw [← hlen] at hb0 hb
 subst hb0
 clear hv hu he hlen hc2
 go_enter Tryz.func17, Tryz.ntmps17
 go_wp2_with (first | refine ldNT ?_ | ((first | refine stNT hO ?_ | refine st1NT hO ?_); clear hO; intro wv hO))
 go_loopw [5] (fun i wr => ∃ k : Nat, k ≤ ps.length ∧ i = .int .i64 k ∧ Own [] w [] [] (roS (.slice a ps.length c) (cellsN ps) ++ (roS (.slice b ps.length d) (cellsN qs) ++ [])) wr) (fun i _ => ps.length - (intOf i).toNat)
 case atStart => exact ⟨0, by omega, rfl, hO⟩
 case round =>
  clear hO
  obtain ⟨k, hk, rfl, hO⟩ := hrel
  have s1 : IntKind.i64.wrap ((k : Int) + 1) = (k : Int) + 1 := IntWalk.i64_in _ (by omega)
  by_cases hlt : k < ps.length
  ·obtain ⟨g, o, rfl⟩ := ha (by omega)
   obtain ⟨g', o', rfl⟩ := hb (by omega)
   replace hO := hO.sub (S' := [⟨g, o, cellsN ps⟩, ⟨g', o', cellsN qs⟩]) (.refl _) (.refl _) (fun q hq => hq)
   have hlq := HK.out k hlt
   obtain ⟨t1, t2, t3⟩ := cellsN_at hlt
   obtain ⟨t4, t5, t6⟩ := cellsN_at hlq
   have hx := HE.out k hlt
   have hi1 := HA.out _ (List.getElem_mem hlt)
   have hi2 := HB.out _ (List.getElem_mem hlq)
   have hnn := hn _ (List.getElem_mem hlt)
   generalize ps[k] = p at *
   generalize qs[k] = q at *
   obtain ⟨⟨r, kd, l⟩, vp⟩ := p
   obtain ⟨⟨r', kd', l'⟩, vq⟩ := q
   obtain ⟨rfl, rfl, rfl⟩ : r = r' ∧ kd = kd' ∧ l = l' := by
    have h1 := congrArg (·.1) hx
    have h2 := congrArg (·.2.1) hx
    have h3 := congrArg (·.2.2) hx
    exact ⟨h1, h2, h3⟩
   dsimp only at t1 t2 t3 t4 t5 t6 hi1 hi2 hnn
   clear hx
   have e1 : (r == r) = true := beq_self_eq_true r
   have e2 : (kd == kd) = true := beq_self_eq_true kd
   have h1 := fun w hv hu => rInts_any vp vq l w hv hu hnn
   obtain ⟨a1, c1, rfl, -⟩ := (isCells_form hi1).view
   obtain ⟨a2, c2, rfl, -⟩ := (isCells_form hi2).view
   go_wp2_with (first | refine ldNT ?_ | ((first | refine stNT hO ?_ | refine st1NT hO ?_); clear hO; intro wv hO))
   (try simp only [Act.put]); (refine own_quiet hO (by kernel_rfl) (by kernel_rfl) ?_; clear hO; (repeat (first | go_big_quiet_skip | (go_big_quiet_want; (first | ((with_reducible refine is_loadQ ?_); (first | (refine q_ldT (h := ?_))); (try simp only [Act.put]); (try simp only [sI9, sZ9, sS9]); go_big_quiet_on) | (go_big_quiet_op; (first | go_big_quiet_on | ((refine ⟨_, fun _ _ => rfl, ?_⟩); go_big_quiet_on) | go_big_quiet_call ((intro hq; go_at_call 19; exact q_call (h1 _ (IsCells.below hi1 hq.keep.below) (IsCells.below hi2 hq.keep.below)) hq)))))))); (refine wpQuiet_nil ?_); intro wv hO)
   go_wp2_with (first | refine ldNT ?_ | ((first | refine stNT hO ?_ | refine st1NT hO ?_); clear hO; intro wv hO))
   go_roundw
   case rel => exact ⟨k + 1, by omega, by go_num, hO⟩
   case measure => simp [intOf]; omega
  ·obtain rfl : k = ps.length := by omega
   go_wp2_with (first | refine ldNT ?_ | ((first | refine stNT hO ?_ | refine st1NT hO ?_); clear hO; intro wv hO))
   go_ret
   exact ⟨rfl, hO.keep.below⟩
theorem anS_by {t : List Rul} {i : Nat} {m : List Fnd} (h : anS t i = some m) : m.length ≤ 2 ∧ ∀ f ∈ m, f.2.2.length ≤ t.length + 1 := by
 have hexc : ∀ o, (excL i o).length ≤ 1 ∧ ∀ f ∈ excL i o, f.2.2.length ≤ t.length + 1 := fun o => by
  cases o with
  | none => exact ⟨by simp [excL], fun f hf => by cases hf⟩
  | some k => exact ⟨by simp [excL], fun f hf => by rw [List.mem_singleton.1 hf]; simp⟩
 unfold anS at h
 split at h
 ·cases h
 ·rename_i r hr
  obtain ⟨hi, rfl⟩ := List.getElem?_eq_some_iff.1 hr
  split at h
  ·cases h
  ·split at h
   ·cases h
    refine ⟨by simp, fun f hf => ?_⟩
    rw [List.mem_singleton.1 hf]
    have := befT_len t[i].1 t i
    dsimp only
    omega
   ·split at h
    ·split at h
     ·cases h
     ·rename_i hs hh
      cases h
      obtain ⟨h1, h2⟩ := hexc (excF t[i] (t.drop (i + 1)) (i + 1))
      refine ⟨by simp only [List.length_cons]; omega, fun f hf => ?_⟩
      rcases List.mem_cons.1 hf with rfl | hf
      ·have := heirN_len hh
       dsimp only
       omega
      ·exact h2 f hf
    ·cases h
     obtain ⟨h1, h2⟩ := hexc (excF t[i] (t.drop (i + 1)) (i + 1))
     exact ⟨by omega, h2⟩
theorem anF_by {t : List Rul} : ∀ {n : Nat} {l : List Fnd}, anF t n = some l → l.length ≤ 2 * n ∧ ∀ f ∈ l, f.2.2.length ≤ t.length + 1
 | 0, l, h => by cases h; exact ⟨by simp, fun f hf => by cases hf⟩
 | n + 1, l, h => by
  rw [anF] at h
  split at h
  ·cases h
  ·rename_i l' hl
   split at h
   ·cases h
   ·rename_i m hm
    cases h
    obtain ⟨h1, h2⟩ := anF_by hl
    obtain ⟨h3, h4⟩ := anS_by hm
    refine ⟨by rw [List.length_append]; omega, fun f hf => ?_⟩
    rcases List.mem_append.1 hf with hf | hf
    ·exact h2 f hf
    ·exact h4 f hf
theorem anR_by (t : List Rul) : (anR t).1.length ≤ 2 * t.length ∧ ∀ f ∈ (anR t).1, f.2.2.length ≤ t.length + 1 := by
 unfold anR
 split
 ·cases h : anF t t.length with
  | none => exact ⟨by simp, fun f hf => by cases hf⟩
  | some l => exact anF_by h
 ·exact ⟨by simp, fun f hf => by cases hf⟩
theorem clF_len {t : List Rul} {ix rm : List Int} {i : Nat} {c : List Rul} {r : List Int} (e : clF t ix rm i = some (c, r)) : c.length ≤ t.length ∧ r.length ≤ rm.length + t.length := by
 by_cases hi : i < t.length
 ·cases hs : stF t i with
  | none => rw [clF_none hi hs] at e; cases e
  | some x =>
   obtain ⟨s, b⟩ := x
   cases b
   ·rw [clF_go hi hs] at e
    exact clF_len e
   ·rw [clF_rm hi hs] at e
    have h := clF_len e
    have hw := woF_length hi
    rw [List.length_append] at h
    simp only [List.length_cons, List.length_nil] at h
    omega
 ·rw [clF_end hi] at e
  cases e
  omega
termination_by (t.length, t.length - i)
decreasing_by
 ·exact Prod.Lex.right _ (by omega)
 ·rw [woF_length hi]; exact Prod.Lex.left _ _ (by omega)
theorem clR_len (t : List Rul) : (clR t).1.length ≤ t.length ∧ (clR t).2.1.length ≤ t.length := by
 unfold clR
 split
 ·split
  ·exact ⟨by simp, by simp⟩
  ·rename_i x hx
   have := clF_len hx
   simp only [List.length_nil, Nat.zero_add] at this
   exact this
 ·exact ⟨by simp, by simp⟩
section
variable {M : List Nat} {w0 w w' : World} {X : List Chunk} {R : List Row} {S : List Ro}
theorem Own.readsF (hO : Own M w0 X R S w) {v : Value} {ps : List (Fnd × Value)} (hf : FormN v ps) (h1 : ∀ s ∈ roS v (cellsN ps), s ∈ S) (h2 : ∀ s ∈ roN ps, s ∈ S) : ReadsF w v ps :=
 ⟨hO.isC hf.1 (fun h => cellsN_nil h) h1, fun p hp => hO.isNums (hf.2 p hp) fun s hs => h2 s (roN_mem hp s hs)⟩
theorem Own.gainCl (hO : Own M w0 X R S w) (hb : Below w.heap.size w w') {v vr : Value} {l : List Rul} {m : List Int} (hv : IsTable w' v l) (hn : NewFrom w v) (hr : IsNums w' vr m) (hm : NewFrom w vr) : Own M w0 X R (roS vr (ints m) ++ (roS v (cellsR l) ++ S)) w' :=
 (hO.gainR hb hv hn).addC2 (B := w.heap.size) hO.lt hr hm
end
set_option maxHeartbeats 8000000 in
theorem lfinds_any {vt : Value} {t : List Rul} (w : World) (ht : Tops w) (hv : IsTable w vt t) (kt : okT t) (hl : t.length ≤ 20) :
  Calls Tryz.prog 6 #[vt] w fun e w' => e = .returned (.bool true) ∧ Below w.heap.size w w' := by
 have hO := own_start [] w
 have h1 := fun w ht hv => sAnalyze_any (vt := vt) (t := t) w ht hv kt (by omega)
 have h2 := fun w hv => rAnalyze_any (vt := vt) (t := t) w hv kt hl
 have h3 := fun w ht hv => sClean_any (vt := vt) (t := t) w ht hv kt (by omega)
 have h4 := fun w hv => rClean_any (vt := vt) (t := t) w hv kt hl
 obtain ⟨na, nb⟩ := anR_by t
 obtain ⟨nc, nd⟩ := clR_len t
 generalize anR t = A at *
 generalize clR t = C at *
 have hA : ∀ ps : List (Fnd × Value), ps.map (·.1) = A.1 → ps.length ≤ 1000000000000 ∧ ∀ p ∈ ps, p.1.2.2.length ≤ 9223372036854775806 := fun ps he => by
  refine ⟨?_, fun p hp => ?_⟩
  ·have := congrArg List.length he
   rw [List.length_map] at this
   omega
  ·have := nb p.1 (he ▸ List.mem_map.2 ⟨p, hp, rfl⟩)
   omega
 have h5 := fun v u w hv hu => rSame8_any v u C.1 C.1 w hv hu (by omega) (by omega)
 rw [decide_eq_true (rfl : C.1 = C.1)] at h5
 have h6 := fun v u w hv hu => rInts_any v u C.2.1 w hv hu (by omega)
 have e1 : (A.2 == A.2) = true := beq_self_eq_true _
 have e2 : (C.2.2 == C.2.2) = true := beq_self_eq_true _
 clear na nb nc nd
 go_enter Tryz.func6, Tryz.ntmps6
 go_wp2_with (first | refine ldNT ?_ | ((first | refine stNT hO ?_ | refine st1NT hO ?_); clear hO; intro wv hO) | (go_at_call 13; (with_reducible refine (h1 _ (hO.tops ht (by simp)) (hv.keep0 hO)).mono ?_); rintro e wv ⟨v1, ps, rfl, he1, hv9, hb9⟩; have f1 := hv9.form; replace hO := hO.gainN hb9 hv9; clear hb9 hv9) | (go_at_call 14; (with_reducible refine (h2 _ (hv.keep0 hO)).mono ?_); rintro e wv ⟨v2, qs, rfl, he2, hv9, hb9⟩; have f2 := hv9.form; replace hO := hO.gainN hb9 hv9; clear hb9 hv9) | (go_at_call 15; (with_reducible refine (h3 _ (hO.tops ht (by simp)) (hv.keep0 hO)).mono ?_); rintro e wv ⟨v3, r3, rfl, hv9, hn9, hr9, hm9, hb9⟩; have f3 := hv9.form; have k3 := isCells_form hr9; replace hO := hO.gainCl hb9 hv9 hn9 hr9 hm9; clear hb9 hv9 hn9 hr9 hm9) | (go_at_call 16; (with_reducible refine (h4 _ (hv.keep0 hO)).mono ?_); rintro e wv ⟨v4, r4, rfl, hv9, hn9, hr9, hm9, hb9⟩; have f4 := hv9.form; have k4 := isCells_form hr9; replace hO := hO.gainCl hb9 hv9 hn9 hr9 hm9; clear hb9 hv9 hn9 hr9 hm9) | (go_at_call 17; (with_reducible refine (rSameN_any _ _ _ _ _ (hO.readsF f1 (by intro q hq; repeat (first | exact hq | exact List.mem_append_left _ hq | apply List.mem_append_right | apply List.mem_cons_of_mem)) (by intro q hq; repeat (first | exact hq | exact List.mem_append_left _ hq | apply List.mem_append_right | apply List.mem_cons_of_mem))) (hO.readsF f2 (by intro q hq; repeat (first | exact hq | exact List.mem_append_left _ hq | apply List.mem_append_right | apply List.mem_cons_of_mem)) (by intro q hq; repeat (first | exact hq | exact List.mem_append_left _ hq | apply List.mem_append_right | apply List.mem_cons_of_mem))) (he1.trans he2.symm) (hA _ he1).1 (hA _ he1).2).mono ?_); rintro e wv ⟨rfl, hb9⟩; replace hO := hO.call hb9; clear hb9) | (go_at_call 18; (with_reducible refine (h5 _ _ _ (hO.isRm f3) (hO.isRm f4)).mono ?_); rintro e wv ⟨rfl, hb9⟩; replace hO := hO.call hb9; clear hb9) | (go_at_call 19; (with_reducible refine (h6 _ _ _ (hO.isNumsm k3) (hO.isNumsm k4)).mono ?_); rintro e wv ⟨rfl, hb9⟩; replace hO := hO.call hb9; clear hb9))
 go_ret
 exact ⟨rfl, hO.keep.below⟩
end Go.Proofs.YtjoionnnpjajmaaGreatDoor
