/- Contracts of the reference of layer 3 (fourth part): Same. -/
import Derived.Test.YtbdfblgdmappeaaGreatDoorMB
import Derived.Test.YtbdfblgdmappeaaGreatDoorMS
import Derived.Test.YtbdfblgdmappeaaGreatDoorMN
import Derived.Test.YtbdfblgdmappeaaGreatDoorMO
import Derived.Test.YtbdfblgdmappeaaGreatDoorME
import Derived.Test.YtbdfblgdmappeaaGreatDoorMP
namespace Go.Proofs.YtbdfblgdmappeaaGreatDoor
open Go.RowKit
set_option maxRecDepth 100000
set_option maxHeartbeats 1000000 in
theorem rsame_any (v u : Value) (l m : List Bx) (w : World) (hv : IsBoxes w v l) (hu : IsBoxes w u m) (hm : l.length ≤ 9223372036854775806) (hm2 : m.length ≤ 9223372036854775806) :
  Calls Tryz.prog 141 #[v, u] w fun e w' => e = .returned (.bool (decide (l = m))) ∧ Below w.heap.size w w' := by
 have hO := roS_arg2 hv hu
 obtain ⟨a, c, rfl, ha⟩ := hv.view
 obtain ⟨a2, c2, rfl, ha2⟩ := hu.view
 clear hv hu
 by_cases hl : l.length = m.length
 ·have q : ((l.length : Int) != (m.length : Int)) = false := by simp [hl]
  have HL := Lib.hid hl
  clear hl
  go_enter Tryz.func141, Tryz.ntmps141
  go_wp2_with fail
  go_loopw [5] (fun i wr => ∃ k : Nat, k ≤ l.length ∧ i = .int .i64 k ∧ l.take k = m.take k ∧ Own [] w [] [] (roS (.slice a l.length c) (cellsB l) ++ roS (.slice a2 m.length c2) (cellsB m)) wr) (fun i _ => l.length - (intOf i).toNat)
  case atStart => exact ⟨0, by omega, rfl, by simp, hO⟩
  case round =>
   clear hO
   obtain ⟨k, hk, rfl, hin, hO⟩ := hrel
   have HI := Lib.hid hin
   clear hin
   by_cases hlt : k < l.length
   ·have hlt2 : k < m.length := by have := HL.out; omega
    obtain ⟨g, o, rfl⟩ := ha (by omega)
    obtain ⟨g2, o2, rfl⟩ := ha2 (by omega)
    simp only [roS, List.cons_append, List.nil_append] at hO
    have t1 := tk_box l hlt
    have t2 := tk_box m hlt2
    by_cases he : l[k] = m[k]
    ·have q1 : (!decide (l[k] = m[k])) = false := by simp [he]
     have HE := Lib.hid he
     clear he
     go_wp2_with fail
     (refine own_quiet hO (by kernel_rfl) (by kernel_rfl) ?_; clear hO; (repeat (go_big_quiet_want; (first | ((with_reducible refine is_loadQ ?_); (refine q_ld (h := ?_)); (try simp only [Act.put]); (try simp only [sI9, sZ9, sS9]); go_big_quiet_on) | (go_big_quiet_op; (first | go_big_quiet_on | ((refine ⟨_, fun _ _ => rfl, ?_⟩); go_big_quiet_on)))))); (refine wpQuiet_nil ?_); intro wv hO)
     go_wp2_with fail
     go_roundw
     case rel => exact ⟨k + 1, by omega, by go_num, by rw [List.take_succ_eq_append_getElem hlt, List.take_succ_eq_append_getElem hlt2, HI.out, HE.out], hO⟩
     case measure => simp [intOf]; omega
    ·have q1 : (!decide (l[k] = m[k])) = true := by simp [he]
     have E := Lib.hid (show decide (l = m) = false by simp; intro e; subst e; exact he rfl)
     clear he
     go_wp2_with fail
     (refine own_quiet hO (by kernel_rfl) (by kernel_rfl) ?_; clear hO; (repeat (go_big_quiet_want; (first | ((with_reducible refine is_loadQ ?_); (refine q_ld (h := ?_)); (try simp only [Act.put]); (try simp only [sI9, sZ9, sS9]); go_big_quiet_on) | (go_big_quiet_op; (first | go_big_quiet_on | ((refine ⟨_, fun _ _ => rfl, ?_⟩); go_big_quiet_on)))))); (refine wpQuiet_nil ?_); intro wv hO)
     go_wp2_with fail
     go_ret
     exact ⟨ret_bool E.out.symm, hO.keep.below⟩
   ·obtain rfl : k = l.length := by omega
    have E := Lib.hid (show decide (l = m) = true by
     have h := HI.out; rw [List.take_length, HL.out, List.take_length] at h; simpa using h)
    go_wp2_with fail
    go_ret
    exact ⟨ret_bool E.out.symm, hO.keep.below⟩
 ·have q : ((l.length : Int) != (m.length : Int)) = true := by simp; omega
  have E := Lib.hid (show decide (l = m) = false by simp; intro e; exact hl (by rw [e]))
  clear hl
  go_enter Tryz.func141, Tryz.ntmps141
  go_wp2_with fail
  go_ret
  exact ⟨ret_bool E.out.symm, hO.keep.below⟩
end Go.Proofs.YtbdfblgdmappeaaGreatDoor
namespace Go.Proofs.YtbdfblgdmappeaaGreatDoor
set_option maxRecDepth 100000
def IsSet (l : List Bx) : Prop := vL l ∧ l.length ≤ 4096 ∧ Cn 0 5 l
theorem IsSet.setF {l : List Bx} (h : IsSet l) : setF l = some l := by
 unfold Go.Proofs.YtbdfblgdmappeaaGreatDoor.setF validF
 rw [if_pos]
 rw [valF_id h.1, (dvd_zero h.1).2 h.2.2]
 simp [h.2.1]
theorem IsSet.ext {a b : List Bx} (ha : IsSet a) (hb : IsSet b) (h : ∀ p, okP p → inq a p = inq b p) : a = b := Cn.extq ha.2.2 hb.2.2 h
theorem IsSet.full : IsSet [fullBx] := by
 have hv : vL [fullBx] := by
  have h := valF_vL okL_full
  rwa [show valF [fullBx] = [fullBx] by decide +kernel] at h
 exact ⟨hv, by decide, (dvd_zero hv).1 (by decide +kernel)⟩
end Go.Proofs.YtbdfblgdmappeaaGreatDoor
namespace Go.Proofs.YtbdfblgdmappeaaGreatDoor
open Go.RowKit
set_option maxRecDepth 100000
theorem rsame4_any (v u : Value) (l : List Bx) (w : World) (hv : IsBoxes w v l) (hu : IsBoxes w u l) (hl : l.length ≤ 9223372036854775806) :
  Calls Tryz.prog 80 #[v, u] w fun e w' => e = .returned (.bool true) ∧ Below w.heap.size w w' := by
 have hO := own_start [] w
 have h1 := fun w hv hu => rsame_any v u l l w hv hu hl hl
 have e1 : decide (l = l) = true := by simp
 rw [e1] at h1
 clear e1
 go_enter Tryz.func80, Tryz.ntmps80
 go_wp2_with (go_at_call 141; refine (h1 _ hv hu).mono ?_; rintro e wv ⟨rfl, hb⟩; replace hO := hO.call hb; clear hb)
 go_ret
 exact ⟨rfl, hO.keep.below⟩
theorem vL.okL {l : List Bx} (h : vL l) : okL l := fun b hb k hk => by
 have h1 := h b hb k hk
 have h2 := topOf_le k
 omega
theorem IsSet.ok {l : List Bx} (h : IsSet l) : okL l := h.1.okL
theorem IsSet.le {l : List Bx} (h : IsSet l) : l.length ≤ 1000000000000 := Nat.le_trans h.2.1 (by omega)
theorem least_next {op : Bool → Bool → Bool} {f n : Nat} {a b : List Bx} {i : Nat} {s : Rg} {x : Bx} {xs : List Bx} (hs : (segs (topOf f) (pts f a b))[i]? = some s)
  (h0 : ∀ (j : Nat) (t : Rg), j < i → (segs (topOf f) (pts f a b))[j]? = some t → canonF op (f + 1) n (covB a f t.lo) (covB b f t.lo) = [])
  (hx : canonF op (f + 1) n (covB a f s.lo) (covB b f s.lo) = x :: xs) : ∃ r ys, canonF op f (n + 1) a b = x.set f r :: ys ∧ r.lo = s.lo := by
 obtain ⟨hi, e⟩ := List.getElem?_eq_some_iff.1 hs
 have hsp : segs (topOf f) (pts f a b) = (segs (topOf f) (pts f a b)).take i ++ s :: (segs (topOf f) (pts f a b)).drop (i + 1) := by
  have := List.take_append_drop i (segs (topOf f) (pts f a b))
  rw [List.drop_eq_getElem_cons hi, e] at this
  exact this.symm
 refine canonF_first hsp (fun t ht => ?_) hx
 obtain ⟨j, hj, e⟩ := List.getElem_of_mem ht
 rw [List.length_take] at hj
 refine h0 j t (by omega) ?_
 rw [← e, List.getElem_take]
 exact List.getElem?_eq_getElem (by omega)
theorem least_none {op : Bool → Bool → Bool} {f n : Nat} {a b : List Bx} (h0 : ∀ (j : Nat) (t : Rg), (segs (topOf f) (pts f a b))[j]? = some t → canonF op (f + 1) n (covB a f t.lo) (covB b f t.lo) = []) : canonF op f (n + 1) a b = [] :=
 canonF_empty fun t ht => by
  obtain ⟨j, hj, e⟩ := List.getElem_of_mem ht
  exact h0 j t (by rw [← e]; exact List.getElem?_eq_getElem hj)
def LowsOf (D : List Bx) (f : Nat) (h : Nat → Int) : Prop := ∀ x xs, D = x :: xs → ∀ k, f ≤ k → k < 5 → h k = (x.at k).lo
theorem lows_next {f : Nat} {x : Bx} {r : Rg} {xs ys : List Bx} {h : Nat → Int} (_hf : f < 5) (hh : LowsOf (x :: xs) (f + 1) h) (e : h f = r.lo) : LowsOf (x.set f r :: ys) f h := by
 intro z zs hz k h1 h2
 obtain ⟨rfl, _⟩ := List.cons.inj hz
 rw [Bx.at_set _ _ _ h2]
 split
 ·subst k; exact e
 ·exact hh x xs rfl k (by omega) h2
theorem wpAny_takeNil {P : Program} {Q : Exit → Act → World → Prop} {a : Act} {w : World} {md : Region.Mode} {l : List Oper} {oi : Oper} {fuel : Nat} {listed : Array Bool} (i : Nat) (hi : l[i]? = some oi) {x : Operand} (ho : oi.op = .nilCheck x)
  (hs : Region.noSelect l.toArray = true) (hf : Region.free md l.toArray listed i = true) (hr : (Region.ready md l.toArray listed).contains i = true)
  (hQ : ∀ c d v a w, Q (.panic c) (Act.put a d v) w → Q (.panic c) a w) (hw : Region.wanted oi (yielded l.toArray a.tmps) = true) {p : Addr} (hx : a.eval x = .pointer (some p))
  (h : wpAny P md l.toArray Q fuel (listed.setIfInBounds i true) (a.put oi.dst (.pointer (some p))) w) : wpAny P md l.toArray Q (fuel + 1) listed a w :=
 wpAny_take (by simpa using hi) hs hf hr (fun c a w => hQ c _ _ a w) (.inl ⟨hw, fun w => by unfold execOp; rw [ho]; simp only [hx]; rfl⟩) h
def BoxesQ (q : Nat) (w : World) (v : Value) (l : List Bx) : Prop := FormB v l ∧ ∀ s ∈ roS v (cellsB l), w.rangeAt s.g s.o s.xs ∧ (s.xs ≠ [] → s.g ≠ q)
theorem BoxesQ.is {q : Nat} {w : World} {v : Value} {l : List Bx} (h : BoxesQ q w v l) : IsBoxes w v l := by
 rcases h.1 with h1 | ⟨g, o, c, rfl, hc⟩
 ·exact .inl h1
 ·exact .inr ⟨g, o, c, rfl, hc, (h.2 ⟨g, o, cellsB l⟩ (by simp [roS])).1⟩
theorem Own.boxesQ {M : List Nat} {w0 w : World} {X : List Chunk} {R : List Row} {S : List Ro} (hO : Own M w0 X R S w) {q : Nat} {cs : List Value} {t : TypeId} (hm : (⟨q, cs, t⟩ : Chunk) ∈ X) {v : Value} {l : List Bx} (hf : FormB v l) (hS : ∀ s ∈ roS v (cellsB l), s ∈ S) : BoxesQ q w v l :=
 ⟨hf, fun s hs => ⟨hO.ro s (hS s hs), fun hne e => hO.apart s (hS s hs) hne (by rw [e]; exact List.mem_append.2 (.inl (List.mem_map.2 ⟨_, hm, rfl⟩)))⟩⟩
def LeastPost (q : Nat) (w : World) (h : Nat → Int) (D : List Bx) (f : Nat) (e : Ending) (w' : World) : Prop := ∃ h' : Nat → Int, e = .returned (.bool (!D.isEmpty)) ∧ Keep [q] w w' ∧ Blk w' q (fcs h') 158 ∧ (∀ k, k < f → h' k = h k) ∧ LowsOf D f h'
theorem least_base {m : Nat} {op : Bool → Bool → Bool} (hop : OpC m op) {va vb : Value} {la lb : List Bx} {q : Nat} {h : Nat → Int} (w : World) (hq : Blk w q (fcs h) 158) (hva : IsBoxes w va la) (hvb : IsBoxes w vb lb) :
  Calls Tryz.prog 166 #[.int .i64 5, va, vb, .func (.func m) #[] #[], .pointer (some ⟨q, 0, none⟩)] w (LeastPost q w h (canonF op 5 0 la lb) 5) := by
 have hO := own_start [q] w
 obtain ⟨a, c, rfl, ha⟩ := hva.view
 obtain ⟨b, d, rfl, hb⟩ := hvb.view
 have g1 := pos_len la
 have g2 := pos_len lb
 have he := hop.enters
 have E := Lib.hid (show op (!la.isEmpty) (!lb.isEmpty) = !(canonF op 5 0 la lb).isEmpty by rw [canonF]; cases op (!la.isEmpty) (!lb.isEmpty) <;> rfl)
 clear hva hvb
 generalize canonF op 5 0 la lb = D at *
 generalize (!la.isEmpty) = x at *
 generalize (!lb.isEmpty) = y at *
 go_enter Tryz.func166, Tryz.ntmps166
 go_wp2_with ((with_reducible refine (hop.calls _ _ _).mono ?_); rintro e wv ⟨rfl, rfl⟩)
 go_ret
 exact ⟨h, ret_bool E.out, hO.keep, hq, fun _ _ => rfl, fun _ _ _ k h1 h2 => absurd h1 (by omega)⟩
theorem least_nil {m : Nat} {op : Bool → Bool → Bool} (hop : OpC m op) {va vb : Value} {f n q : Nat} {h : Nat → Int} (w : World) (hf : f < 5) (hq : Blk w q (fcs h) 158) (hva : IsBoxes w va []) (hvb : IsBoxes w vb []) :
  Calls Tryz.prog 166 #[.int .i64 f, va, vb, .func (.func m) #[] #[], .pointer (some ⟨q, 0, none⟩)] w (LeastPost q w h (canonF op f n [] []) f) := by
 have hO := own_start [q] w
 obtain ⟨a, c, rfl, ha⟩ := hva.view
 obtain ⟨b, d, rfl, hb⟩ := hvb.view
 have he := hop.enters
 have hn := hop.calls false false
 rw [hop.none] at hn
 rw [canonF_nil hop.none]
 have g0 : ((f : Int) == 5) = false := by simp; omega
 have s1 : IntKind.i64.wrap ((([] : List Bx).length : Int) + (([] : List Bx).length : Int)) = 0 := by decide
 clear hva hvb ha hb
 go_enter Tryz.func166, Tryz.ntmps166
 go_wp2_with ((with_reducible refine (hn _).mono ?_); rintro e wv ⟨rfl, rfl⟩)
 go_ret
 exact ⟨h, rfl, hO.keep, hq, fun _ _ => rfl, fun _ _ hx => by cases hx⟩
set_option maxHeartbeats 32000000 in
theorem least_any {m : Nat} {op : Bool → Bool → Bool} (hop : OpC m op) : ∀ (n f : Nat), f + n = 5 → ∀ (va vb : Value) (la lb : List Bx) (q : Nat) (h : Nat → Int) (w : World), Tops w → q ≠ 0 → Blk w q (fcs h) 158 → BoxesQ q w va la → BoxesQ q w vb lb → vL la → vL lb → la.length ≤ 1000000000000 → lb.length ≤ 1000000000000 →
  Calls Tryz.prog 166 #[.int .i64 f, va, vb, .func (.func m) #[] #[], .pointer (some ⟨q, 0, none⟩)] w (LeastPost q w h (canonF op f n la lb) f) := by
 intro n
 induction n with
 | zero =>
  intro f hf va vb la lb q h w _ _ hq hva hvb _ _ _ _
  obtain rfl : f = 5 := by omega
  exact least_base hop w hq hva.is hvb.is
 | succ n ih =>
  intro f hfn va vb la lb q h w ht hqt hq hva hvb ka kb na nb
  have hf : f < 5 := by omega
  by_cases hE : la = [] ∧ lb = []
  ·obtain ⟨rfl, rfl⟩ := hE
   exact least_nil hop w hf hq hva.is hvb.is
  have hM : 0 ∉ [q] := by simp; exact fun e => hqt e.symm
  have hfa := Lib.hid hva.1
  have hfb := Lib.hid hvb.1
  have hO := Own.takeIn hq (roS va (cellsB la) ++ roS vb (cellsB lb)) (fun s hs => (List.mem_append.1 hs).elim (hva.2 s) (hvb.2 s))
  obtain ⟨a, c, rfl, ha⟩ := hva.1.view
  obtain ⟨b, d, rfl, hb⟩ := hvb.1.view
  have hmA : ∀ s ∈ roS (.slice a la.length c) (cellsB la), s ∈ roS (.slice a la.length c) (cellsB la) ++ roS (.slice b lb.length d) (cellsB lb) := fun s hs => List.mem_append_left _ hs
  have hmB : ∀ s ∈ roS (.slice b lb.length d) (cellsB lb), s ∈ roS (.slice a la.length c) (cellsB la) ++ roS (.slice b lb.length d) (cellsB lb) := fun s hs => List.mem_append_right _ hs
  have HMA := Lib.hid hmA
  have HMB := Lib.hid hmB
  clear hmA hmB hva hvb hq
  have hcut := fun n51 w ht hs hva hvb => cuts_any (f := f) (n := n51) (c2 := 2) (va := .slice a la.length c) (vb := .slice b lb.length d) (la := la) (lb := lb) w ht hf hs hva hvb ka kb na nb
  have HC := Lib.hid hcut
  clear hcut
  have htp := fun w ht => top_any f w ht hf
  have g0 : ((f : Int) == 5) = false := by simp; omega
  have s1 : IntKind.i64.wrap ((la.length : Int) + lb.length) = (la.length : Int) + lb.length := IntWalk.i64_in _ (by omega)
  have g1 : ((la.length : Int) + lb.length == 0) = false := by
   have : la.length ≠ 0 ∨ lb.length ≠ 0 := by
    rcases Nat.eq_zero_or_pos la.length with h | h
    ·right; intro h'; exact hE ⟨List.length_eq_zero_iff.1 h, List.length_eq_zero_iff.1 h'⟩
    ·left; omega
   simp; omega
  clear hE
  have hPl : (pts f la lb ++ [topOf f + 1]).length = (pts f la lb).length + 1 := by simp
  have hN1 : (pts f la lb).length ≤ 4000000000002 := by
   have h8 := congrArg List.length (cuts_plain hf ka kb)
   have h9 : (cpt (sortL (0 :: (topOf f + 1) :: (rawB f la ++ rawB f lb)))).length ≤ ([] : List Int).length + _ := cpt_le _ []
   rw [h8, sortL_length, hPl] at h9
   simp only [List.length_cons, List.length_append, rawB_length, List.length_nil] at h9
   omega
  obtain ⟨F, hF⟩ : ∃ F : Int → List Bx, F = fun v => canonF op (f + 1) n (covB la f v) (covB lb f v) := ⟨_, rfl⟩
  have HS := Lib.hid (fun (i : Nat) (h : i < (pts f la lb).length) => pts_seg hf ka kb h)
  have hSl : (segs (topOf f) (pts f la lb)).length = (pts f la lb).length := segs_length _ _
  have HX := Lib.hid (fun (i : Nat) (s : Rg) (x : Bx) (xs : List Bx) (hs : (segs (topOf f) (pts f la lb))[i]? = some s) (h0 : ∀ (j : Nat) (t : Rg), j < i → (segs (topOf f) (pts f la lb))[j]? = some t → F t.lo = []) (hx : F s.lo = x :: xs) => least_next (op := op) (n := n) hs (fun j t h1 h2 => by have := h0 j t h1 h2; rwa [hF] at this) (by rwa [hF] at hx))
  have HE := Lib.hid (fun (h0 : ∀ (j : Nat) (t : Rg), (segs (topOf f) (pts f la lb))[j]? = some t → F t.lo = []) => least_none (op := op) (n := n) (f := f) (a := la) (b := lb) (fun j t h2 => by have := h0 j t h2; rwa [hF] at this))
  have HL := Lib.hid (show (pts f la lb ++ [topOf f + 1])[(pts f la lb).length]? = some (topOf f + 1) by rw [List.getElem?_append_right (Nat.le_refl _), Nat.sub_self]; rfl)
  have HF := Lib.hid hF
  have tl := topOf_le f
  have tp := topPos f
  clear hF
  generalize canonF op f (n + 1) la lb = D at *
  obtain ⟨SS, hSS⟩ : ∃ SS, segs (topOf f) (pts f la lb) = SS := ⟨_, rfl⟩
  rw [hSS] at HS HX HE hSl
  clear hSS
  generalize pts f la lb ++ [topOf f + 1] = P at *
  generalize (pts f la lb).length = N at *
  generalize topOf f = top at *
  have HI := Lib.hid ih
  have HSl := Lib.hid hSl
  clear ih hSl
  have w0 : IntKind.u64.wrap top = top := by rw [IntKind.wrap_u64]; omega
  go_enter Tryz.func166, Tryz.ntmps166
  go_wp2_with (first | ((with_reducible refine is_build ?_); (refine' own_buildP (o := ⟨some 37, _, _, _, _, _⟩) [.slice a la.length c, .slice b lb.length d] hO (by rfl) rfl slice_BoxesL rfl rfl (by rfl) (by decide) (by decide) ?_); clear hO; intro n37 wv hO) | (go_at_call 200; (with_reducible refine (HC.out _ _ (hO.tops ht hM) (hO.range (off := 0) List.mem_cons_self rfl) (hO.isB hfa.out HMA.out) (hO.isB hfb.out HMB.out)).mono ?_); rintro e wv ⟨gp, cp, rfl, hcp, hrp, hnp, hb9⟩; replace hO := hO.gainU hb9 hrp hnp; clear hb9 hrp hnp))
  rw [hPl] at hcp
  go_loopw [40] (fun qi wr => ∃ (i : Nat) (H : Nat → Int), i ≤ N ∧ qi = .int .i64 i ∧ Hid (∀ k, k < f → H k = h k) ∧ Hid (∀ (j : Nat) (t : Rg), j < i → SS[j]? = some t → F t.lo = []) ∧ Own [q] w [⟨q, fcs H, 158⟩] [] (⟨gp, 0, ul P⟩ :: (roS (.slice a la.length c) (cellsB la) ++ roS (.slice b lb.length d) (cellsB lb))) wr) (fun qi _ => N + 1 - (intOf qi).toNat)
  case atStart => exact ⟨0, h, by omega, rfl, Lib.hid (fun _ _ => rfl), Lib.hid (fun j t hj => by omega), hO.sub (.cons _ (.refl _)) (.refl _) (fun _ h => h)⟩
  case round =>
   clear hO
   obtain ⟨i, H, hi, rfl, HK, H0, hO⟩ := hrel
   have s2 : IntKind.i64.wrap ((i : Int) + 1) = (i : Int) + 1 := IntWalk.i64_in _ (by omega)
   have y1 : (0 : Int) ≤ (f : Int) := by omega
   have y2 : (f : Int) < 5 := by omega
   by_cases hlt : i < N
   ·obtain ⟨s, hs, hp1, hp2, b0, b1, b2⟩ := HS.out i hlt
    have c1 : (ul P)[i]? = some (.int .u64 s.lo) := by simp [ul, hp1]
    have w1 : IntKind.u32.wrap s.lo = s.lo := by rw [IntKind.wrap_u32]; omega
    have g2 : decide (top < s.lo) = false := decide_eq_false (by omega)
    have hXs := HX.out i s
    have hF1 := congrFun HF.out s.lo
    obtain ⟨T, hT⟩ : ∃ T, F s.lo = T := ⟨_, rfl⟩
    rw [hT] at hF1
    have HTT := Lib.hid hT
    have hcvA := fun w hv => covering_any (vl := .slice a la.length c) (l := la) (f := f) (v := s.lo) w hv hf na
    have hcvB := fun w hv => covering_any (vl := .slice b lb.length d) (l := lb) (f := f) (v := s.lo) w hv hf nb
    have hih := fun v1 v2 H w ht hb h1 h2 => HI.out (f + 1) (by omega) v1 v2 (covB la f s.lo) (covB lb f s.lo) q H w ht hqt hb h1 h2 (ka.cov f s.lo) (kb.cov f s.lo) (Nat.le_trans (List.length_filter_le _ _) na) (Nat.le_trans (List.length_filter_le _ _) nb)
    have e1 : ((f + 1 : Nat) : Int) = (f : Int) + 1 := by omega
    rw [e1] at hih
    rw [← hF1] at hih
    have s4 : IntKind.i64.wrap ((f : Int) + 1) = (f : Int) + 1 := IntWalk.i64_in _ (by omega)
    have HXs := Lib.hid hXs
    generalize covB la f s.lo = A at *
    generalize covB lb f s.lo = B at *
    clear hF1 hT hXs hp1 hp2 HI HC
    obtain ⟨z, hz⟩ : ∃ z, (!T.isEmpty) = z := ⟨_, rfl⟩
    have hih2 := fun v1 v2 H w ht hb h1 h2 => (hih v1 v2 H w ht hb h1 h2).mono (fun e w' h => show ∃ h' : Nat → Int, e = .returned (.bool z) ∧ Keep [q] w w' ∧ Blk w' q (fcs h') 158 ∧ Hid (∀ k, k < f + 1 → h' k = H k) ∧ Hid (LowsOf T (f + 1) h') by rw [← hz]; obtain ⟨h', h1, h2, h3, h4, h5⟩ := h; exact ⟨h', h1, h2, h3, Lib.hid h4, Lib.hid h5⟩)
    have HZ := Lib.hid hz
    have HQT := Lib.hid hqt
    clear hih hz hqt
    go_upto_region 10 with (first | refine ldN ?_ | (refine st1N hO ?_; clear hO; intro wv hO) | (go_at_call 153; refine (htp _ (hO.tops ht hM)).mono ?_; rintro e _ ⟨rfl, rfl⟩))
    obtain ⟨H1, hH1⟩ : ∃ H1, fupd H f s.lo = H1 := ⟨_, rfl⟩
    rw [hH1] at hO
    have c5 : (fcs H1)[f]? = some (.int .u32 s.lo) := by rw [← hH1, fcs_at _ hf]; simp [fupd]
    have HH1 := Lib.hid hH1
    clear hH1 c1 g2
    (try simp only [Act.put])
    refine wp_region_any (by kernel_rfl) ?_
    replace hO := hO.drew
    have ix9 := Ix.mk [0, 1, 2, 3, 4, 5]
    iterate 6 (refine wpAny_tk ix9 ?_; replace ix9 := ix9.tail; (first | go_big_quiet_skip | (go_big_quiet_want; (go_big_quiet_op; (first | go_big_quiet_on | ((refine ⟨_, fun _ _ => rfl, ?_⟩); go_big_quiet_on))))); (refine wpQuiet_nil ?_); (try simp only [Act.put]); (try simp only [sI9, sZ9, sS9]))
    clear ix9
    refine wpAny_takeNil 6 rfl rfl (by kernel_rfl) (by kernel_rfl) (by kernel_rfl) (by intro c d v a w h; cases d <;> exact h) (by rfl) rfl ?_
    (try simp only [Act.put]); (try simp only [sI9, sZ9, sS9])
    have ix9 := Ix.mk [7, 10, 11, 12, 13]
    iterate 5 (refine wpAny_tk ix9 ?_; replace ix9 := ix9.tail; (first | go_big_quiet_skip | (go_big_quiet_want; (go_big_quiet_op; (first | go_big_quiet_on | ((refine ⟨_, fun _ _ => rfl, ?_⟩); go_big_quiet_on))))); (refine wpQuiet_nil ?_); (try simp only [Act.put]); (try simp only [sI9, sZ9, sS9]))
    clear ix9
    refine wpAny_takeNil 14 rfl rfl (by kernel_rfl) (by kernel_rfl) (by kernel_rfl) (by intro c d v a w h; cases d <;> exact h) (by rfl) rfl ?_
    (try simp only [Act.put]); (try simp only [sI9, sZ9, sS9])
    have ix9 := Ix.mk [15, 18, 19]
    iterate 3 (refine wpAny_tk ix9 ?_; replace ix9 := ix9.tail; (first | go_big_quiet_skip | (go_big_quiet_want; (go_big_quiet_op; (first | go_big_quiet_on | ((refine ⟨_, fun _ _ => rfl, ?_⟩); go_big_quiet_on))))); (refine wpQuiet_nil ?_); (try simp only [Act.put]); (try simp only [sI9, sZ9, sS9]))
    clear ix9
    refine wpAny_all (rs := [8, 16]) (by kernel_rfl) (by simp) (ord_cons ?_ (ord_cons ?_ ord_nil))
    rotate_left 2
    all_goals
     refine wpOp_of_listL rfl ?_
     (refine ldN ?_); (try simp only [Act.put]); (try simp only [sI9, sZ9, sS9])
     refine wpList_done (qk_intro ?_)
    refine wpAny_all (rs := [9, 16]) (by kernel_rfl) (by simp) (ord_cons ?_ (ord_cons ?_ ord_nil))
    rotate_left 2
    refine wpAny_1 8 ?_
    rotate_left 1
    all_goals
     refine wpOp_of_listL rfl ?_
     (first | refine ldN ?_ | ((refine wpList_step (fun K hK => ?_)); go_simp; ((go_at_call 201; (with_reducible refine (hcvA _ (hO.isB hfa.out (fun q hq => List.mem_cons_of_mem _ (HMA.out q hq)))).mono ?_); rintro e wv ⟨v1, rfl, ⟨hv9, hn9⟩, hb9⟩; have hfv1 := hv9.form; replace hO := hO.gainB hb9 hv9 hn9; clear hb9 hv9 hn9); (try simp only []); (refine hK _ _ ?_); clear hK K))); (try simp only [Act.put]); (try simp only [sI9, sZ9, sS9])
     refine wpList_done (qk_intro ?_)
    refine wpAny_1 16 ?_
    rotate_left 1
    refine wpAny_1 9 ?_
    rotate_left 1
    refine wpAny_1 9 ?_
    rotate_left 1
    all_goals
     refine wpOp_of_listL rfl ?_
     (first | refine ldN ?_ | ((refine wpList_step (fun K hK => ?_)); go_simp; ((go_at_call 201; (with_reducible refine (hcvA _ (hO.isB hfa.out (fun q hq => List.mem_cons_of_mem _ (HMA.out q hq)))).mono ?_); rintro e wv ⟨v1, rfl, ⟨hv9, hn9⟩, hb9⟩; have hfv1 := hv9.form; replace hO := hO.gainB hb9 hv9 hn9; clear hb9 hv9 hn9); (try simp only []); (refine hK _ _ ?_); clear hK K))); (try simp only [Act.put]); (try simp only [sI9, sZ9, sS9])
     refine wpList_done (qk_intro ?_)
    refine wpAny_1 17 ?_
    rotate_left 1
    refine wpAny_1 17 ?_
    rotate_left 1
    refine wpAny_1 17 ?_
    rotate_left 1
    all_goals
     refine wpOp_of_listL rfl ?_
     ((refine wpList_step (fun K hK => ?_)); go_simp; ((go_at_call 201; (with_reducible refine (hcvB _ (hO.isB hfb.out (fun q hq => List.mem_append_right _ (List.mem_cons_of_mem _ (HMB.out q hq))))).mono ?_); rintro e wv ⟨v2, rfl, ⟨hv9, hn9⟩, hb9⟩; have hfv2 := hv9.form; replace hO := hO.gainB hb9 hv9 hn9; clear hb9 hv9 hn9); (try simp only []); (refine hK _ _ ?_); clear hK K))
     refine wpList_done (qk_intro ?_)
    refine wpAny_1 20 ?_
    rotate_left 1
    refine wpAny_1 20 ?_
    rotate_left 1
    refine wpAny_1 20 ?_
    rotate_left 1
    all_goals
     refine wpOp_of_listL rfl ?_
     ((refine wpList_step (fun K hK => ?_)); go_simp; ((go_at_call 166; (with_reducible refine (hih2 v1 v2 H1 _ (hO.tops ht hM) (hO.chunk _ List.mem_cons_self) (hO.boxesQ List.mem_cons_self hfv1 (fun q hq => List.mem_append_right _ (List.mem_append_left _ hq))) (hO.boxesQ List.mem_cons_self hfv2 (fun q hq => List.mem_append_left _ hq))).mono ?_); rintro e wv ⟨H2, rfl, hk9, hb9, hl9, hw9⟩; replace hO := hO.after .here hk9 hb9; clear hk9 hb9); (try simp only []); (refine hK _ _ ?_); clear hK K))
     refine wpList_done (qk_intro ?_)
    refine wpAny_done (by kernel_rfl) ?_ _
    rotate_left
    refine wpAny_done (by kernel_rfl) ?_ _
    rotate_left
    refine wpAny_done (by kernel_rfl) ?_ _
    rotate_left
    all_goals
     cases z
     ·have hT0 := Lib.hid (show T = [] by have := HZ.out; cases T <;> simp_all)
      go_wp2_with fail
      go_roundw
      case rel =>
       refine ⟨i + 1, H2, by omega, by go_num, Lib.hid (fun k hk => ?_), Lib.hid (fun j t hj ht => ?_), hO.sub (.refl _) (.refl _) (fun q hq => List.mem_append_right _ (List.mem_append_right _ hq))⟩
       ·rw [hl9.out k (by omega), ← HH1.out, ← HK.out k hk]
        unfold fupd; rw [if_neg (by omega)]
       ·rcases Nat.lt_or_ge j i with h9 | h9
        ·exact H0.out j t h9 ht
        ·obtain rfl : j = i := by omega
         rw [hs] at ht
         obtain rfl := Option.some.inj ht
         rw [HTT.out, hT0.out]
      case measure => simp [intOf]; omega
     ·obtain ⟨x, xs, hx⟩ : ∃ x xs, T = x :: xs := by have := HZ.out; cases T <;> simp_all
      subst hx
      obtain ⟨r, ys, rfl, hr⟩ := HXs.out x xs hs H0.out HTT.out
      go_wp2_with fail
      go_ret
      refine ⟨H2, rfl, hO.keep, hO.chunk _ List.mem_cons_self, fun k hk => ?_, lows_next hf hw9.out ?_⟩
      ·rw [hl9.out k (by omega), ← HH1.out, ← HK.out k hk]
       unfold fupd; rw [if_neg (by omega)]
      ·rw [hl9.out f (by omega), ← HH1.out, hr]
       unfold fupd; rw [if_pos rfl]
   ·have hiN : i = N := by omega
    subst hiN
    have c1 : (ul P)[i]? = some (.int .u64 (top + 1)) := by simp [ul, HL.out]
    have g2 : decide (top < top + 1) = true := decide_eq_true (by omega)
    have hD : D = [] := HE.out (fun j t ht => H0.out j t (by have := (List.getElem?_eq_some_iff.1 ht).1; have := HSl.out; omega) ht)
    subst hD
    go_wp2_with (first | refine ldN ?_ | (go_at_call 153; refine (htp _ (hO.tops ht hM)).mono ?_; rintro e _ ⟨rfl, rfl⟩))
    go_ret
    exact ⟨H, rfl, hO.keep, hO.chunk _ List.mem_cons_self, HK.out, fun _ _ hx => by cases hx⟩
def hdTo (p : Nat → Int) : Nat → Hd
 | 0 => ⟨0, 0, 0, 0, 0⟩
 | 1 => ⟨p 0, 0, 0, 0, 0⟩
 | 2 => ⟨p 0, p 1, 0, 0, 0⟩
 | 3 => ⟨p 0, p 1, p 2, 0, 0⟩
 | 4 => ⟨p 0, p 1, p 2, p 3, 0⟩
 | _ => ⟨p 0, p 1, p 2, p 3, p 4⟩
theorem hdTo_ok {p : Nat → Int} (hp : okP p) {k : Nat} (hk : k < 5) : (hdTo p k).ok := by
 have h0 := hp 0 (by omega)
 have h1 := hp 1 (by omega)
 have h2 := hp 2 (by omega)
 have h3 := hp 3 (by omega)
 simp only [topOf] at h0 h1 h2 h3
 rcases five hk with rfl | rfl | rfl | rfl | rfl <;> (simp only [hdTo, Hd.ok]; omega)
theorem hdTo_next {p : Nat → Int} (hp : okP p) {k : Nat} (hk : k < 5) : withHd (hdTo p k) k (p k) = hdTo p (k + 1) := by
 have h := (hp k hk).2
 rw [withHd, if_pos ⟨by omega, by omega, by rwa [Int.toNat_natCast]⟩, Int.toNat_natCast]
 rcases five hk with rfl | rfl | rfl | rfl | rfl <;> rfl
def firstH (D : List Bx) : Hd := match D with
 | [] => ⟨0, 0, 0, 0, 0⟩
 | x :: _ => hdTo (fun k => (x.at k).lo) 5
theorem Own.neTops {w0 w : World} {X : List Chunk} {R : List Row} {S : List Ro} (hO : Own [] w0 X R S w) (ht : Tops w0) {n : Nat} {cs : List Value} {t : TypeId} (hm : (⟨n, cs, t⟩ : Chunk) ∈ X) : n ≠ 0 := fun e => by
 have h1 := hO.free n (List.mem_append.2 (.inl (List.mem_map.2 ⟨_, hm, rfl⟩)))
 have h2 := ht.lt
 rcases h1 with h1 | h1
 ·cases h1
 ·omega
theorem idx_five {p : Nat → Int} {k : Nat} (h : k < 5) (w : World) : Sem.run Tryz.prog (Instr.index 158 (.agg (fcs p).toArray) (.int .i64 k)) w = .ok (.int .u32 (p k)) w := by
 rcases five h with rfl | rfl | rfl | rfl | rfl <;> rfl
set_option maxHeartbeats 8000000 in
theorem first_any {m : Nat} {op : Bool → Bool → Bool} (hop : OpC m op) {va vb : Value} {la lb : List Bx} (w : World) (ht : Tops w) (hva : IsBoxes w va la) (hvb : IsBoxes w vb lb) (ka : okL la) (kb : okL lb) (na : la.length ≤ 1000000000000) (nb : lb.length ≤ 1000000000000) :
  Calls Tryz.prog 112 #[va, vb, .func (.func m) #[] #[]] w fun e w' => e = .returned (.tuple #[hv (firstH (canonF op 0 5 (valF la) (valF lb))), .bool (!(canonF op 0 5 (valF la) (valF lb)).isEmpty)]) ∧ Below w.heap.size w w' := by
 have hO := own_start [] w
 have h0a := fun w ht hv => vals_any (vl := va) (l := la) w ht hv na
 have h0b := fun w ht hv => vals_any (vl := vb) (l := lb) w ht hv nb
 have hl : ∀ (v1 v2 : Value) (q : Nat) (h : Nat → Int) (w : World), Tops w → q ≠ 0 → Blk w q (fcs h) 158 → BoxesQ q w v1 (valF la) → BoxesQ q w v2 (valF lb) → Calls Tryz.prog 166 #[.int .i64 0, v1, v2, .func (.func m) #[] #[], .pointer (some ⟨q, 0, none⟩)] w (LeastPost q w h (canonF op 0 5 (valF la) (valF lb)) 0) :=
  fun v1 v2 q h w ht hq hb h1 h2 => least_any hop 5 0 rfl v1 v2 (valF la) (valF lb) q h w ht hq hb h1 h2 (valF_vL ka) (valF_vL kb) (Nat.le_trans (valF_le la) na) (Nat.le_trans (valF_le lb) nb)
 have hcv := (canonF_cn op 5 0 rfl (valF_vL ka) (valF_vL kb)).valid rfl
 generalize canonF op 0 5 (valF la) (valF lb) = D at *
 generalize valF la = A at *
 generalize valF lb = B at *
 have HVa := Lib.hid hva
 have HVb := Lib.hid hvb
 clear hva hvb
 have hwa := with_all
 go_enter Tryz.func112, Tryz.ntmps112
 cases D with
 | nil =>
  go_wp2_with (first | refine ldN ?_ | (refine stN hO ?_; clear hO; intro wv hO) | (refine al9 6 hO ?_; clear hO; intro n6 wv hO) | (refine al9 8 hO ?_; clear hO; intro n8 wv hO) | (refine al9 9 hO ?_; clear hO; intro n9 wv hO) | (go_at_call 145; (with_reducible refine (h0a _ (hO.tops ht (by simp)) (HVa.out.keep0 hO)).mono ?_); rintro e wv ⟨v1, rfl, ⟨hv9, hn9⟩, hb9⟩; have hf1 := hv9.form; replace hO := hO.gainB hb9 hv9 hn9; clear hb9 hv9 hn9 h0a) | (go_at_call 145; (with_reducible refine (h0b _ (hO.tops ht (by simp)) (HVb.out.keep0 hO)).mono ?_); rintro e wv ⟨v2, rfl, ⟨hv9, hn9⟩, hb9⟩; have hf2 := hv9.form; replace hO := hO.gainB hb9 hv9 hn9; clear hb9 hv9 hn9 h0b) | (go_at_call 166; (with_reducible refine (hl v1 v2 _ _ _ (hO.tops ht (by simp)) (hO.neTops (cs := fcs fun _ => 0) (t := 158) ht (by (repeat (first | exact List.mem_cons_self | refine List.mem_cons_of_mem _ ?_)))) (hO.chunk ⟨n8, fcs fun _ => 0, 158⟩ (by (repeat (first | exact List.mem_cons_self | refine List.mem_cons_of_mem _ ?_)))) (hO.boxesQ (cs := fcs fun _ => 0) (t := 158) (by (repeat (first | exact List.mem_cons_self | refine List.mem_cons_of_mem _ ?_))) hf1 (by intro q hq; repeat (first | exact List.mem_append_left _ hq | apply List.mem_append_right))) (hO.boxesQ (cs := fcs fun _ => 0) (t := 158) (by (repeat (first | exact List.mem_cons_self | refine List.mem_cons_of_mem _ ?_))) hf2 (by intro q hq; repeat (exact List.mem_append_left _ hq)))).mono ?_); rintro e wv ⟨H2, rfl, hk9, hb9, -, hlo9⟩; replace hO := hO.after (by (repeat (first | exact Upd.here | apply Upd.there))) hk9 hb9; clear hk9 hb9 hl))
  exact bodyPost_ret (own_res_cell_tmp hO Tryz.results112 rfl (by (repeat (first | exact List.mem_cons_self | refine List.mem_cons_of_mem _ ?_))) (by (exact row_len (by (with_reducible (exact row_Header))) (by rfl))) rfl rfl) rfl ⟨rfl, hO.keep.below⟩
 | cons x xs =>
  obtain ⟨p, hp⟩ : ∃ p : Nat → Int, p = fun k => (x.at k).lo := ⟨_, rfl⟩
  have hok : okP p := fun k hk => by have := hcv x (by simp) k hk; rw [hp]; dsimp only; omega
  have hF : firstH (x :: xs) = hdTo p 5 := by rw [hp]; rfl
  rw [hF]
  clear hF
  have hwg : ∀ (k : Nat), k < 5 → ∀ w, Tops w → Calls Tryz.prog 167 #[hv (hdTo p k), .int .i64 k, .int .u32 (p k)] w fun e w' => e = .returned (hv (hdTo p (k + 1))) ∧ Below w.heap.size w w' := fun k hk w ht => by
   have := with_all (hdTo p k) k (p k) w ht (hdTo_ok hok hk) (hok k hk).1
   rwa [hdTo_next hok hk] at this
  have HW := Lib.hid hwg
  have HP := Lib.hid hp
  clear hwg hwa hok hp
  go_wp2_with (first | refine ldN ?_ | (refine al9 6 hO ?_; clear hO; intro n6 wv hO) | (refine al9 8 hO ?_; clear hO; intro n8 wv hO) | (refine al9 9 hO ?_; clear hO; intro n9 wv hO) | (go_at_call 145; (with_reducible refine (h0a _ (hO.tops ht (by simp)) (HVa.out.keep0 hO)).mono ?_); rintro e wv ⟨v1, rfl, ⟨hv9, hn9⟩, hb9⟩; have hf1 := hv9.form; replace hO := hO.gainB hb9 hv9 hn9; clear hb9 hv9 hn9 h0a) | (go_at_call 145; (with_reducible refine (h0b _ (hO.tops ht (by simp)) (HVb.out.keep0 hO)).mono ?_); rintro e wv ⟨v2, rfl, ⟨hv9, hn9⟩, hb9⟩; have hf2 := hv9.form; replace hO := hO.gainB hb9 hv9 hn9; clear hb9 hv9 hn9 h0b) | (go_at_call 166; (with_reducible refine (hl v1 v2 _ _ _ (hO.tops ht (by simp)) (hO.neTops (cs := fcs fun _ => 0) (t := 158) ht (by (repeat (first | exact List.mem_cons_self | refine List.mem_cons_of_mem _ ?_)))) (hO.chunk ⟨n8, fcs fun _ => 0, 158⟩ (by (repeat (first | exact List.mem_cons_self | refine List.mem_cons_of_mem _ ?_)))) (hO.boxesQ (cs := fcs fun _ => 0) (t := 158) (by (repeat (first | exact List.mem_cons_self | refine List.mem_cons_of_mem _ ?_))) hf1 (by intro q hq; repeat (first | exact List.mem_append_left _ hq | apply List.mem_append_right))) (hO.boxesQ (cs := fcs fun _ => 0) (t := 158) (by (repeat (first | exact List.mem_cons_self | refine List.mem_cons_of_mem _ ?_))) hf2 (by intro q hq; repeat (exact List.mem_append_left _ hq)))).mono ?_); rintro e wv ⟨H2, rfl, hk9, hb9, -, hlo9⟩; replace hO := hO.after (by (repeat (first | exact Upd.here | apply Upd.there))) hk9 hb9; have hH : fcs H2 = fcs p := fcs_congr (fun k hk => by rw [hlo9 x xs rfl k (by omega) hk, HP.out]); rw [hH] at hO; clear hk9 hb9 hl hH hlo9))
  go_loopw [21] (fun q21 wr => ∃ k : Nat, k ≤ 5 ∧ q21 = .int .i64 k ∧ Own [] w [⟨n9, hcs (hdTo p k), 48⟩, ⟨n8, fcs p, 158⟩, ⟨n6, [.int .u32 0, .int .u32 0, .int .u8 0, .int .u16 0, .int .u16 0], 48⟩] [] [] wr) (fun q21 _ => 5 - (intOf q21).toNat)
  case atStart => exact ⟨0, by omega, rfl, hO.sub (.refl _) (.refl _) (fun _ h => by cases h)⟩
  case round =>
   clear hO
   obtain ⟨k, hk, rfl, hO⟩ := hrel
   have s2 : IntKind.i64.wrap ((k : Int) + 1) = (k : Int) + 1 := IntWalk.i64_in _ (by omega)
   by_cases hlt : k < 5
   ·have g1 : decide ((k : Int) < 5) = true := decide_eq_true (by omega)
    have y1 : (0 : Int) ≤ (k : Int) := by omega
    have y2 : (k : Int) < 5 := by omega
    have c5 := fun w => idx_five (p := p) hlt w
    have hwk := HW.out k hlt
    go_wp2_with (first | refine ldN ?_ | (refine stN hO ?_; clear hO; intro wv hO) | (go_at_call 167; refine (hwk _ (hO.tops ht (by simp))).mono ?_; rintro e wv ⟨rfl, hb⟩; replace hO := hO.call hb; clear hb))
    go_roundw
    case rel => exact ⟨k + 1, by omega, by go_num, hO⟩
    case measure => simp [intOf]; omega
   ·obtain rfl : k = 5 := by omega
    have g1 : decide (((5 : Nat) : Int) < 5) = false := by decide
    go_wp2_with (first | refine ldN ?_ | (refine stN hO ?_; clear hO; intro wv hO))
    exact bodyPost_ret (own_res_cell_tmp hO Tryz.results112 rfl (by (repeat (first | exact List.mem_cons_self | refine List.mem_cons_of_mem _ ?_))) (by (exact row_len (by (with_reducible (exact row_Header))) (by rfl))) rfl rfl) rfl ⟨rfl, hO.keep.below⟩
theorem psSubset_any {va vb : Value} {la lb : List Bx} (w : World) (ht : Tops w) (hva : IsBoxes w va la) (hvb : IsBoxes w vb lb) (ka : okL la) (kb : okL lb) (na : la.length ≤ 1000000000000) (nb : lb.length ≤ 1000000000000) :
  Calls Tryz.prog 81 #[va, vb] w fun e w' => e = .returned (.bool (canonF exB 0 5 (valF la) (valF lb)).isEmpty) ∧ Below w.heap.size w w' := by
 have hO := own_start [] w
 have h1 := fun w ht hva hvb => first_any op_without (va := va) (vb := vb) (la := la) (lb := lb) w ht hva hvb ka kb na nb
 generalize firstH (canonF exB 0 5 (valF la) (valF lb)) = fh at *
 generalize (canonF exB 0 5 (valF la) (valF lb)).isEmpty = b at *
 cases b
 all_goals
  go_enter Tryz.func81, Tryz.ntmps81
  go_wp2_with (first | (refine stN hO ?_; clear hO; intro wv hO) | (refine al9 5 hO ?_; clear hO; intro n5 wv hO) | (go_at_call 112; refine (h1 _ (hO.tops ht (by simp)) (hva.keep0 hO) (hvb.keep0 hO)).mono ?_; rintro e wv ⟨rfl, hb⟩; replace hO := hO.call hb; clear hb))
  go_ret
  exact ⟨rfl, hO.keep.below⟩
theorem huge_any {vl : Value} {l : List Bx} (w : World) (hv : IsBoxes w vl l) : Calls Tryz.prog 37 #[vl] w fun e w' => e = .returned (.bool (decide (6 < l.length))) ∧ w = w' := by
 obtain ⟨a, c, rfl, -⟩ := hv.view
 clear hv
 have hb : decide ((6 : Int) < (l.length : Int)) = decide (6 < l.length) := decide_eq_decide.2 (by omega)
 have HB := Lib.hid hb
 clear hb
 go_enter Tryz.func37, Tryz.ntmps37
 go_wp2_with fail
 go_ret
 exact ⟨ret_bool HB.out, rfl⟩
end Go.Proofs.YtbdfblgdmappeaaGreatDoor
namespace Go.Proofs.YtbdfblgdmappeaaGreatDoor
open Go.ChangeShapes Go.WideShapes Go.ChangeAt Go.RowKit
set_option maxRecDepth 100000
theorem addr_add (g o i : Nat) : (⟨g, o, none⟩ : Addr).add i = ⟨g, o + i, none⟩ := by
 unfold Addr.add
 by_cases h0 : i = 0
 ·rw [if_pos h0, h0]; rfl
 ·rw [if_neg h0]
theorem mapM_get {α β : Type} (f : α → Option β) : ∀ (l : List α) (r : List β), l.mapM f = some r → ∀ (j : Nat) (u : β), ∀ (_ : r[j]? = some u), ∃ x, l[j]? = some x ∧ f x = some u
 | [], r, h, j, u, hj => by
  simp at h
  subst h
  simp at hj
 | x :: l, r, h, j, u, hj => by
  rw [List.mapM_cons] at h
  simp only [Option.bind_eq_bind, Option.bind_eq_some_iff, Option.pure_def, Option.some.injEq] at h
  obtain ⟨y, hy, ys, hys, rfl⟩ := h
  cases j with
  | zero =>
   simp at hj
   subst hj
   exact ⟨x, rfl, hy⟩
  | succ j => exact mapM_get f l ys hys j u (by simpa using hj)
theorem range_of_cells {w : World} {base g o n : Nat} {cs : List Value} (h : w.cells? base ⟨g, o, none⟩ n = some cs) : w.rangeAt g o cs := by
 unfold World.cells? at h
 split at h
 ·intro j u hj
  obtain ⟨x, hx, hf⟩ := mapM_get _ _ _ h j u hj
  rw [List.getElem?_range (by
   have := (List.getElem?_eq_some_iff.1 hx).1
   simpa using this)] at hx
  obtain rfl := Option.some.inj hx
  rw [addr_add] at hf
  exact hf
 ·cases h
theorem range_cellsB {w : World} {g : Nat} : ∀ (l : List Bx) (o : Nat), (∀ i b, l[i]? = some b → w.rangeAt g (o + 10 * i) (bcs b)) → w.rangeAt g o (cellsB l)
 | [], o, _ => fun j u hj => by simp [cellsB] at hj
 | b :: l, o, h => by
  have h0 := h 0 b rfl
  have ih := range_cellsB l (o + 10) fun i c hc => by
   have := h (i + 1) c (by simpa using hc)
   rwa [show o + 10 + 10 * i = o + 10 * (i + 1) by omega]
  have hl : (bcs b).length = 10 := rfl
  intro j u hj
  simp only [cellsB] at hj
  by_cases hj10 : j < 10
  ·rw [List.getElem?_append_left (by omega)] at hj
   exact h0 j u hj
  ·rw [List.getElem?_append_right (by omega), hl] at hj
   have := ih (j - 10) u hj
   rwa [show o + 10 + (j - 10) = o + j by omega] at this
section
variable {H : Type} {enc : TypeId × Value → H} {w : World} {base : Nat} {spare : Nat → Bool} {held : Bool}
theorem isBoxes_of {r : Reach} {b0 : Nat} {v : Value} {d : DataW H} {p : List MemPlace} (hv : Value.okWide Tryz.prog w r b0 81 v) (h : DataW.Trod enc Tryz.prog w base spare held 81 v d p) :
  ∃ l : List Bx, IsBoxes w v l ∧ (∀ b ∈ l, b.ok) ∧ l.length ≤ 9223372036854775807 := by
 obtain ⟨n, hn⟩ := h
 have c10 : (Tryz.prog).cellsOf 98 = 10 := by kernel_rfl
 rcases DataW.trod_slice Tryz.underlying81 hn with ⟨h1, _⟩ | ⟨a, len, cap, elems, rest, m, _, h1, _, _, hlc, hcm, hlen, hel, _, _⟩
 ·have : v = .slice none 0 0 := by
   cases v with
   | slice a l c => simpa [Value.cells] using h1
   | agg cs => exfalso; simp only [Value.okWide, Tryz.underlying81] at hv; (try (obtain ⟨_, _, _, h, _⟩ := hv; cases h)); (try (cases hv))
   | _ => simp [Value.cells] at h1
  subst this
  exact ⟨[], .inl ⟨rfl, rfl⟩, (fun x hx => by cases hx), by simp⟩
 ·have hvs : v = .slice (some a) len cap := by
   cases v with
   | slice a' l c => simpa [Value.cells] using h1
   | agg cs => exfalso; simp only [Value.okWide, Tryz.underlying81] at hv; (try (obtain ⟨_, _, _, h, _⟩ := hv; cases h)); (try (cases hv))
   | _ => simp [Value.cells] at h1
  subst hvs
  have hsp : a.spot = none := by
   unfold Value.okWide at hv
   rw [Tryz.underlying81] at hv
   unfold Cell.okWide at hv
   rw [Tryz.underlying81] at hv
   unfold Cell.ok at hv
   rw [Tryz.underlying81] at hv
   exact hv.2.2.2.1
  obtain ⟨g, o, sp⟩ := a
  dsimp only at hsp
  subst hsp
  have each : ∀ i, i < len → ∃ b : Bx, b.ok ∧ w.rangeAt g (o + 10 * i) (bcs b) := fun i hi => by
   have h2 := hel i hi
   rw [List.getElem?_eq_getElem (by omega), Option.bind_eq_some_iff] at h2
   obtain ⟨cs, hcs, hy⟩ := h2
   obtain ⟨b, rfl, hb⟩ := open_boxCells hy
   rw [addr_add, c10] at hcs
   refine ⟨b, hb, ?_⟩
   rw [Nat.mul_comm]
   exact range_of_cells hcs
  obtain ⟨f, hf⟩ : ∃ f : Nat → Bx, ∀ i, i < len → (f i).ok ∧ w.rangeAt g (o + 10 * i) (bcs (f i)) :=
   ⟨fun i => if h : i < len then Classical.choose (each i h) else zeroBx, fun i hi => by
    simp only [hi, dif_pos]
    exact Classical.choose_spec (each i hi)⟩
  have hl : ((List.range len).map f).length = len := by simp
  refine ⟨(List.range len).map f, .inr ⟨g, o, cap, by rw [hl], by rw [hl]; exact hlc, range_cellsB _ _ fun i b hb => ?_⟩, fun b hb => ?_, by rw [hl]; unfold maxLen at hcm; omega⟩
  ·have hi := (List.getElem?_eq_some_iff.1 hb).1
   rw [hl] at hi
   rw [List.getElem?_map, List.getElem?_range hi] at hb
   obtain rfl : f i = b := by simpa using hb
   exact (hf i hi).2
  ·obtain ⟨i, hi, rfl⟩ := List.mem_map.1 hb
   exact (hf i (by simpa using hi)).1
end
end Go.Proofs.YtbdfblgdmappeaaGreatDoor
namespace Go.Proofs.YtbdfblgdmappeaaGreatDoor
open Go.RowKit
theorem sub_iff {a b : List Bx} (ka : vL a) (kb : vL b) : (canonF exB 0 5 a b).isEmpty = true ↔ ∀ h, okP h → inq a h = true → inq b h = true := by
 have hv := (canonF_cn exB 5 0 rfl ka kb).valid rfl
 constructor
 ·intro h0 h hok h1
  have h2 := inq_canon (op := exB) hok ka kb
  rw [List.isEmpty_iff.1 h0, inq_nil, h1] at h2
  cases hb : inq b h
  ·rw [hb] at h2; cases h2
  ·rfl
 ·intro H
  cases hD : canonF exB 0 5 a b with
  | nil => rfl
  | cons x xs =>
   exfalso
   rw [hD] at hv
   have hx := hv x (by simp)
   have hok : okP fun k => (x.at k).lo := fun k hk => by have := hx k hk; dsimp only; omega
   have h2 := inq_canon (op := exB) hok ka kb
   rw [hD, inq_iff.2 (inL_lows hx)] at h2
   cases h1 : inq a fun k => (x.at k).lo
   ·rw [h1] at h2; cases h2
   ·rw [h1, H _ hok h1] at h2; cases h2
theorem make_set {l x : List Bx} (kl : okL l) (h : makeF l = some x) : IsSet x ∧ ∀ p, okP p → inq x p = inq (valF l) p := by
 obtain ⟨h1, h2, h3⟩ := makeGo_spec (cn_nil 0 5) (by simp) (valF_vL kl) h
 exact ⟨⟨h1.valid rfl, h2, h1⟩, fun p hp => by rw [h3 p hp, inq_nil, Bool.false_or]⟩
theorem IsSet.make {x : List Bx} (h : IsSet x) : makeF x = some x := by
 unfold makeF
 rw [valF_id h.1]
 exact makeGo_canon h.2.2 h.2.1
theorem IsSet.val {x : List Bx} (h : IsSet x) : validF x = true := by
 unfold validF
 rw [valF_id h.1, (dvd_zero h.1).2 h.2.2]
 simp [h.2.1]
end Go.Proofs.YtbdfblgdmappeaaGreatDoor
