/- Package filter: Valid, Decide, Of. -/
import Derived.Test.YtbdfblgdmappeaaGreatDoorOB
import Derived.Test.YtbdfblgdmappeaaGreatDoorMS
namespace Go.Proofs.YtbdfblgdmappeaaGreatDoor
open Go.RowKit
set_option maxRecDepth 100000
def validT (t : List Rul) : Bool := t.all (fun r => vld r.1) && decide (t.length ≤ 4096)
theorem all_take {α : Type} {p : α → Bool} {l : List α} {k : Nat} (h : k < l.length) (h1 : (l.take k).all p = true) (h2 : p l[k] = true) : (l.take (k + 1)).all p = true := by
 rw [List.take_succ_eq_append_getElem h, List.all_append, h1, List.all_cons, h2]; rfl
theorem all_not {α : Type} {p : α → Bool} {l : List α} {k : Nat} (h : k < l.length) (h2 : p l[k] = false) : l.all p = false := by
 rw [List.all_eq_false]; exact ⟨_, List.getElem_mem h, by rw [h2]; simp⟩
set_option maxHeartbeats 2000000 in
theorem fValid_any {vt : Value} {t : List Rul} (w : World) (ht : Tops w) (hv : IsTable w vt t) (hl : t.length ≤ 9223372036854775806) :
  Calls Tryz.prog 43 #[vt] w fun e w' => e = .returned (.bool (validT t)) ∧ Below w.heap.size w w' := by
 have hO := own_argR hv
 obtain ⟨a, c, rfl, ha⟩ := hv.view
 clear hv
 unfold validT
 go_enter Tryz.func43, Tryz.ntmps43
 go_wp2_with fail
 go_loopw [7] (fun i wr => ∃ k : Nat, k ≤ t.length ∧ i = .int .i64 k ∧ Hid ((t.take k).all (fun r => vld r.1) = true) ∧ Own [] w [] [] (roS (.slice a t.length c) (cellsR t)) wr) (fun i _ => t.length - (intOf i).toNat)
 case atStart => exact ⟨0, by omega, rfl, Lib.hid rfl, hO⟩
 case round =>
  clear hO
  obtain ⟨k, hk, rfl, HA, hO⟩ := hrel
  by_cases hlt : k < t.length
  ·obtain ⟨g, o, rfl⟩ := ha (by omega)
   simp only [roS] at hO
   have hvv := fun w ht => valid_any t[k].1 w ht
   have t1 := tk_rule t hlt
   cases hb : vld t[k].1
   ·rw [hb] at hvv
    have HF := Lib.hid (all_not (p := fun r : Rul => vld r.1) hlt hb)
    clear hb
    generalize t[k] = r at *
    go_wp2_with (first | refine ldNT ?_ | (refine stNT hO ?_; clear hO; intro wv hO) | (refine al9T 4 hO ?_; clear hO; intro n4 wv hO) | (go_at_call 100; refine (hvv _ (hO.tops ht (by simp))).mono ?_; rintro e wv ⟨rfl, hb⟩; replace hO := hO.call hb; clear hb))
    go_ret
    exact ⟨by rw [HF.out]; rfl, hO.keep.below⟩
   ·rw [hb] at hvv
    have HF := Lib.hid (all_take (p := fun r : Rul => vld r.1) hlt HA.out hb)
    clear hb
    generalize t[k] = r at *
    go_wp2_with (first | refine ldNT ?_ | (refine stNT hO ?_; clear hO; intro wv hO) | (refine al9T 4 hO ?_; clear hO; intro n4 wv hO) | (go_at_call 100; refine (hvv _ (hO.tops ht (by simp))).mono ?_; rintro e wv ⟨rfl, hb⟩; replace hO := hO.call hb; clear hb))
    go_roundw
    case rel => exact ⟨k + 1, by omega, by go_num, HF, hO.sub (.cons _ (.refl _)) (.refl _) (fun _ h => h)⟩
    case measure => simp [intOf]; omega
  ·obtain rfl : k = t.length := by omega
   rw [List.take_length] at HA
   go_wp2_with fail
   go_ret
   exact ⟨ret_bool (by rw [HA.out, Bool.true_and]; exact decide_eq_decide.2 (by omega)), hO.keep.below⟩
def decI (t : List Rul) (h : Hd) : Int := match decN t h with
 | none => -1
 | some i => i
theorem decI_here {t : List Rul} {h : Hd} : ∀ {k : Nat} (hk : k < t.length), (∀ r ∈ t.take k, hasB r.1 h = false) → hasB t[k].1 h = true → decN t h = some k := by
 induction t with
 | nil => intro k hk; simp at hk
 | cons r t ih =>
  intro k hk h1 h2
  cases k with
  | zero => exact if_pos h2
  | succ k =>
   rw [decN, if_neg (by rw [h1 r (by simp)]; simp), ih (k := k) (by simpa using hk) (fun q hq => h1 q (by simp [hq])) h2]
   rfl
theorem decI_none {t : List Rul} {h : Hd} (h1 : ∀ r ∈ t, hasB r.1 h = false) : decN t h = none := by
 induction t with
 | nil => rfl
 | cons r t ih => rw [decN, if_neg (by rw [h1 r (by simp)]; simp), ih fun q hq => h1 q (by simp [hq])]; rfl
theorem miss_take {t : List Rul} {h : Hd} {k : Nat} (hk : k < t.length) (h1 : ∀ r ∈ t.take k, hasB r.1 h = false) (h2 : hasB t[k].1 h = false) : ∀ r ∈ t.take (k + 1), hasB r.1 h = false := fun r hr => by
 rw [List.take_succ_eq_append_getElem hk] at hr
 rcases List.mem_append.1 hr with hr | hr
 ·exact h1 r hr
 ·rw [List.mem_singleton.1 hr]; exact h2
theorem dec_here {t : List Rul} {h : Hd} {k : Nat} (hk : k < t.length) (h1 : ∀ r ∈ t.take k, hasB r.1 h = false) (h2 : hasB t[k].1 h = true) : decP t h = t[k].2 ∧ decI t h = k := by
 have h3 := decI_here hk h1 h2
 refine ⟨?_, by unfold decI; rw [h3]⟩
 rw [decP_N, h3]
 dsimp only
 rw [List.getElem?_eq_getElem hk]
theorem dec_none {t : List Rul} {h : Hd} (h1 : ∀ r ∈ t, hasB r.1 h = false) : decP t h = false ∧ decI t h = -1 := by
 have h3 := decI_none h1
 exact ⟨by rw [decP_N, h3], by unfold decI; rw [h3]⟩
theorem permF_drop {t : List Rul} {i : Nat} (h : i < t.length) : permF (t.drop i) = match permF (t.drop (i + 1)) with
  | none => none
  | some s => ofF (if t[i].2 then orB else exB) s [t[i].1] := by rw [List.drop_eq_getElem_cons h, permF]; rfl
theorem ecd_none : ecd none = 3 := rfl
theorem ecd_some (x : List Bx) : ecd (some x) = 0 := rfl
theorem permF_up : ∀ {t : List Rul} {i : Nat}, permF (t.drop i) = none → permF t = none
 | t, 0, h => by simpa using h
 | [], i + 1, h => by simpa using h
 | r :: t, i + 1, h => by rw [permF, permF_up (t := t) (i := i) (by simpa using h)]
set_option maxHeartbeats 8000000 in
theorem fPermitted_any {vt : Value} {t : List Rul} (w : World) (ht : Tops w) (hv : IsTable w vt t) (kt : okT t) (hl : t.length ≤ 1000000000000) :
  Calls Tryz.prog 56 #[vt] w (SetPost w (permF t)) := by
 have hO := own_argR hv
 have heU : ∀ (args : Array Value) (w : World), (callFunc 74 args).run Tryz.prog w = .ok (.enter 74 args) w := fun args w => by kernel_rfl
 have heS : ∀ (args : Array Value) (w : World), (callFunc 78 args).run Tryz.prog w = .ok (.enter 78 args) w := fun args w => by kernel_rfl
 have s0 : IntKind.i64.wrap ((t.length : Int) - 1) = (t.length : Int) - 1 := IntWalk.i64_in _ (by omega)
 obtain ⟨a, c, rfl, ha⟩ := hv.view
 clear hv
 go_enter Tryz.func56, Tryz.ntmps56
 go_wp2_with fail
 go_loopw [4, 5] (fun q4 q5 wr => ∃ (k : Nat) (s : List Bx), k ≤ t.length ∧ q5 = .int .i64 ((k : Int) - 1) ∧ Hid (permF (t.drop k) = some s) ∧ Hid (FormB q4 s) ∧ Hid (NewFrom w q4) ∧ Own [] w [] [] (roS q4 (cellsB s) ++ roS (.slice a t.length c) (cellsR t)) wr) (fun _ q5 _ => (intOf q5 + 1).toNat)
 case atStart => exact ⟨t.length, [], by omega, rfl, Lib.hid (by rw [List.drop_length]; rfl), Lib.hid (.inl ⟨rfl, rfl⟩), Lib.hid (fun g hg => by cases hg), hO.sub (.refl _) (.refl _) (fun q hq => by simpa [roS] using hq)⟩
 case round =>
  clear hO s0
  obtain ⟨k, s, hk, hq, HE, HFm, HN, hO⟩ := hrel
  cases k with
  | zero =>
   obtain rfl : u5 = .int .i64 (-1) := hq
   rw [List.drop_zero] at HE
   go_wp2_with fail
   go_ret2
   exact ⟨_, hO.keep.below, .inl ⟨s, HE.out, rfl, hO.isB HFm.out (fun q hq => List.mem_append_left _ hq), HN.out⟩⟩
  | succ j =>
   obtain rfl : u5 = .int .i64 (j : Int) := by rw [hq]; exact congrArg _ (by omega)
   clear hq
   have g1 : decide ((0 : Int) ≤ (j : Int)) = true := decide_eq_true (by omega)
   have s1 : IntKind.i64.wrap ((j : Int) - 1) = (j : Int) - 1 := IntWalk.i64_in _ (by omega)
   obtain ⟨g, o, rfl⟩ := ha (by omega)
   have hlt : j < t.length := by omega
   have hO2 := hO.sub (S' := ⟨g, o, cellsR t⟩ :: roS u4 (cellsB s)) (.refl _) (.refl _) (fun q hq => (List.mem_cons.1 hq).elim (fun h => List.mem_append_right _ (by rw [h]; exact List.mem_cons_self)) (fun h => List.mem_append_left _ h))
   replace hO := hO2
   clear hO2
   have kb := okL_one (kt _ (List.getElem_mem hlt))
   have hsp := (permF_spec (fun q hq => kt q (List.mem_of_mem_drop hq)) HE.out).1
   have ks := hsp.ok
   have ns := hsp.le
   have hdr := permF_drop hlt
   rw [HE.out] at hdr
   dsimp only at hdr
   have t1 := tk_match t hlt
   have t2 := cr_permit t hlt
   clear hsp HE
   generalize t[j] = r at *
   obtain ⟨b, p⟩ := r
   dsimp only at t1 t2 kb hdr
   cases p
   ·rw [if_neg Bool.false_ne_true] at hdr
    have h1 := fun v2 w ht ha hb => psSubtract_any (va := u4) (vb := v2) (la := s) (lb := [b]) w ht ha hb ks kb ns (by simp)
    cases hof : ofF exB s [b] with
    | none =>
     rw [hof] at h1 hdr
     have HR := Lib.hid (permF_up hdr)
     clear hdr hof
     go_wp2_with (first | refine ldNT ?_ | (refine' own_build1 (o := ⟨some 29, _, _, _, _, _⟩) hO (by rfl) rfl rfl ?hu ?hf ?_; (case hu => (with_reducible (exact Tryz.underlying81))); (case hf => kernel_rfl); clear hO; intro n29 wv hO) | ((with_reducible refine (h1 _ _ (hO.tops ht (by simp)) (hO.isB HFm.out (fun q hq => List.mem_cons_of_mem _ hq)) (one_boxesC hO List.mem_cons_self)).mono ?_); rintro e wv hpo; obtain ⟨rfl, hb9⟩ := hpo.no; replace hO := hO.call hb9; clear hb9 hpo))
     go_ret2
     exact ⟨.slice none 0 0, hO.keep.below, .inr ⟨HR.out, rfl⟩⟩
    | some s' =>
     rw [hof] at h1 hdr
     have HR := Lib.hid hdr
     clear hdr hof
     go_wp2_with (first | refine ldNT ?_ | (refine' own_build1 (o := ⟨some 29, _, _, _, _, _⟩) hO (by rfl) rfl rfl ?hu ?hf ?_; (case hu => (with_reducible (exact Tryz.underlying81))); (case hf => kernel_rfl); clear hO; intro n29 wv hO) | ((with_reducible refine (h1 _ _ (hO.tops ht (by simp)) (hO.isB HFm.out (fun q hq => List.mem_cons_of_mem _ hq)) (one_boxesC hO List.mem_cons_self)).mono ?_); rintro e wv hpo; obtain ⟨v3, rfl, hv9, hn9, hb9⟩ := hpo.yes; have HF3 := Lib.hid hv9.form; have hs9 := hO.keep.size; replace hO := hO.gainB hb9 hv9 hn9; clear hb9 hv9 hpo))
     go_roundw
     case rel => exact ⟨j, s', by omega, rfl, HR, HF3, Lib.hid (fun g hg => Nat.le_trans hs9 (hn9 g hg)), hO.sub (.cons _ (.refl _)) (.refl _) (fun q hq => (List.mem_append.1 hq).elim (fun h => List.mem_append_left _ h) (fun h => List.mem_append_right _ (by obtain rfl := List.mem_singleton.1 h; exact List.mem_cons_self)))⟩
     case measure => simp [intOf] <;> omega
   ·rw [if_pos rfl] at hdr
    have h1 := fun v2 w ht ha hb => psUnion_any (va := u4) (vb := v2) (la := s) (lb := [b]) w ht ha hb ks kb ns (by simp)
    cases hof : ofF orB s [b] with
    | none =>
     rw [hof] at h1 hdr
     have HR := Lib.hid (permF_up hdr)
     clear hdr hof
     go_wp2_with (first | refine ldNT ?_ | (refine' own_build1 (o := ⟨some 29, _, _, _, _, _⟩) hO (by rfl) rfl rfl ?hu ?hf ?_; (case hu => (with_reducible (exact Tryz.underlying81))); (case hf => kernel_rfl); clear hO; intro n29 wv hO) | ((with_reducible refine (h1 _ _ (hO.tops ht (by simp)) (hO.isB HFm.out (fun q hq => List.mem_cons_of_mem _ hq)) (one_boxesC hO List.mem_cons_self)).mono ?_); rintro e wv hpo; obtain ⟨rfl, hb9⟩ := hpo.no; replace hO := hO.call hb9; clear hb9 hpo))
     go_ret2
     exact ⟨.slice none 0 0, hO.keep.below, .inr ⟨HR.out, rfl⟩⟩
    | some s' =>
     rw [hof] at h1 hdr
     have HR := Lib.hid hdr
     clear hdr hof
     go_wp2_with (first | refine ldNT ?_ | (refine' own_build1 (o := ⟨some 29, _, _, _, _, _⟩) hO (by rfl) rfl rfl ?hu ?hf ?_; (case hu => (with_reducible (exact Tryz.underlying81))); (case hf => kernel_rfl); clear hO; intro n29 wv hO) | ((with_reducible refine (h1 _ _ (hO.tops ht (by simp)) (hO.isB HFm.out (fun q hq => List.mem_cons_of_mem _ hq)) (one_boxesC hO List.mem_cons_self)).mono ?_); rintro e wv hpo; obtain ⟨v3, rfl, hv9, hn9, hb9⟩ := hpo.yes; have HF3 := Lib.hid hv9.form; have hs9 := hO.keep.size; replace hO := hO.gainB hb9 hv9 hn9; clear hb9 hv9 hpo))
     go_roundw
     case rel => exact ⟨j, s', by omega, rfl, HR, HF3, Lib.hid (fun g hg => Nat.le_trans hs9 (hn9 g hg)), hO.sub (.cons _ (.refl _)) (.refl _) (fun q hq => (List.mem_append.1 hq).elim (fun h => List.mem_append_left _ h) (fun h => List.mem_append_right _ (by obtain rfl := List.mem_singleton.1 h; exact List.mem_cons_self)))⟩
     case measure => simp [intOf] <;> omega
theorem leftF_step {t : List Rul} {i k : Nat} (hk : k < i) (hi : i ≤ t.length) (r : Option (List Bx)) : leftF ((t.take i).drop k) r = leftF ((t.take i).drop (k + 1)) (match r with
  | none => none
  | some x => ofF exB x [(t[k]'(by omega)).1]) := by
 have hl : k < (t.take i).length := by simp; omega
 rw [List.drop_eq_getElem_cons hl, List.getElem_take]
 rfl
theorem makeF_isSet {b : Bx} (kb : okL [b]) {x : List Bx} (h : makeF [b] = some x) : IsSet x := (make_set kb h).1
set_option maxHeartbeats 8000000 in
theorem fEff_any {vt : Value} {t : List Rul} {i : Nat} (w : World) (ht : Tops w) (hv : IsTable w vt t) (kt : okT t) (hl : t.length ≤ 1000000000000) (hi : i < t.length) :
  Calls Tryz.prog 116 #[vt, .int .i64 i] w (SetPost w (effF t i)) := by
 have hO := own_argR hv
 obtain ⟨a, c, rfl, ha⟩ := hv.view
 have hcap := hv.cap
 clear hv
 obtain ⟨g, o, rfl⟩ := ha (by omega)
 clear ha
 have kb := okL_one (kt _ (List.getElem_mem hi))
 have hE : leftF ((t.take i).drop 0) (makeF [t[i].1]) = effF t i := by rw [effF_left hi, List.drop_zero]
 have hS0 : ∀ x, makeF [t[i].1] = some x → IsSet x := fun x hx => makeF_isSet kb hx
 have t1 := tk_match t hi
 have g1 : decide ((i : Int) < 0) = false := decide_eq_false (by omega)
 have g2 : decide ((t.length : Int) ≤ (i : Int)) = false := decide_eq_false (by omega)
 generalize t[i] = q0 at *
 have hm := fun v2 w ht hb => make_any (vl := v2) (l := [q0.1]) w ht hb kb (by simp)
 have HE := Lib.hid hE
 have HS := Lib.hid hS0
 clear hE hS0 kb
 generalize makeF [q0.1] = r0 at *
 simp only [roS] at hO
 go_enter Tryz.func116, Tryz.ntmps116
 go_wp2_with (first | refine ldNT ?_ | (refine' own_build1 (o := ⟨some 24, _, _, _, _, _⟩) hO (by rfl) rfl rfl ?hu ?hf ?_; (case hu => (with_reducible (exact Tryz.underlying81))); (case hf => kernel_rfl); clear hO; intro n24 wv hO) | (go_at_call 86; (with_reducible refine (hm _ _ (hO.tops ht (by simp)) (one_boxesC hO List.mem_cons_self)).mono ?_); rintro e wv hpo; obtain ⟨v3, rfl, hv9, hn9, hb9⟩ := hpo.uni; have HF3 := Lib.hid hv9.form; have hs9 := hO.keep.size; replace hO := hO.gainB hb9 hv9 hn9; clear hb9 hv9 hpo))
 clear g1 g2 t1 hm
 go_loopw [6, 7, 32] (fun q6 q7 q32 wr => ∃ (k : Nat) (r : Option (List Bx)), k ≤ i ∧ q32 = .int .i64 k ∧ q7 = .int .i64 (ecd r) ∧ Hid (leftF ((t.take i).drop k) r = effF t i) ∧ Hid (∀ x, r = some x → IsSet x) ∧ Hid (FormB q6 (r.getD [])) ∧ Hid (NewFrom w q6) ∧ Own [] w [] [] (roS q6 (cellsB (r.getD [])) ++ [⟨g, o, cellsR t⟩]) wr) (fun _ _ q32 _ => i - (intOf q32).toNat)
 case atStart => exact ⟨0, r0, by omega, rfl, rfl, HE, HS, HF3, Lib.hid (fun g hg => Nat.le_trans hs9 (hn9 g hg)), hO.sub (.cons _ (.refl _)) (.refl _) (fun _ h => h)⟩
 case round =>
  clear hO HE HS HF3 hn9 hs9
  obtain ⟨k, r, hk, rfl, rfl, HE, HS, HFm, HN, hO⟩ := hrel
  by_cases hlt : k < i
  ·have hkt : k < t.length := by omega
   have hO2 := hO.sub (S' := ⟨g, o, cellsR t⟩ :: roS u6 (cellsB (r.getD []))) (.refl _) (.refl _) (fun q hq => (List.mem_cons.1 hq).elim (fun h => List.mem_append_right _ (by rw [h]; exact List.mem_cons_self)) (fun h => List.mem_append_left _ h))
   replace hO := hO2
   clear hO2
   have hst := leftF_step hlt (by omega : i ≤ t.length) r
   rw [HE.out] at hst
   have t1 := tk_rule t hkt
   have kb := okL_one (kt _ (List.getElem_mem hkt))
   cases r with
   | none =>
    rw [leftF_none] at hst
    have HR := Lib.hid hst
    clear hst kb
    generalize t[k] = q at *
    simp only [ecd_none, Option.getD_none] at *
    go_wp2_with (first | refine ldNT ?_ | (refine stNT hO ?_; clear hO; intro wv hO) | (refine al9T 9 hO ?_; clear hO; intro n9 wv hO))
    go_ret2
    exact ⟨.slice none 0 0, hO.keep.below, .inr ⟨HR.out, rfl⟩⟩
   | some x =>
    have hsx := HS.out x rfl
    dsimp only at hst
    generalize t[k] = q at *
    have h1 := fun v2 w ht ha hb => psSubtract_any (va := u6) (vb := v2) (la := x) (lb := [q.1]) w ht ha hb hsx.ok kb hsx.le (by simp)
    have HS2 : Hid (∀ y, ofF exB x [q.1] = some y → IsSet y) := Lib.hid fun y hy => ofF_isSet hsx.ok kb hy
    have HR := Lib.hid hst.symm
    clear hst hsx kb HS HE
    generalize ofF exB x [q.1] = r2 at *
    simp only [ecd_some, Option.getD_some] at *
    go_wp2_with (first | refine ldNT ?_ | (refine stNT hO ?_; clear hO; intro wv hO) | (refine al9T 9 hO ?_; clear hO; intro n9 wv hO) | (refine' own_build1 (o := ⟨some 43, _, _, _, _, _⟩) hO (by rfl) rfl rfl ?hu ?hf ?_; (case hu => (with_reducible (exact Tryz.underlying81))); (case hf => kernel_rfl); clear hO; intro n43 wv hO) | (go_at_call 78; (with_reducible refine (h1 _ _ (hO.tops ht (by simp)) (hO.isB HFm.out (fun q hq => List.mem_cons_of_mem _ hq)) (one_boxesC hO List.mem_cons_self)).mono ?_); rintro e wv hpo; obtain ⟨v3, rfl, hv9, hn9, hb9⟩ := hpo.uni; have HF3 := Lib.hid hv9.form; have hs9 := hO.keep.size; replace hO := hO.gainB hb9 hv9 hn9; clear hb9 hv9 hpo))
    go_roundw
    case rel => exact ⟨k + 1, r2, by omega, by go_num, rfl, HR, HS2, HF3, Lib.hid (fun g hg => Nat.le_trans hs9 (hn9 g hg)), hO.sub (.cons _ (.cons _ (.refl _))) (.refl _) (fun q hq => (List.mem_append.1 hq).elim (fun h => List.mem_append_left _ h) (fun h => List.mem_append_right _ (by obtain rfl := List.mem_singleton.1 h; exact List.mem_cons_self)))⟩
    case measure => simp [intOf] <;> omega
  ·obtain rfl : k = i := by omega
   have hd : (t.take k).drop k = [] := List.drop_of_length_le (by simp; omega)
   rw [hd, leftF] at HE
   cases r with
   | none =>
    simp only [ecd_none, Option.getD_none] at *
    go_wp2_with fail
    go_ret2
    exact ⟨.slice none 0 0, hO.keep.below, .inr ⟨HE.out.symm, rfl⟩⟩
   | some x =>
    simp only [ecd_some, Option.getD_some] at *
    go_wp2_with fail
    go_ret2
    exact ⟨_, hO.keep.below, .inl ⟨x, HE.out.symm, rfl, hO.isB HFm.out (fun q hq => List.mem_append_left _ hq), HN.out⟩⟩
end Go.Proofs.YtbdfblgdmappeaaGreatDoor
