/- Package packetset (tenth part): divided. -/
import Derived.Deep.CutBlock
import Derived.Test.YtbdfblgdmappeaaGreatDoorMP
import Derived.Test.YtbdfblgdmappeaaGreatDoorMO
namespace Go.Proofs.YtbdfblgdmappeaaGreatDoor
open Go.RowKit
set_option maxRecDepth 100000
theorem bcs_rg {b : Bx} {f : Nat} (h : f < 5) (ys : List Value) : List.take 2 (List.drop (f * 2) (bcs b ++ ys)) = [.int .u32 (b.at f).lo, .int .u32 (b.at f).hi] := by
 rcases five h with rfl | rfl | rfl | rfl | rfl <;> rfl
theorem cb_rg (l : List Bx) {k f : Nat} (hk : k < l.length) (hf : f < 5) : List.take ([.int .u32 (l[k].at f).lo, .int .u32 (l[k].at f).hi] : List Value).length (List.drop (k * 10 + f * 2) (cellsB l)) = [.int .u32 (l[k].at f).lo, .int .u32 (l[k].at f).hi] := by
 show List.take 2 _ = _
 rw [← List.drop_drop, ← cellsB_drop, List.drop_eq_getElem_cons hk, cellsB]
 exact bcs_rg hf _
theorem cb_rg0 (b : Bx) (l : List Bx) {f : Nat} (hf : f < 5) : List.take ([.int .u32 (b.at f).lo, .int .u32 (b.at f).hi] : List Value).length (List.drop (f * 2) (cellsB (b :: l))) = [.int .u32 (b.at f).lo, .int .u32 (b.at f).hi] := by
 show List.take 2 _ = _
 exact bcs_rg hf _
theorem run_more {f : Nat} {r : Rg} : ∀ {l : List Bx} {k : Nat} (h : k < l.length), k ≤ runLen f r l → (if l[k].at f = r then k + 1 ≤ runLen f r l else runLen f r l = k)
 | b :: l, 0, _, _ => by
  simp only [List.getElem_cons_zero, runLen]
  split <;> simp
 | b :: l, k + 1, h, hk => by
  rw [runLen] at hk ⊢
  split at hk
  ·rename_i e
   have := run_more (f := f) (r := r) (l := l) (k := k) (by simpa using h) (by omega)
   simp only [List.getElem_cons_succ]
   split
   ·rename_i e2; rw [if_pos e2] at this; omega
   ·rename_i e2; rw [if_neg e2] at this; omega
  ·omega
theorem mem_swapS {x : Ro} {A C : List Ro} : ∀ q ∈ x :: (A ++ C), q ∈ A ++ x :: C := fun q hq => by
 simp only [List.mem_cons, List.mem_append] at hq ⊢
 rcases hq with h | h | h
 ·exact .inr (.inl h)
 ·exact .inl h
 ·exact .inr (.inr h)
def lcell : Option GV → List Value
 | none => [.int .u32 0, .int .u32 0, .slice none 0 0]
 | some x => gcell x
def lroG : Option GV → List Ro
 | none => []
 | some x => roS x.v (cellsB x.rest)
structure LastOk (last : Option GV) : Prop where
 form : ∀ x, last = some x → FormB x.v x.rest
 ne : ∀ x, last = some x → x.rest ≠ []
 hi : ∀ x, last = some x → 0 ≤ x.r.hi ∧ x.r.hi ≤ 4294967295
 len : ∀ x, last = some x → x.rest.length ≤ 1000000000000
theorem lastOk_none : LastOk none := ⟨fun _ h => (by cases h), fun _ h => (by cases h), fun _ h => (by cases h), fun _ h => (by cases h)⟩
theorem div_base {vl : Value} {l : List Bx} (w : World) (hv : IsBoxes w vl l) :
  Calls Tryz.prog 150 #[.int .i64 5, vl] w fun e w' => e = .returned (.bool (dvd 5 0 l)) ∧ Below w.heap.size w w' := by
 have hO := own_start [] w
 obtain ⟨a, c, rfl, ha⟩ := hv.view
 clear hv
 go_enter Tryz.func150, Tryz.ntmps150
 go_wp2_with fail
 go_ret
 exact ⟨ret_bool (show decide ((l.length : Int) ≤ 1) = dvd 5 0 l from decide_eq_decide.2 (by omega)), hO.keep.below⟩
set_option maxHeartbeats 32000000 in
theorem div_any : ∀ (n f : Nat), f + n = 5 → ∀ (vl : Value) (l : List Bx) (w : World), IsBoxes w vl l → vL l → l.length ≤ 1000000000000 →
  Calls Tryz.prog 150 #[.int .i64 f, vl] w fun e w' => e = .returned (.bool (dvd f n l)) ∧ Below w.heap.size w w' := by
 intro n
 induction n with
 | zero =>
  intro f hf vl l w hv _ _
  obtain rfl : f = 5 := by omega
  exact div_base w hv
 | succ n ih =>
  intro f hfn vl l w hv kl nl
  have hf : f < 5 := by omega
  have hO := own_start [] w
  have g0 : ((f : Int) == 5) = false := by simp; omega
  obtain ⟨chk, hchk⟩ : ∃ chk : List Bx → Bool, chk = fun l => dvd (f + 1) n l := ⟨_, rfl⟩
  have HE0 := Lib.hid (show dvd f (n + 1) l = dvG chk f none l by rw [hchk]; rfl)
  have HI : Hid (∀ (vl : Value) (l : List Bx) (w : World), IsBoxes w vl l → vL l → l.length ≤ 1000000000000 → Calls Tryz.prog 150 #[.int .i64 ((f : Int) + 1), vl] w fun e w' => e = .returned (.bool (chk l)) ∧ Below w.heap.size w w') := Lib.hid (by
   rw [hchk]; intro vl l w h1 h2 h3
   have := ih (f + 1) (by omega) vl l w h1 h2 h3
   rwa [show ((f + 1 : Nat) : Int) = (f : Int) + 1 by omega] at this)
  clear ih hchk
  generalize dvd f (n + 1) l = D at *
  have HV := Lib.hid hv
  have s4 : IntKind.i64.wrap ((f : Int) + 1) = (f : Int) + 1 := IntWalk.i64_in _ (by omega)
  have y1 : (0 : Int) ≤ (f : Int) := by omega
  have y2 : (f : Int) < 5 := by omega
  have HK := Lib.hid kl
  clear kl hv
  go_enter Tryz.func150, Tryz.ntmps150
  go_wp2_with ((with_reducible refine is_alloc ?_); refine own_al (o := ⟨some 5, _, _, _, _, _⟩) (hO := hO) (h := ?_); clear hO; intro n5 wv hO)
  simp only [Act.put]
  simp only [List.setIfInBounds_toArray, List.set_cons_zero, List.set_cons_succ]
  go_loopg [1] (l.length + 1) (fun gk q1 wr => ∃ (r : List Bx) (last : Option GV), r.length + 1 ≤ gk ∧ Hid (IsBoxes w q1 r) ∧ Hid (vL r) ∧ r.length ≤ 1000000000000 ∧ Hid (D = dvG chk f (last.map GV.grp) r) ∧ Hid (LastOk last) ∧ Own [] w [⟨n5, lcell last, 224⟩] [] (lroG last) wr)
  case atStart => exact ⟨l, none, by omega, HV, HK, nl, HE0, Lib.hid lastOk_none, hO⟩
  case round =>
   clear hO HE0 HV HK
   obtain ⟨r, last, hgk, HV, HK, nr, HE, HL, hO⟩ := hrel
   obtain ⟨a, c, rfl, ha⟩ := HV.out.view
   cases r with
   | nil =>
    have hD : D = true := HE.out
    subst hD
    go_wp2_with fail
    go_ret
    exact ⟨rfl, hO.keep.below⟩
   | cons b r =>
    obtain ⟨g, o, rfl⟩ := ha (by simp)
    replace hO := hO.addBoxes HV.out
    simp only [roS, List.cons_append, List.nil_append] at hO
    obtain ⟨N, hN⟩ : ∃ N, runLen f (b.at f) (b :: r) = N := ⟨_, rfl⟩
    have hN1 : 1 ≤ N := by rw [← hN]; exact runLen_pos f b r
    have hNl : N ≤ (b :: r).length := by rw [← hN]; exact runLen_le _ _ _
    have hNr := fun (k : Nat) (h : k < (b :: r).length) (hk : k ≤ N) => show (if (b :: r)[k].at f = b.at f then k + 1 ≤ N else N = k) by
     have := run_more (f := f) (r := b.at f) h (by rw [hN]; exact hk)
     rwa [hN] at this
    have HRm := Lib.hid hNr
    have HG := Lib.hid (show dvG chk f (last.map GV.grp) (b :: r) = (chk ((b :: r).take N) && (okNext (last.map GV.grp) ⟨b.at f, ((b :: r).take N).map (zTo (f + 1))⟩ && dvG chk f (some ⟨b.at f, ((b :: r).take N).map (zTo (f + 1))⟩) ((b :: r).drop N))) by
     rw [dvG_cons, frontG, hN])
    have t0 := cb_rg0 b r hf
    have hll : (b :: r).length = r.length + 1 := rfl
    clear hN hNr ha
    go_upto_block 2 with fail
    go_cut [6] (fun q6 wx => q6 = .int .i64 N ∧ Own [] w [⟨n5, lcell last, 224⟩] [] (⟨g, o, cellsB (b :: r)⟩ :: lroG last) wx)
    case first =>
     go_wp2_with fail
     go_loopg [6] ((b :: r).length + 1) (fun gj q6 wr => ∃ k : Nat, (b :: r).length + 1 - k ≤ gj ∧ q6 = .int .i64 k ∧ 1 ≤ k ∧ k ≤ N ∧ Own [] w [⟨n5, lcell last, 224⟩] [] (⟨g, o, cellsB (b :: r)⟩ :: lroG last) wr)
     case atStart => exact ⟨1, by omega, rfl, by omega, by omega, hO⟩
     case round =>
      clear hO
      obtain ⟨k, hgj, rfl, hk1, hkN, hO⟩ := hrel
      have s5 : IntKind.i64.wrap ((k : Int) + 1) = (k : Int) + 1 := IntWalk.i64_in _ (by omega)
      by_cases hkl : k < (b :: r).length
      ·have hm := HRm.out k hkl hkN
       have t1 := cb_rg (b :: r) hkl hf
       have z1 : (0 : Int) ≤ (k : Int) := by omega
       have hkr : k < r.length + 1 := hkl
       have z2 : (k : Int) < (r.length : Int) + 1 := by omega
       have g2 : decide ((k : Int) < (r.length : Int) + 1) = true := decide_eq_true z2
       generalize (b :: r)[k].at f = x at *
       by_cases hx : x = b.at f
       ·rw [if_pos hx] at hm
        have g1 : decide (x = b.at f) = true := decide_eq_true hx
        go_wp2_with fail
        (refine own_quiet hO (by kernel_rfl) (by kernel_rfl) ?_; clear hO; (repeat (go_big_quiet_want; (first | ((with_reducible refine is_loadQ ?_); (refine q_ld (h := ?_)); (try simp only [Act.put]); (try simp only [List.setIfInBounds_toArray, List.set_cons_zero, List.set_cons_succ]); go_big_quiet_on) | (go_big_quiet_op; (first | go_big_quiet_on | ((refine ⟨_, fun _ _ => rfl, ?_⟩); go_big_quiet_on)))))); (refine wpQuiet_nil ?_); intro wv hO)
        go_wp2_with fail
        go_roundg ((b :: r).length - k)
        case measure => omega
        case rel => exact ⟨k + 1, by omega, by go_num, by omega, by omega, hO⟩
       ·rw [if_neg hx] at hm
        have g1 : decide (x = b.at f) = false := decide_eq_false hx
        go_wp2_with fail
        (refine own_quiet hO (by kernel_rfl) (by kernel_rfl) ?_; clear hO; (repeat (go_big_quiet_want; (first | ((with_reducible refine is_loadQ ?_); (refine q_ld (h := ?_)); (try simp only [Act.put]); (try simp only [List.setIfInBounds_toArray, List.set_cons_zero, List.set_cons_succ]); go_big_quiet_on) | (go_big_quiet_op; (first | go_big_quiet_on | ((refine ⟨_, fun _ _ => rfl, ?_⟩); go_big_quiet_on)))))); (refine wpQuiet_nil ?_); intro wv hO)
        go_wp2_with fail
        go_meet
        case rel => exact ⟨by rw [hm], hO⟩
      ·have hkx : k = (b :: r).length := by omega
       have hkN2 : N = k := by omega
       have g2 : decide ((k : Int) < (r.length : Int) + 1) = false := decide_eq_false (by omega)
       go_wp2_with fail
       (refine own_quiet hO (by kernel_rfl) (by kernel_rfl) ?_; clear hO; (repeat (first | go_big_quiet_skip | (go_big_quiet_want; (go_big_quiet_op; (first | go_big_quiet_on | ((refine ⟨_, fun _ _ => rfl, ?_⟩); go_big_quiet_on)))))); (refine wpQuiet_nil ?_); intro wv hO)
       go_wp2_with fail
       go_meet
       case rel => exact ⟨by rw [hkN2], hO⟩
    case rest =>
     clear hO HRm
     obtain ⟨rfl, hO⟩ := hcut
     have hbr : vB b := HK.out b (by simp)
     have hfb := hbr f hf
     have htf := topOf_le f
     have hNc : N ≤ c := by
      rcases HV.out with ⟨h, _⟩ | ⟨g', o', c', h, h2, _⟩
      ·cases h
      ·cases h; omega
     have hpart : IsBoxes w (.slice (some ⟨g, o, none⟩) N c) ((b :: r).take N) := by
      have := HV.out.part 0 N c (by simpa using hNl) hNc
      simpa using this
     have hpl : ((b :: r).take N).length ≤ 1000000000000 := by rw [List.length_take]; omega
     have hpv : vL ((b :: r).take N) := fun x hx => HK.out x (List.mem_of_mem_take hx)
     have hrs := fun w hv => rests_any (vl := .slice (some ⟨g, o, none⟩) N c) (l := (b :: r).take N) (f := f) w hv hf hpl
     have hdv := fun w hv => HI.out (.slice (some ⟨g, o, none⟩) N c) ((b :: r).take N) w hv hpv hpl
     have HPt := Lib.hid hpart
     clear hpart hpv
     have hne : ((b :: r).take N).map (zTo (f + 1)) ≠ [] := by
      intro h
      have := congrArg List.length h
      simp at this; omega
     have hTl : (((b :: r).take N).map (zTo (f + 1))).length ≤ 1000000000000 := by rw [List.length_map]; exact hpl
     generalize hT : ((b :: r).take N).map (zTo (f + 1)) = T at *
     clear hT
     rw [HG.out] at HE
     generalize chk ((b :: r).take N) = ck at *
     go_upto_region 8 with (fail)
     go_cut [7] (fun q7 wx => ∃ n7 vT, q7 = .pointer (some ⟨n7, 0, none⟩) ∧ FormB vT T ∧ Own [] w [⟨n7, gcell ⟨b.at f, vT, T⟩, 224⟩, ⟨n5, lcell last, 224⟩] [] (⟨g, o, cellsB (b :: r)⟩ :: (roS vT (cellsB T) ++ lroG last)) wx)
     case first =>
      refine wp_region_any (by kernel_rfl) ?_
      replace hO := hO.drew
      have ix9 := Ix.mk [0, 1, 2, 3, 5, 6, 7, 8]
      iterate 8 (refine wpAny_tk ix9 ?_; replace ix9 := ix9.tail; (first | go_big_quiet_skip | (go_big_quiet_want; (go_big_quiet_op; (first | go_big_quiet_on | ((refine ⟨_, fun _ _ => rfl, ?_⟩); go_big_quiet_on))))); (refine wpQuiet_nil ?_); (try simp only [Act.put]); (try simp only [List.setIfInBounds_toArray, List.set_cons_zero, List.set_cons_succ]))
      clear ix9
      refine wpAny_all (rs := [4, 9, 11]) (by kernel_rfl) (by simp) (ord_cons ?_ (ord_cons ?_ (ord_cons ?_ ord_nil)))
      rotate_left 3
      all_goals
       refine wpOp_of_listL rfl ?_
       (first | ((with_reducible refine is_load ?_); refine own_ld (h := ?_)) | ((with_reducible refine is_alloc ?_); refine own_al (o := ⟨some 7, _, _, _, _, _⟩) (hO := hO) (h := ?_); clear hO; intro n7 wv hO) | ((refine wpList_step (fun K hK => ?_)); go_simp; ((go_at_call 193; (with_reducible refine (hrs _ (HPt.out.keep0 hO)).mono ?_); rintro e wv ⟨vT, rfl, ⟨hv9, hn9⟩, hb9⟩; have HfT := Lib.hid hv9.form; replace hO := (hO.gainB hb9 hv9 hn9).sub (.refl _) (.refl _) mem_swapS; clear hb9 hv9 hn9; obtain ⟨aT, cT, hvT, -⟩ := HfT.out.view; subst hvT); (try simp only []); (refine hK _ _ ?_); clear hK K))); (try simp only [Act.put]); (try simp only [List.setIfInBounds_toArray, List.set_cons_zero, List.set_cons_succ])
       refine wpList_done (qk_intro ?_)
      refine wpAny_all (rs := [9, 11]) (by kernel_rfl) (by simp) (ord_cons ?_ (ord_cons ?_ ord_nil))
      rotate_left 2
      refine wpAny_all (rs := [4, 11]) (by kernel_rfl) (by simp) (ord_cons ?_ (ord_cons ?_ ord_nil))
      rotate_left 2
      refine wpAny_all (rs := [4, 9]) (by kernel_rfl) (by simp) (ord_cons ?_ (ord_cons ?_ ord_nil))
      rotate_left 2
      all_goals
       refine wpOp_of_listL rfl ?_
       (first | ((with_reducible refine is_load ?_); refine own_ld (h := ?_)) | ((with_reducible refine is_alloc ?_); refine own_al (o := ⟨some 7, _, _, _, _, _⟩) (hO := hO) (h := ?_); clear hO; intro n7 wv hO) | ((refine wpList_step (fun K hK => ?_)); go_simp; ((go_at_call 193; (with_reducible refine (hrs _ (HPt.out.keep0 hO)).mono ?_); rintro e wv ⟨vT, rfl, ⟨hv9, hn9⟩, hb9⟩; have HfT := Lib.hid hv9.form; replace hO := (hO.gainB hb9 hv9 hn9).sub (.refl _) (.refl _) mem_swapS; clear hb9 hv9 hn9; obtain ⟨aT, cT, hvT, -⟩ := HfT.out.view; subst hvT); (try simp only []); (refine hK _ _ ?_); clear hK K))); (try simp only [Act.put]); (try simp only [List.setIfInBounds_toArray, List.set_cons_zero, List.set_cons_succ])
       refine wpList_done (qk_intro ?_)
      refine wpAny_tk (Ix.mk [10]) ?_
      (first | go_big_quiet_skip | (go_big_quiet_want; (go_big_quiet_op; (first | go_big_quiet_on | ((refine ⟨_, fun _ _ => rfl, ?_⟩); go_big_quiet_on))))); (refine wpQuiet_nil ?_); (try simp only [Act.put]); (try simp only [List.setIfInBounds_toArray, List.set_cons_zero, List.set_cons_succ])
      refine wpAny_1 11 ?_
      rotate_left 1
      refine wpAny_1 9 ?_
      rotate_left 1
      refine wpAny_tk (Ix.mk [10]) ?_
      (first | go_big_quiet_skip | (go_big_quiet_want; (go_big_quiet_op; (first | go_big_quiet_on | ((refine ⟨_, fun _ _ => rfl, ?_⟩); go_big_quiet_on))))); (refine wpQuiet_nil ?_); (try simp only [Act.put]); (try simp only [List.setIfInBounds_toArray, List.set_cons_zero, List.set_cons_succ])
      refine wpAny_1 11 ?_
      rotate_left 1
      refine wpAny_1 4 ?_
      rotate_left 1
      refine wpAny_1 9 ?_
      rotate_left 1
      refine wpAny_1 4 ?_
      rotate_left 1
      all_goals
       refine wpOp_of_listL rfl ?_
       (first | ((with_reducible refine is_load ?_); refine own_ld (h := ?_)) | ((with_reducible refine is_alloc ?_); refine own_al (o := ⟨some 7, _, _, _, _, _⟩) (hO := hO) (h := ?_); clear hO; intro n7 wv hO) | ((refine wpList_step (fun K hK => ?_)); go_simp; ((go_at_call 193; (with_reducible refine (hrs _ (HPt.out.keep0 hO)).mono ?_); rintro e wv ⟨vT, rfl, ⟨hv9, hn9⟩, hb9⟩; have HfT := Lib.hid hv9.form; replace hO := (hO.gainB hb9 hv9 hn9).sub (.refl _) (.refl _) mem_swapS; clear hb9 hv9 hn9; obtain ⟨aT, cT, hvT, -⟩ := HfT.out.view; subst hvT); (try simp only []); (refine hK _ _ ?_); clear hK K))); (try simp only [Act.put]); (try simp only [List.setIfInBounds_toArray, List.set_cons_zero, List.set_cons_succ])
       refine wpList_done (qk_intro ?_)
      refine wpAny_1 12 ?_
      rotate_left 1
      refine wpAny_tk (Ix.mk [10]) ?_
      (first | go_big_quiet_skip | (go_big_quiet_want; (go_big_quiet_op; (first | go_big_quiet_on | ((refine ⟨_, fun _ _ => rfl, ?_⟩); go_big_quiet_on))))); (refine wpQuiet_nil ?_); (try simp only [Act.put]); (try simp only [List.setIfInBounds_toArray, List.set_cons_zero, List.set_cons_succ])
      refine wpAny_1 12 ?_
      rotate_left 1
      refine wpAny_1 12 ?_
      rotate_left 1
      refine wpAny_tk (Ix.mk [10]) ?_
      (first | go_big_quiet_skip | (go_big_quiet_want; (go_big_quiet_op; (first | go_big_quiet_on | ((refine ⟨_, fun _ _ => rfl, ?_⟩); go_big_quiet_on))))); (refine wpQuiet_nil ?_); (try simp only [Act.put]); (try simp only [List.setIfInBounds_toArray, List.set_cons_zero, List.set_cons_succ])
      refine wpAny_1 12 ?_
      rotate_left 1
      refine wpAny_tk (Ix.mk [10]) ?_
      (first | go_big_quiet_skip | (go_big_quiet_want; (go_big_quiet_op; (first | go_big_quiet_on | ((refine ⟨_, fun _ _ => rfl, ?_⟩); go_big_quiet_on))))); (refine wpQuiet_nil ?_); (try simp only [Act.put]); (try simp only [List.setIfInBounds_toArray, List.set_cons_zero, List.set_cons_succ])
      refine wpAny_1 12 ?_
      rotate_left 1
      refine wpAny_tk (Ix.mk [10]) ?_
      (first | go_big_quiet_skip | (go_big_quiet_want; (go_big_quiet_op; (first | go_big_quiet_on | ((refine ⟨_, fun _ _ => rfl, ?_⟩); go_big_quiet_on))))); (refine wpQuiet_nil ?_); (try simp only [Act.put]); (try simp only [List.setIfInBounds_toArray, List.set_cons_zero, List.set_cons_succ])
      refine wpAny_1 12 ?_
      rotate_left 1
      all_goals
       refine wpOp_of_listL rfl ?_
       ((with_reducible refine is_store ?_); (refine own_stR (hO := hO) (h := ?_); clear hO; intro wv hO)); (try simp only [Act.put])
       refine wpList_done (qk_intro ?_)
      refine wpAny_done (by kernel_rfl) ?_ _
      rotate_left
      refine wpAny_done (by kernel_rfl) ?_ _
      rotate_left
      refine wpAny_done (by kernel_rfl) ?_ _
      rotate_left
      refine wpAny_done (by kernel_rfl) ?_ _
      rotate_left
      refine wpAny_done (by kernel_rfl) ?_ _
      rotate_left
      refine wpAny_done (by kernel_rfl) ?_ _
      rotate_left
      all_goals
       go_wp2_with fail
       go_meet
       exact ⟨_, _, rfl, HfT.out, hO⟩
     case rest =>
      clear hO hrs t0
      obtain ⟨n7, vT, rfl, hfT, hO⟩ := hcut
      obtain ⟨aT, cT, rfl, -⟩ := hfT.view
      have HfT := Lib.hid hfT
      clear hfT
      cases ck with
      | false =>
       have hD : D = false := by rw [HE.out, Bool.false_and]
       subst hD
       go_wp2_with (go_at_call 150; refine (hdv _ (HPt.out.keep0 hO)).mono ?_; rintro e wv ⟨rfl, hb⟩; replace hO := hO.call hb; clear hb)
       go_ret
       exact ⟨rfl, hO.keep.below⟩
      | true =>
       rw [Bool.true_and] at HE
       go_upto_region 11 with (go_at_call 150; refine (hdv _ (HPt.out.keep0 hO)).mono ?_; rintro e wv ⟨rfl, hb⟩; replace hO := hO.call hb; clear hb)
       go_cut [57] (fun q57 wx => q57 = .bool last.isSome ∧ Own [] w [⟨n7, gcell ⟨b.at f, .slice aT T.length cT, T⟩, 224⟩, ⟨n5, lcell last, 224⟩] [] (⟨g, o, cellsB (b :: r)⟩ :: (roS (.slice aT T.length cT) (cellsB T) ++ lroG last)) wx)
       case first =>
        cases last with
        | none =>
         have hO' : Own [] w [⟨n7, gcell ⟨b.at f, .slice aT T.length cT, T⟩, 224⟩, ⟨n5, [.int .u32 0, .int .u32 0, .slice none 0 0], 224⟩] [] (⟨g, o, cellsB (b :: r)⟩ :: (roS (.slice aT T.length cT) (cellsB T) ++ [])) _ := hO
         clear hO
         have hO := hO'
         clear hO'
         go_wp2_with ((with_reducible refine is_load ?_); refine own_ld (h := ?_))
         go_meet
         exact ⟨rfl, hO⟩
        | some x =>
         obtain ⟨xr, xv, xl⟩ := x
         obtain ⟨xa, xc, hxv, hxa⟩ := (HL.out.form _ rfl).view
         dsimp only at hxv hxa
         subst hxv
         have hxne : 0 < xl.length := List.length_pos_iff.2 (HL.out.ne _ rfl)
         have g5 : decide ((0 : Int) < (xl.length : Int)) = true := decide_eq_true (by omega)
         go_wp2_with ((with_reducible refine is_load ?_); refine own_ld (h := ?_))
         go_meet
         exact ⟨rfl, hO⟩
       case rest =>
        clear hO hdv
        obtain ⟨rfl, hO⟩ := hcut
        go_upto_if 57 with (fail)
        go_cut [] (fun wx => Hid (okNext (last.map GV.grp) ⟨b.at f, T⟩ = true) ∧ Own [] w [⟨n7, gcell ⟨b.at f, .slice aT T.length cT, T⟩, 224⟩, ⟨n5, lcell last, 224⟩] [] (⟨g, o, cellsB (b :: r)⟩ :: (roS (.slice aT T.length cT) (cellsB T) ++ lroG last)) wx)
        case first =>
         cases last with
         | none =>
          go_wp2_with fail
          go_meet
          exact ⟨Lib.hid rfl, hO⟩
         | some x =>
          obtain ⟨xr, xv, xl⟩ := x
          have hxf := HL.out.form _ rfl
          obtain ⟨xa, xc, hxv, hxa⟩ := hxf.view
          dsimp only at hxv hxa hxf
          subst hxv
          have HfX := Lib.hid hxf
          obtain ⟨hx0, hx1⟩ := HL.out.hi _ rfl
          dsimp only at hx0 hx1
          clear hxf
          have hmT : ∀ q ∈ roS (.slice aT T.length cT) (cellsB T), q ∈ (⟨g, o, cellsB (b :: r)⟩ :: (roS (.slice aT T.length cT) (cellsB T) ++ lroG (some ⟨xr, .slice xa xl.length xc, xl⟩)) : List Ro) := fun q hq => List.mem_cons_of_mem _ (List.mem_append_left _ hq)
          have hmX : ∀ q ∈ roS (.slice xa xl.length xc) (cellsB xl), q ∈ (⟨g, o, cellsB (b :: r)⟩ :: (roS (.slice aT T.length cT) (cellsB T) ++ lroG (some ⟨xr, .slice xa xl.length xc, xl⟩)) : List Ro) := fun q hq => List.mem_cons_of_mem _ (List.mem_append_right _ hq)
          have hok : okNext ((some (⟨xr, .slice xa xl.length xc, xl⟩ : GV)).map GV.grp) ⟨b.at f, T⟩ = !(decide ((b.at f).lo ≤ xr.hi) || (decide ((b.at f).lo = xr.hi + 1) && decide (T = xl))) := rfl
          have HOK := Lib.hid hok
          clear hok
          by_cases h1 : (b.at f).lo ≤ xr.hi
          ·have g6 : decide ((b.at f).lo ≤ xr.hi) = true := decide_eq_true h1
           have hD : D = false := by rw [HE.out, HOK.out, g6]; rfl
           subst hD
           go_wp2_with ((with_reducible refine is_load ?_); refine own_ld (h := ?_))
           go_ret
           exact ⟨rfl, hO.keep.below⟩
          ·have g6 : decide ((b.at f).lo ≤ xr.hi) = false := decide_eq_false h1
           have w5 : IntKind.u32.wrap (xr.hi + 1) = xr.hi + 1 := by rw [IntKind.wrap_u32]; omega
           by_cases h2 : (b.at f).lo = xr.hi + 1
           ·have g7 : ((b.at f).lo == xr.hi + 1) = true := by simp [h2]
            by_cases h3 : T = xl
            ·have g8 : decide (T = xl) = true := decide_eq_true h3
             have hD : D = false := by rw [HE.out, HOK.out, g6, decide_eq_true h2, g8]; rfl
             subst hD
             clear h3 h2
             go_wp2_with (first | ((with_reducible refine is_load ?_); refine own_ld (h := ?_)) | (go_at_call 194; refine (bsame_any (va := .slice aT T.length cT) (vb := .slice xa xl.length xc) (l := T) (m := xl) _ (hO.isB HfT.out hmT) (hO.isB HfX.out hmX) hTl).mono ?_; rintro e wv ⟨rfl, hb⟩; replace hO := hO.call hb; clear hb))
             go_ret
             exact ⟨rfl, hO.keep.below⟩
            ·have g8 : decide (T = xl) = false := decide_eq_false h3
             have hz : okNext ((some (⟨xr, .slice xa xl.length xc, xl⟩ : GV)).map GV.grp) ⟨b.at f, T⟩ = true := by rw [HOK.out, g6, g8]; simp
             have HZ := Lib.hid hz
             clear hz h2 h3
             go_wp2_with (first | ((with_reducible refine is_load ?_); refine own_ld (h := ?_)) | (go_at_call 194; refine (bsame_any (va := .slice aT T.length cT) (vb := .slice xa xl.length xc) (l := T) (m := xl) _ (hO.isB HfT.out hmT) (hO.isB HfX.out hmX) hTl).mono ?_; rintro e wv ⟨rfl, hb⟩; replace hO := hO.call hb; clear hb))
             go_meet
             exact ⟨HZ, hO⟩
           ·have g7 : ((b.at f).lo == xr.hi + 1) = false := by simp [h2]
            have hz : okNext ((some (⟨xr, .slice xa xl.length xc, xl⟩ : GV)).map GV.grp) ⟨b.at f, T⟩ = true := by rw [HOK.out, g6, decide_eq_false h2]; simp
            have HZ := Lib.hid hz
            clear hz h2
            go_wp2_with ((with_reducible refine is_load ?_); refine own_ld (h := ?_))
            go_meet
            exact ⟨HZ, hO⟩
        case rest =>
         clear hO
         obtain ⟨HOk, hO⟩ := hcut
         rw [HOk.out, Bool.true_and] at HE
         obtain ⟨k0, k1, k2, hlc⟩ : ∃ k0 k1 k2, lcell last = [k0, k1, k2] := by cases last <;> exact ⟨_, _, _, rfl⟩
         rw [hlc] at hO
         have hO' : Own [] w [⟨n7, [.int .u32 (b.at f).lo, .int .u32 (b.at f).hi, .slice aT T.length cT], 224⟩, ⟨n5, [k0, k1, k2], 224⟩] [] (⟨g, o, cellsB (b :: r)⟩ :: (roS (.slice aT T.length cT) (cellsB T) ++ lroG last)) wc := hO
         clear hO
         have hO := hO'
         clear hO' hlc HOk
         have z1 : (0 : Int) ≤ (N : Int) := by omega
         have z2 : (N : Int) ≤ (r.length : Int) + 1 := by omega
         have HLk : Hid (LastOk (some ⟨b.at f, .slice aT T.length cT, T⟩)) := Lib.hid ⟨fun x hx => (by cases hx; exact HfT.out), fun x hx => (by cases hx; exact hne), fun x hx => (by cases hx; exact ⟨by dsimp only; omega, by dsimp only; omega⟩), fun x hx => (by cases hx; exact hTl)⟩
         have HDv : Hid (vL ((b :: r).drop N)) := Lib.hid fun x hx => HK.out x (List.mem_of_mem_drop hx)
         have hdl : ((b :: r).drop N).length ≤ r.length := by rw [List.length_drop]; omega
         have hmv : ∀ q ∈ lroG (some (⟨b.at f, .slice aT T.length cT, T⟩ : GV)), q ∈ (⟨g, o, cellsB (b :: r)⟩ :: (roS (.slice aT T.length cT) (cellsB T) ++ lroG last) : List Ro) := fun q hq => List.mem_cons_of_mem _ (List.mem_append_left _ hq)
         by_cases hNc2 : N < c
         ·have HB : Hid (IsBoxes w (.slice (some ⟨g, o + N * 10, none⟩) ((b :: r).length - N) (c - N)) ((b :: r).drop N)) := Lib.hid (by
           have h8 := HV.out.part N ((b :: r).length - N) (c - N) (by omega) (by
            rcases HV.out with ⟨h, _⟩ | ⟨g', o', c', h, h2, _⟩
            ·cases h
            ·cases h; omega)
           have h9 : ((b :: r).drop N).take ((b :: r).length - N) = (b :: r).drop N := by rw [← List.length_drop, List.take_length]
           rwa [h9] at h8)
          go_wp2_with fail
          refine wp_region_any (by kernel_rfl) ?_
          replace hO := hO.drew
          have ix9 := Ix.mk [1, 2, 3]
          iterate 3 (refine wpAny_tk ix9 ?_; replace ix9 := ix9.tail; (first | go_big_quiet_skip | (go_big_quiet_want; (go_big_quiet_op; (first | go_big_quiet_on | ((refine ⟨_, fun _ _ => rfl, ?_⟩); go_big_quiet_on))))); (refine wpQuiet_nil ?_); (try simp only [Act.put]); (try simp only [List.setIfInBounds_toArray, List.set_cons_zero, List.set_cons_succ]))
          clear ix9
          refine wpAny_1 0 ?_
          rotate_left 1
          all_goals
           refine wpOp_of_listL rfl ?_
           ((with_reducible refine is_load ?_); refine own_ld (h := ?_)); (try simp only [Act.put]); (try simp only [List.setIfInBounds_toArray, List.set_cons_zero, List.set_cons_succ])
           refine wpList_done (qk_intro ?_)
          refine wpAny_1 4 ?_
          rotate_left 1
          all_goals
           refine wpOp_of_listL rfl ?_
           ((with_reducible refine is_store ?_); (refine own_stR (hO := hO) (h := ?_); clear hO; intro wv hO)); (try simp only [Act.put])
           refine wpList_done (qk_intro ?_)
          refine wpAny_1 5 ?_
          rotate_left 1
          all_goals
           refine wpOp_of_listL rfl ?_
           ((refine wpList_step (fun K hK => ?_)); go_simp; ((refine hK _ _ ?_); clear hK K))
           refine wpList_done (qk_intro ?_)
          refine wpAny_done (by kernel_rfl) ?_ _
          rotate_left
          all_goals
           go_wp2_with fail
           go_roundg (r.length + 1)
           case measure => omega
           case rel => exact ⟨(b :: r).drop N, some ⟨b.at f, .slice aT T.length cT, T⟩, by omega, HB, HDv, by omega, HE, HLk, hO.sub (.cons _ (.refl _)) (.refl _) hmv⟩
         ·have hcN : c = N := by omega
          have hlN : (b :: r).length = N := by
           have : (b :: r).length ≤ c := by
            rcases HV.out with ⟨h, _⟩ | ⟨g', o', c', h, h2, _⟩
            ·cases h
            ·cases h; exact h2
           omega
          have hdn : (b :: r).drop N = [] := List.drop_eq_nil_of_le (by omega)
          subst hcN
          go_wp2_with fail
          refine wp_region_any (by kernel_rfl) ?_
          replace hO := hO.drew
          have ix9 := Ix.mk [1, 2, 3]
          iterate 3 (refine wpAny_tk ix9 ?_; replace ix9 := ix9.tail; (first | go_big_quiet_skip | (go_big_quiet_want; (go_big_quiet_op; (first | go_big_quiet_on | ((refine ⟨_, fun _ _ => rfl, ?_⟩); go_big_quiet_on))))); (refine wpQuiet_nil ?_); (try simp only [Act.put]); (try simp only [List.setIfInBounds_toArray, List.set_cons_zero, List.set_cons_succ]))
          clear ix9
          refine wpAny_1 0 ?_
          rotate_left 1
          all_goals
           refine wpOp_of_listL rfl ?_
           ((with_reducible refine is_load ?_); refine own_ld (h := ?_)); (try simp only [Act.put]); (try simp only [List.setIfInBounds_toArray, List.set_cons_zero, List.set_cons_succ])
           refine wpList_done (qk_intro ?_)
          refine wpAny_1 4 ?_
          rotate_left 1
          all_goals
           refine wpOp_of_listL rfl ?_
           ((with_reducible refine is_store ?_); (refine own_stR (hO := hO) (h := ?_); clear hO; intro wv hO)); (try simp only [Act.put])
           refine wpList_done (qk_intro ?_)
          refine wpAny_1 5 ?_
          rotate_left 1
          all_goals
           refine wpOp_of_listL rfl ?_
           ((refine wpList_step (fun K hK => ?_)); go_simp; ((refine hK _ _ ?_); clear hK K))
           refine wpList_done (qk_intro ?_)
          refine wpAny_done (by kernel_rfl) ?_ _
          rotate_left
          all_goals
           go_wp2_with fail
           go_roundg (r.length + 1)
           case measure => omega
           case rel =>
            have hz0 : r.length + 1 - c = 0 := by omega
            exact ⟨[], some ⟨b.at f, .slice aT T.length cT, T⟩, by simp, Lib.hid (by rw [hz0]; exact .inr ⟨g, o, 0, rfl, Nat.le_refl _, fun j u hj => by simp [cellsB] at hj⟩), Lib.hid (fun x hx => (by cases hx)), by simp, Lib.hid (by rw [HE.out, hdn]; rfl), HLk, hO.sub (.cons _ (.refl _)) (.refl _) hmv⟩
end Go.Proofs.YtbdfblgdmappeaaGreatDoor
