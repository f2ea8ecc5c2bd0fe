/- The reference of findings: Analyze. -/
import Derived.Test.YtjoionnnpjajmaaGreatDoorPD
import Derived.Test.YtjoionnnpjajmaaGreatDoorPC
namespace Go.Proofs.YtjoionnnpjajmaaGreatDoor
open Go.RowKit
set_option maxRecDepth 100000
def blC (l : List Bool) : List Value := l.map Value.bool
theorem blC_app (l m : List Bool) : blC (l ++ m) = blC l ++ blC m := by simp [blC]
theorem slice_Bools : SliceT Tryz.prog 71 4 1 1 := ⟨Tryz.underlying71, by omega, by
 obtain ⟨i, h1, h2, h3, h4⟩ := info_parts (show (Tryz.prog.info? 4).map (fun i => (i.zero, i.size, i.bytes)) = some (some (.bool false), 1, 1) by kernel_rfl)
 exact ⟨i, _, h1, h2, h3, h4, rfl⟩⟩
theorem Own.rowRoX {M : List Nat} {w0 w : World} {X : List Chunk} {R : List Row} {S : List Ro} {v : Value} {k size : Nat} {xs : List Value} {e : TypeId} (hO : Own M w0 X (⟨v, k, xs, e, size⟩ :: R) S w) : Own M w0 X R (roS v xs ++ S) w := by
 have h1 := hO.sub (X' := X) (R' := R) (S' := S) (.refl _) (.cons _ (.refl _)) (fun _ h => h)
 have hr := hO.rowIs (v := v) (k := k) (xs := xs) List.mem_cons_self
 rcases hr with ⟨rfl, rfl, rfl⟩ | ⟨g, o, c, rfl, _, hr⟩
 ·exact h1
 ·refine h1.addRo ⟨g, o, xs⟩ hr fun _ hm => ?_
  have hnd := nodup_blocks (A := []) (B := R) (r := ⟨.slice (some ⟨g, o, none⟩) k c, k, xs, e, size⟩) |>.1 hO.nd
  exact (hnd.2 g rfl) (by simpa [excl] using hm)
def yesF (t : List Rul) (k : Nat) : List Bool := (List.range k).map fun i => stB (stF t i)
theorem yesF_succ (t : List Rul) (k : Nat) : yesF t (k + 1) = yesF t k ++ [stB (stF t k)] := by simp [yesF, List.range_succ]
theorem yesF_get {t : List Rul} {k n : Nat} (h : k < n) : (blC (yesF t n))[k]? = some (.bool (stB (stF t k))) := by simp [yesF, blC, h]
theorem rmP_at {t : List Rul} {k : Nat} (hV : validT t = true) (hk : k < t.length) : rmP t (k : Int) = (stB (stF t k), stE (stF t k)) := by
 unfold rmP
 rw [if_pos hV, if_neg (by omega), Int.toNat_natCast]
set_option maxHeartbeats 32000000 in
theorem rAnalyze_any {vt : Value} {t : List Rul} (w : World) (hv : IsTable w vt t) (kt : okT t) (hl : t.length ≤ 20) :
  Calls Tryz.prog 14 #[vt] w (AnPost w (anR t)) := by
 have hO := own_argR hv
 have h1 : ∀ w, IsTable w vt t → Calls Tryz.prog 25 #[vt] w fun e w' => e = .returned (.bool (validT t)) ∧ Below w.heap.size w w' := fun w hv => rValid8_any w hv (by omega)
 obtain ⟨a, c, rfl, ha⟩ := hv.view
 unfold anR
 cases hV : validT t with
 | false =>
  rw [hV] at h1
  rw [if_neg Bool.false_ne_true]
  clear hV
  go_enter Tryz.func14, Tryz.ntmps14
  go_wp2_with (first | refine ldNT ?_ | ((first | refine stNT hO ?_ | refine st1NT hO ?_); clear hO; intro wv hO) | (refine bl9T 35 hO ?_; clear hO; intro n35 wv hO) | (refine bl9T 58 hO ?_; clear hO; intro n58 wv hO) | (refine bl9T 77 hO ?_; clear hO; intro n77 wv hO) | (refine bl9T 114 hO ?_; clear hO; intro n114 wv hO) | (refine bl9T 116 hO ?_; clear hO; intro n116 wv hO) | (refine ap9T 36 hO ?_; clear hO; intro g36 c36 wv hO) | (refine ap9T 59 hO ?_; clear hO; intro g59 c59 wv hO) | (refine ap9T 78 hO ?_; clear hO; intro g78 c78 wv hO) | (refine ap9T 117 hO ?_; clear hO; intro g117 c117 wv hO) | (go_at_call 25; (with_reducible refine (h1 _ (hv.keep0 hO)).mono ?_); rintro e wv ⟨rfl, hb9⟩; replace hO := hO.call hb9; clear hb9))
  go_ret2
  exact ⟨_, [], rfl, rfl, finds_nil _ _, hO.keep.below⟩
 | true =>
  rw [hV] at h1
  rw [if_pos rfl]
  go_enter Tryz.func14, Tryz.ntmps14
  go_wp2_with (first | refine ldNT ?_ | ((first | refine stNT hO ?_ | refine st1NT hO ?_); clear hO; intro wv hO) | (refine bl9T 35 hO ?_; clear hO; intro n35 wv hO) | (refine bl9T 58 hO ?_; clear hO; intro n58 wv hO) | (refine bl9T 77 hO ?_; clear hO; intro n77 wv hO) | (refine bl9T 114 hO ?_; clear hO; intro n114 wv hO) | (refine bl9T 116 hO ?_; clear hO; intro n116 wv hO) | (refine ap9T 36 hO ?_; clear hO; intro g36 c36 wv hO) | (refine ap9T 59 hO ?_; clear hO; intro g59 c59 wv hO) | (refine ap9T 78 hO ?_; clear hO; intro g78 c78 wv hO) | (refine ap9T 117 hO ?_; clear hO; intro g117 c117 wv hO) | (go_at_call 25; (with_reducible refine (h1 _ (hv.keep0 hO)).mono ?_); rintro e wv ⟨rfl, hb9⟩; replace hO := hO.call hb9; clear hb9))
  clear h1
  replace hO := hO.nilRow 4 1
  go_loopw [4, 5] (fun v q wr => ∃ k : Nat, k ≤ t.length ∧ q = .int .i64 k ∧ Hid (∀ i, i < k → ∃ x, stF t i = some x) ∧ Own [] w [] [⟨v, k, blC (yesF t k), 4, 1⟩] (roS (.slice a t.length c) (cellsR t)) wr) (fun _ q _ => t.length - (intOf q).toNat)
  case atStart => exact ⟨0, by omega, rfl, Lib.hid (fun i hi => absurd hi (by omega)), hO⟩
  case round =>
   clear hO
   obtain ⟨k, hk, rfl, HY, hO⟩ := hrel
   have s1 : IntKind.i64.wrap ((k : Int) + 1) = (k : Int) + 1 := IntWalk.i64_in _ (by omega)
   by_cases hlt : k < t.length
   ·have h2 : ∀ w, IsTable w (.slice a t.length c) t → Calls Tryz.prog 12 #[.slice a t.length c, .int .i64 k] w fun e w' => e = .returned (.tuple #[.bool (stB (stF t k)), .int .i64 (stE (stF t k))]) ∧ Below w.heap.size w w' := fun w hv => by
     have h := rRemovable_any (i := (k : Int)) w hv kt hl
     rw [rmP_at hV hlt] at h
     exact h
    have hys := yesF_succ t k
    cases hs : stF t k with
    | none =>
     rw [hs] at h2
     have HR := Lib.hid (anF_st hs hlt)
     clear hs HY hys
     go_wp2_with (first | refine ldNT ?_ | ((first | refine stNT hO ?_ | refine st1NT hO ?_); clear hO; intro wv hO) | (refine bl9T 35 hO ?_; clear hO; intro n35 wv hO) | (refine bl9T 58 hO ?_; clear hO; intro n58 wv hO) | (refine bl9T 77 hO ?_; clear hO; intro n77 wv hO) | (refine bl9T 114 hO ?_; clear hO; intro n114 wv hO) | (refine bl9T 116 hO ?_; clear hO; intro n116 wv hO) | (refine ap9T 36 hO ?_; clear hO; intro g36 c36 wv hO) | (refine ap9T 59 hO ?_; clear hO; intro g59 c59 wv hO) | (refine ap9T 78 hO ?_; clear hO; intro g78 c78 wv hO) | (refine ap9T 117 hO ?_; clear hO; intro g117 c117 wv hO) | (go_at_call 12; (with_reducible refine (h2 _ (hv.keep0 hO)).mono ?_); rintro e wv ⟨rfl, hb9⟩; replace hO := hO.call hb9; clear hb9))
     go_ret2
     exact ⟨_, [], by rw [HR.out]; rfl, by rw [HR.out]; rfl, finds_nil _ _, hO.keep.below⟩
    | some x =>
     rw [hs] at h2 hys
     have HY2 := Lib.hid (fun i (hi : i < k + 1) => (show ∃ x, stF t i = some x from if h : i = k then ⟨x, h ▸ hs⟩ else HY.out i (by omega)))
     clear hs HY
     go_wp2_with (first | refine ldNT ?_ | ((first | refine stNT hO ?_ | refine st1NT hO ?_); clear hO; intro wv hO) | (refine bl9T 35 hO ?_; clear hO; intro n35 wv hO) | (refine bl9T 58 hO ?_; clear hO; intro n58 wv hO) | (refine bl9T 77 hO ?_; clear hO; intro n77 wv hO) | (refine bl9T 114 hO ?_; clear hO; intro n114 wv hO) | (refine bl9T 116 hO ?_; clear hO; intro n116 wv hO) | (refine ap9T 36 hO ?_; clear hO; intro g36 c36 wv hO) | (refine ap9T 59 hO ?_; clear hO; intro g59 c59 wv hO) | (refine ap9T 78 hO ?_; clear hO; intro g78 c78 wv hO) | (refine ap9T 117 hO ?_; clear hO; intro g117 c117 wv hO) | (go_at_call 12; (with_reducible refine (h2 _ (hv.keep0 hO)).mono ?_); rintro e wv ⟨rfl, hb9⟩; replace hO := hO.call hb9; clear hb9) | ((with_reducible refine is_build ?_); (refine' own_buildP (o := ⟨some 35, _, _, _, _, _⟩) [.bool (stB (some x))] hO (by rfl) rfl slice_Bools rfl rfl (by rfl) (by decide) (by decide) ?_); clear hO; intro n35 wv hO) | ((with_reducible refine is_append ?_); (refine own_append (o := ⟨some 36, _, _, _, _, _⟩) hO rfl rfl slice_Bools rfl rfl (by (repeat (first | exact List.mem_cons_self | refine List.mem_cons_of_mem _ ?_))) rfl (by omega) rfl (fun _ _ => by repeat (first | exact UpdR.here | apply UpdR.there)) (by first | omega | (simp; omega)) (by unfold maxLen; first | omega | (simp; omega)) ?_); clear hO; intro g36 c36 wv hO))
     go_roundw
     case rel =>
      refine ⟨k + 1, by omega, by go_num, HY2, ?_⟩
      rw [hys, blC_app]
      exact hO.sub (.cons _ (.refl _)) (.refl _) (fun _ h => h)
     case measure => simp [intOf]; omega
   ·obtain rfl : k = t.length := by omega
    go_wp2_with (first | refine ldNT ?_ | ((first | refine stNT hO ?_ | refine st1NT hO ?_); clear hO; intro wv hO) | (refine bl9T 35 hO ?_; clear hO; intro n35 wv hO) | (refine bl9T 58 hO ?_; clear hO; intro n58 wv hO) | (refine bl9T 77 hO ?_; clear hO; intro n77 wv hO) | (refine bl9T 114 hO ?_; clear hO; intro n114 wv hO) | (refine bl9T 116 hO ?_; clear hO; intro n116 wv hO) | (refine ap9T 36 hO ?_; clear hO; intro g36 c36 wv hO) | (refine ap9T 59 hO ?_; clear hO; intro g59 c59 wv hO) | (refine ap9T 78 hO ?_; clear hO; intro g78 c78 wv hO) | (refine ap9T 117 hO ?_; clear hO; intro g117 c117 wv hO))
    obtain ⟨ys, hys⟩ : ∃ ys, yesF t t.length = ys := ⟨_, rfl⟩
    have HG := Lib.hid (fun k (hk : k < t.length) => yesF_get (t := t) hk)
    rw [hys] at hO HG
    have hfy : FormC u4 t.length := isCells_form (hO.rowIs List.mem_cons_self)
    replace hO := hO.rowRoX
    clear hys
    obtain ⟨ay, cy, rfl, hay⟩ := hfy.view
    replace hO := hO.nilRow 56 3
    go_loopw [8, 9] (fun v q wr => ∃ (k : Nat) (ps : List (Fnd × Value)), k ≤ t.length ∧ q = .int .i64 k ∧ ps.length ≤ 2 * k ∧ Hid (anF t k = some (ps.map (·.1))) ∧ Hid (∀ p ∈ ps, FormC p.2 p.1.2.2.length ∧ NewFrom w p.2) ∧ Own [] w [] [⟨v, ps.length, cellsN ps, 56, 3⟩] (roS (.slice a t.length c) (cellsR t) ++ (roS (.slice ay t.length cy) (blC ys) ++ roN ps)) wr) (fun _ q _ => t.length - (intOf q).toNat)
    case atStart => exact ⟨0, [], by omega, rfl, by simp, Lib.hid rfl, Lib.hid (fun p hp => by cases hp), hO.sub (.refl _) (.refl _) (fun q hq => by simp only [roN, List.append_nil, List.mem_append] at hq ⊢; exact hq.symm)⟩
    case round =>
     clear hO
     obtain ⟨k, ps, hk, rfl, np, HA, HF, hO⟩ := hrel
     have s1 : IntKind.i64.wrap ((k : Int) + 1) = (k : Int) + 1 := IntWalk.i64_in _ (by omega)
     by_cases hlt : k < t.length
     ·obtain ⟨g, o, rfl⟩ := ha (by omega)
      obtain ⟨gy, oy, rfl⟩ := hay (by omega)
      replace hO := hO.sub (S' := ⟨g, o, cellsR t⟩ :: ⟨gy, oy, blC ys⟩ :: roN ps) (.refl _) (.refl _) (fun q hq => hq)
      have t1 := tk_match t hlt
      have t6 := cr_permit t hlt
      have c1 := HG.out k hlt
      have h2 : ∀ w, IsTable w (.slice (some ⟨g, o, none⟩) t.length c) t → Calls Tryz.prog 26 #[.slice (some ⟨g, o, none⟩) t.length c, .int .i64 k] w (SetPost w (effF t k)) := fun w hv => rEff_any w hv kt hl hlt
      have h3 : ∀ w, IsTable w (.slice (some ⟨g, o, none⟩) t.length c) t → Calls Tryz.prog 33 #[.slice (some ⟨g, o, none⟩) t.length c, .int .i64 k] w (RetNums w (befT t[k].1 t k)) := fun w hv => rdead_any w hv (by omega) hlt
      obtain ⟨⟨e, rm⟩, hs⟩ := HY.out k hlt
      rw [hs] at c1
      replace c1 : (blC ys)[k]? = some (.bool rm) := c1
      have hd : (effF t k = some [] ∧ e = []) ∨ (effF t k = some e ∧ e.isEmpty = false) := by
       rcases stF_cases hs with ⟨e', h1, h2, h3⟩ | ⟨e', p, q, h1, h2, _, _, h3⟩
       ·rw [List.isEmpty_iff.1 h2] at h1; exact .inl ⟨h1, congrArg Prod.fst h3⟩
       ·have h4 : e = e' := congrArg Prod.fst h3
        subst h4; exact .inr ⟨h1, h2⟩
      rcases hd with ⟨he, rfl⟩ | ⟨he, h0⟩
      ·rw [he] at h2
       have HR := Lib.hid (anF_dead1 hlt HA.out he)
       clear hs he HA
       generalize t[k] = r at *
       have nb := befT_len r.1 t k
       generalize befT r.1 t k = bs at *
       go_wp2_with (first | refine ldNT ?_ | ((first | refine stNT hO ?_ | refine st1NT hO ?_); clear hO; intro wv hO) | (refine bl9T 35 hO ?_; clear hO; intro n35 wv hO) | (refine bl9T 58 hO ?_; clear hO; intro n58 wv hO) | (refine bl9T 77 hO ?_; clear hO; intro n77 wv hO) | (refine bl9T 114 hO ?_; clear hO; intro n114 wv hO) | (refine bl9T 116 hO ?_; clear hO; intro n116 wv hO) | (refine ap9T 36 hO ?_; clear hO; intro g36 c36 wv hO) | (refine ap9T 59 hO ?_; clear hO; intro g59 c59 wv hO) | (refine ap9T 78 hO ?_; clear hO; intro g78 c78 wv hO) | (refine ap9T 117 hO ?_; clear hO; intro g117 c117 wv hO) | (go_at_call 26; (with_reducible refine (h2 _ (hv.keep0 hO)).mono ?_); rintro e wv hpo; obtain ⟨v9, rfl, hv9, hn9, hb9⟩ := hpo.yes; have hf9 := hv9.form; obtain ⟨a9, c9, rfl, -⟩ := hv9.form.view; replace hO := hO.gainB hb9 hv9 hn9; clear hn9 hb9 hpo hv9) | (go_at_call 33; (with_reducible refine (h3 _ (hv.keep0 hO)).mono ?_); rintro e wv ⟨v6, rfl, ⟨hv9, hn9⟩, hb9⟩; have hf6 := isCells_form hv9; have hn6 : NewFrom w v6 := (fun g hg => Nat.le_trans hO.keep.size (hn9 g hg)); replace hO := hO.gainC hb9 hv9 hn9; obtain ⟨a6, c6, rfl, -⟩ := hf6.view; clear hb9 hv9 hn9) | ((with_reducible refine is_build ?_); (refine' own_buildN (o := ⟨some 58, _, _, _, _, _⟩) [.agg #[.int .i64 k, .int .i64 1, .slice a6 bs.length c6]] hO (by rfl) rfl slice_Finds rfl rfl (by rfl) (by decide) (by decide) ?_); clear hO; intro n58 wv hO) | ((with_reducible refine is_append ?_); (refine own_append (o := ⟨some 59, _, _, _, _, _⟩) hO rfl rfl slice_Finds rfl rfl (by (repeat (first | exact List.mem_cons_self | refine List.mem_cons_of_mem _ ?_))) rfl (by omega) rfl (fun _ _ => by repeat (first | exact UpdR.here | apply UpdR.there)) (by first | omega | (simp; omega)) (by unfold maxLen; first | omega | (simp; omega)) ?_); clear hO; intro g59 c59 wv hO))
       go_roundw
       case rel =>
        refine ⟨k + 1, ps ++ [(((k : Int), 1, bs), Value.slice a6 bs.length c6)], by omega, by go_num, by simp; omega, Lib.hid ?_, Lib.hid ?_, ?_⟩
        ·rw [HR.out, List.map_append]; rfl
        ·intro p hp
         rcases List.mem_append.1 hp with hp | hp
         ·exact HF.out p hp
         ·rw [List.mem_singleton.1 hp]; exact ⟨hf6, hn6⟩
        ·rw [List.length_append, cellsN_append]
         exact hO.sub (.cons _ (.refl _)) (.refl _) (fun q hq => by simp only [roN_append, roN, roS, List.append_nil, List.mem_append, List.mem_cons, List.not_mem_nil, or_false] at hq ⊢; grind)
       case measure => simp [intOf]; omega
      ·rw [he] at h2
       have hn : 0 < e.length := List.length_pos_iff.2 (fun e => by rw [e] at h0; cases h0)
       have g3 : ((e.length : Int) == 0) = false := beq_eq_false_iff_ne.2 (by omega)
       clear hn h3
       cases rm with
       | false =>
        obtain ⟨x, hx⟩ : ∃ x, excF t[k] (t.drop (k + 1)) (k + 1) = x := ⟨_, rfl⟩
        have HR := Lib.hid (anF_some hlt HA.out hs h0)
        rw [hx] at HR
        have HX := Lib.hid hx
        clear hs h0 HA hx he
        generalize t[k] = r at *
        obtain ⟨b, pr⟩ := r
        dsimp only at t1 t6
        go_wp2_with (first | refine ldNT ?_ | ((first | refine stNT hO ?_ | refine st1NT hO ?_); clear hO; intro wv hO) | (refine bl9T 35 hO ?_; clear hO; intro n35 wv hO) | (refine bl9T 58 hO ?_; clear hO; intro n58 wv hO) | (refine bl9T 77 hO ?_; clear hO; intro n77 wv hO) | (refine bl9T 114 hO ?_; clear hO; intro n114 wv hO) | (refine bl9T 116 hO ?_; clear hO; intro n116 wv hO) | (refine ap9T 36 hO ?_; clear hO; intro g36 c36 wv hO) | (refine ap9T 59 hO ?_; clear hO; intro g59 c59 wv hO) | (refine ap9T 78 hO ?_; clear hO; intro g78 c78 wv hO) | (refine ap9T 117 hO ?_; clear hO; intro g117 c117 wv hO) | (go_at_call 26; (with_reducible refine (h2 _ (hv.keep0 hO)).mono ?_); rintro e wv hpo; obtain ⟨v9, rfl, hv9, hn9, hb9⟩ := hpo.yes; have hf9 := hv9.form; obtain ⟨a9, c9, rfl, -⟩ := hv9.form.view; replace hO := hO.call hb9; clear hn9; clear hb9 hpo hv9))
        clear h2 g3
        generalize hr : (b, pr) = r at *
        generalize ps = pz at *
        subst hr
        go_loopw [8, 14] (fun v q wr => ∃ j : Nat, k + 1 ≤ j ∧ j ≤ t.length ∧ q = .int .i64 j ∧ Hid (excF (b, pr) (t.drop j) j = x) ∧ Own [] w [] [⟨v, pz.length, cellsN pz, 56, 3⟩] (⟨g, o, cellsR t⟩ :: ⟨gy, oy, blC ys⟩ :: roN pz) wr) (fun _ q _ => t.length - (intOf q).toNat)
        case atStart => exact ⟨k + 1, by omega, by omega, by go_num, HX, hO⟩
        case round =>
         clear hO
         obtain ⟨j, hkj, hj, rfl, HE, hO⟩ := hrel
         have s2 : IntKind.i64.wrap ((j : Int) + 1) = (j : Int) + 1 := IntWalk.i64_in _ (by omega)
         by_cases hjl : j < t.length
         ·have t3 := tk_match t hjl
          have t4 := cr_permit t hjl
          have hE := HE.out
          rw [excF_drop hjl] at hE
          clear HE
          generalize t[j] = q1 at *
          obtain ⟨b1, p1⟩ := q1
          dsimp only at t3 t4 hE
          by_cases hp : p1 = pr
          ·have g4 : (p1 != pr) = false := by rw [hp]; simp
           rw [g4, Bool.false_and, if_neg Bool.false_ne_true] at hE
           have HE2 := Lib.hid hE
           clear hE g4
           subst hp
           cases p1
           all_goals
            go_wp2_with (first | refine ldNT ?_ | ((first | refine stNT hO ?_ | refine st1NT hO ?_); clear hO; intro wv hO) | (refine bl9T 35 hO ?_; clear hO; intro n35 wv hO) | (refine bl9T 58 hO ?_; clear hO; intro n58 wv hO) | (refine bl9T 77 hO ?_; clear hO; intro n77 wv hO) | (refine bl9T 114 hO ?_; clear hO; intro n114 wv hO) | (refine bl9T 116 hO ?_; clear hO; intro n116 wv hO) | (refine ap9T 36 hO ?_; clear hO; intro g36 c36 wv hO) | (refine ap9T 59 hO ?_; clear hO; intro g59 c59 wv hO) | (refine ap9T 78 hO ?_; clear hO; intro g78 c78 wv hO) | (refine ap9T 117 hO ?_; clear hO; intro g117 c117 wv hO))
            (try simp only [Act.put]); (refine own_quiet hO (by kernel_rfl) (by kernel_rfl) ?_; clear hO; (repeat (first | go_big_quiet_skip | (go_big_quiet_want; (first | ((with_reducible refine is_loadQ ?_); (first | (refine q_ldT (h := ?_))); (try simp only [Act.put]); (try simp only [sI9, sZ9, sS9]); go_big_quiet_on) | (go_big_quiet_op; (first | go_big_quiet_on | ((refine ⟨_, fun _ _ => rfl, ?_⟩); go_big_quiet_on) | go_big_quiet_call (fail))))))); (refine wpQuiet_nil ?_); intro wv hO)
            go_wp2_with (first | refine ldNT ?_ | ((first | refine stNT hO ?_ | refine st1NT hO ?_); clear hO; intro wv hO) | (refine bl9T 35 hO ?_; clear hO; intro n35 wv hO) | (refine bl9T 58 hO ?_; clear hO; intro n58 wv hO) | (refine bl9T 77 hO ?_; clear hO; intro n77 wv hO) | (refine bl9T 114 hO ?_; clear hO; intro n114 wv hO) | (refine bl9T 116 hO ?_; clear hO; intro n116 wv hO) | (refine ap9T 36 hO ?_; clear hO; intro g36 c36 wv hO) | (refine ap9T 59 hO ?_; clear hO; intro g59 c59 wv hO) | (refine ap9T 78 hO ?_; clear hO; intro g78 c78 wv hO) | (refine ap9T 117 hO ?_; clear hO; intro g117 c117 wv hO))
            go_roundw
            case rel => exact ⟨j + 1, by omega, by omega, by go_num, HE2, hO⟩
            case measure => simp [intOf]; omega
          ·have g4 : (p1 != pr) = true := by simpa using hp
           have g5 : (p1 == pr) = false := beq_eq_false_iff_ne.2 hp
           rw [g4, Bool.true_and] at hE
           have h6 := rsubset_any b b1
           generalize subB b b1 = m at *
           cases m
           ·rw [if_neg Bool.false_ne_true] at hE
            have HE2 := Lib.hid hE
            clear hE hp
            go_wp2_with (first | refine ldNT ?_ | ((first | refine stNT hO ?_ | refine st1NT hO ?_); clear hO; intro wv hO) | (refine bl9T 35 hO ?_; clear hO; intro n35 wv hO) | (refine bl9T 58 hO ?_; clear hO; intro n58 wv hO) | (refine bl9T 77 hO ?_; clear hO; intro n77 wv hO) | (refine bl9T 114 hO ?_; clear hO; intro n114 wv hO) | (refine bl9T 116 hO ?_; clear hO; intro n116 wv hO) | (refine ap9T 36 hO ?_; clear hO; intro g36 c36 wv hO) | (refine ap9T 59 hO ?_; clear hO; intro g59 c59 wv hO) | (refine ap9T 78 hO ?_; clear hO; intro g78 c78 wv hO) | (refine ap9T 117 hO ?_; clear hO; intro g117 c117 wv hO))
            (try simp only [Act.put]); (refine own_quiet hO (by kernel_rfl) (by kernel_rfl) ?_; clear hO; (repeat (first | go_big_quiet_skip | (go_big_quiet_want; (first | ((with_reducible refine is_loadQ ?_); (first | (refine q_ldT (h := ?_))); (try simp only [Act.put]); (try simp only [sI9, sZ9, sS9]); go_big_quiet_on) | (go_big_quiet_op; (first | go_big_quiet_on | ((refine ⟨_, fun _ _ => rfl, ?_⟩); go_big_quiet_on) | go_big_quiet_call ((intro hq; go_at_call 35; exact q_call (h6 _) hq)))))))); (refine wpQuiet_nil ?_); intro wv hO)
            go_wp2_with (first | refine ldNT ?_ | ((first | refine stNT hO ?_ | refine st1NT hO ?_); clear hO; intro wv hO) | (refine bl9T 35 hO ?_; clear hO; intro n35 wv hO) | (refine bl9T 58 hO ?_; clear hO; intro n58 wv hO) | (refine bl9T 77 hO ?_; clear hO; intro n77 wv hO) | (refine bl9T 114 hO ?_; clear hO; intro n114 wv hO) | (refine bl9T 116 hO ?_; clear hO; intro n116 wv hO) | (refine ap9T 36 hO ?_; clear hO; intro g36 c36 wv hO) | (refine ap9T 59 hO ?_; clear hO; intro g59 c59 wv hO) | (refine ap9T 78 hO ?_; clear hO; intro g78 c78 wv hO) | (refine ap9T 117 hO ?_; clear hO; intro g117 c117 wv hO))
            go_roundw
            case rel => exact ⟨j + 1, by omega, by omega, by go_num, HE2, hO⟩
            case measure => simp [intOf]; omega
           ·rw [if_pos rfl] at hE
            have HE2 := Lib.hid hE.symm
            clear hE hp
            go_wp2_with (first | refine ldNT ?_ | ((first | refine stNT hO ?_ | refine st1NT hO ?_); clear hO; intro wv hO) | (refine bl9T 35 hO ?_; clear hO; intro n35 wv hO) | (refine bl9T 58 hO ?_; clear hO; intro n58 wv hO) | (refine bl9T 77 hO ?_; clear hO; intro n77 wv hO) | (refine bl9T 114 hO ?_; clear hO; intro n114 wv hO) | (refine bl9T 116 hO ?_; clear hO; intro n116 wv hO) | (refine ap9T 36 hO ?_; clear hO; intro g36 c36 wv hO) | (refine ap9T 59 hO ?_; clear hO; intro g59 c59 wv hO) | (refine ap9T 78 hO ?_; clear hO; intro g78 c78 wv hO) | (refine ap9T 117 hO ?_; clear hO; intro g117 c117 wv hO))
            (try simp only [Act.put]); (refine own_quiet hO (by kernel_rfl) (by kernel_rfl) ?_; clear hO; (repeat (first | go_big_quiet_skip | (go_big_quiet_want; (first | ((with_reducible refine is_loadQ ?_); (first | (refine q_ldT (h := ?_))); (try simp only [Act.put]); (try simp only [sI9, sZ9, sS9]); go_big_quiet_on) | (go_big_quiet_op; (first | go_big_quiet_on | ((refine ⟨_, fun _ _ => rfl, ?_⟩); go_big_quiet_on) | go_big_quiet_call ((intro hq; go_at_call 35; exact q_call (h6 _) hq)))))))); (refine wpQuiet_nil ?_); intro wv hO)
            go_wp2_with (first | refine ldNT ?_ | ((first | refine stNT hO ?_ | refine st1NT hO ?_); clear hO; intro wv hO) | (refine bl9T 35 hO ?_; clear hO; intro n35 wv hO) | (refine bl9T 58 hO ?_; clear hO; intro n58 wv hO) | (refine bl9T 77 hO ?_; clear hO; intro n77 wv hO) | (refine bl9T 114 hO ?_; clear hO; intro n114 wv hO) | (refine bl9T 116 hO ?_; clear hO; intro n116 wv hO) | (refine ap9T 36 hO ?_; clear hO; intro g36 c36 wv hO) | (refine ap9T 59 hO ?_; clear hO; intro g59 c59 wv hO) | (refine ap9T 78 hO ?_; clear hO; intro g78 c78 wv hO) | (refine ap9T 117 hO ?_; clear hO; intro g117 c117 wv hO) | ((with_reducible refine is_build ?_); (refine' own_buildP (o := ⟨some 114, _, _, _, _, _⟩) [.int .i64 j] hO (by rfl) rfl slice_Ints rfl rfl (by rfl) (by decide) (by decide) ?_); clear hO; intro n114 wv hO) | ((with_reducible refine is_build ?_); (refine' own_buildN (o := ⟨some 116, _, _, _, _, _⟩) [.agg #[.int .i64 k, .int .i64 3, .slice (some ⟨n114, 0, none⟩) 1 1]] hO (by rfl) rfl slice_Finds rfl rfl (by rfl) (by decide) (by decide) ?_); clear hO; intro n116 wv hO) | ((with_reducible refine is_append ?_); (refine own_append (o := ⟨some 117, _, _, _, _, _⟩) hO rfl rfl slice_Finds rfl rfl (by (repeat (first | exact List.mem_cons_self | refine List.mem_cons_of_mem _ ?_))) rfl (by omega) rfl (fun _ _ => by repeat (first | exact UpdR.here | apply UpdR.there)) (by first | omega | (simp; omega)) (by unfold maxLen; first | omega | (simp; omega)) ?_); clear hO; intro g117 c117 wv hO))
            go_roundw
            case rel =>
             have hn2 := own_newC (l := 1) (c := 1) hO (List.mem_cons_of_mem _ List.mem_cons_self)
             replace hO := (hO.sub (X' := [⟨n114, [.int .i64 j], 3⟩]) (.cons _ (.refl _)) (.refl _) (fun _ h => h)).chunkRoX
             refine ⟨k + 1, pz ++ [(((k : Int), 3, [(j : Int)]), .slice (some ⟨n114, 0, none⟩) 1 1)], by omega, by go_num, by simp; omega, Lib.hid ?_, Lib.hid ?_, ?_⟩
             ·rw [HR.out, HE2.out, List.map_append]; rfl
             ·intro p hp
              rcases List.mem_append.1 hp with hp | hp
              ·exact HF.out p hp
              ·rw [List.mem_singleton.1 hp]; exact ⟨.inr ⟨_, _, _, rfl, Nat.le_refl _⟩, hn2⟩
             ·rw [List.length_append, cellsN_append]
              exact hO.sub (.refl _) (.refl _) (fun q hq => by simp only [roN_append, roN, roS, List.append_nil, List.mem_append, List.mem_cons, List.not_mem_nil, or_false] at hq ⊢; grind)
            case measure => simp [intOf]; omega
         ·obtain rfl : j = t.length := by omega
          have hE := HE.out
          rw [List.drop_length, excF] at hE
          have HE2 := Lib.hid hE.symm
          clear hE HE
          go_wp2_with (first | refine ldNT ?_ | ((first | refine stNT hO ?_ | refine st1NT hO ?_); clear hO; intro wv hO) | (refine bl9T 35 hO ?_; clear hO; intro n35 wv hO) | (refine bl9T 58 hO ?_; clear hO; intro n58 wv hO) | (refine bl9T 77 hO ?_; clear hO; intro n77 wv hO) | (refine bl9T 114 hO ?_; clear hO; intro n114 wv hO) | (refine bl9T 116 hO ?_; clear hO; intro n116 wv hO) | (refine ap9T 36 hO ?_; clear hO; intro g36 c36 wv hO) | (refine ap9T 59 hO ?_; clear hO; intro g59 c59 wv hO) | (refine ap9T 78 hO ?_; clear hO; intro g78 c78 wv hO) | (refine ap9T 117 hO ?_; clear hO; intro g117 c117 wv hO))
          go_roundw
          case rel => exact ⟨k + 1, pz, by omega, by go_num, by omega, Lib.hid (by rw [HR.out, HE2.out]; simp [excL]), HF, hO⟩
          case measure => simp [intOf]; omega
       | true =>
        have h4 : ∀ w, IsTable w (.slice (some ⟨g, o, none⟩) t.length c) t → Calls Tryz.prog 34 #[.slice (some ⟨g, o, none⟩) t.length c, .int .i64 k] w (NumPost w (heirN (woF t k) e k (t.length - 1 - k))) := fun w hv => rredundant_any w hv kt hl hlt he
        cases hh : heirN (woF t k) e k (t.length - 1 - k) with
        | none =>
         rw [hh] at h4
         have HR := Lib.hid (anF_redN hlt hlt hs h0 hh)
         clear hs h0 HA hh he
         generalize t[k] = r at *
         go_wp2_with (first | refine ldNT ?_ | ((first | refine stNT hO ?_ | refine st1NT hO ?_); clear hO; intro wv hO) | (refine bl9T 35 hO ?_; clear hO; intro n35 wv hO) | (refine bl9T 58 hO ?_; clear hO; intro n58 wv hO) | (refine bl9T 77 hO ?_; clear hO; intro n77 wv hO) | (refine bl9T 114 hO ?_; clear hO; intro n114 wv hO) | (refine bl9T 116 hO ?_; clear hO; intro n116 wv hO) | (refine ap9T 36 hO ?_; clear hO; intro g36 c36 wv hO) | (refine ap9T 59 hO ?_; clear hO; intro g59 c59 wv hO) | (refine ap9T 78 hO ?_; clear hO; intro g78 c78 wv hO) | (refine ap9T 117 hO ?_; clear hO; intro g117 c117 wv hO) | (go_at_call 26; (with_reducible refine (h2 _ (hv.keep0 hO)).mono ?_); rintro e wv hpo; obtain ⟨v9, rfl, hv9, hn9, hb9⟩ := hpo.yes; have hf9 := hv9.form; obtain ⟨a9, c9, rfl, -⟩ := hv9.form.view; replace hO := hO.call hb9; clear hn9; clear hb9 hpo hv9) | (go_at_call 34; (with_reducible refine (h4 _ (hv.keep0 hO)).mono ?_); rintro e wv ⟨v8, rfl, -, -, hb9⟩; replace hO := hO.call hb9; clear hb9))
         go_ret2
         exact ⟨_, [], by rw [HR.out]; rfl, by rw [HR.out]; rfl, finds_nil _ _, hO.keep.below⟩
        | some hs8 =>
         rw [hh] at h4
         obtain ⟨x, hx⟩ : ∃ x, excF t[k] (t.drop (k + 1)) (k + 1) = x := ⟨_, rfl⟩
         have HR := Lib.hid (anF_red hlt HA.out hs h0 hh)
         rw [hx] at HR
         have HX := Lib.hid hx
         clear hs h0 HA hx hh he
         generalize t[k] = r at *
         obtain ⟨b, pr⟩ := r
         dsimp only at t1 t6
         go_wp2_with (first | refine ldNT ?_ | ((first | refine stNT hO ?_ | refine st1NT hO ?_); clear hO; intro wv hO) | (refine bl9T 35 hO ?_; clear hO; intro n35 wv hO) | (refine bl9T 58 hO ?_; clear hO; intro n58 wv hO) | (refine bl9T 77 hO ?_; clear hO; intro n77 wv hO) | (refine bl9T 114 hO ?_; clear hO; intro n114 wv hO) | (refine bl9T 116 hO ?_; clear hO; intro n116 wv hO) | (refine ap9T 36 hO ?_; clear hO; intro g36 c36 wv hO) | (refine ap9T 59 hO ?_; clear hO; intro g59 c59 wv hO) | (refine ap9T 78 hO ?_; clear hO; intro g78 c78 wv hO) | (refine ap9T 117 hO ?_; clear hO; intro g117 c117 wv hO) | (go_at_call 26; (with_reducible refine (h2 _ (hv.keep0 hO)).mono ?_); rintro e wv hpo; obtain ⟨v9, rfl, hv9, hn9, hb9⟩ := hpo.yes; have hf9 := hv9.form; obtain ⟨a9, c9, rfl, -⟩ := hv9.form.view; replace hO := hO.call hb9; clear hn9; clear hb9 hpo hv9) | (go_at_call 34; (with_reducible refine (h4 _ (hv.keep0 hO)).mono ?_); rintro e wv ⟨v6, rfl, hv9, hn9, hb9⟩; have hf6 := isCells_form hv9; have hn6 : NewFrom w v6 := (fun g hg => Nat.le_trans hO.keep.size (hn9 g hg)); replace hO := hO.gainC hb9 hv9 hn9; obtain ⟨a6, c6, rfl, -⟩ := hf6.view; clear hb9 hv9 hn9) | ((with_reducible refine is_build ?_); (refine' own_buildN (o := ⟨some 77, _, _, _, _, _⟩) [.agg #[.int .i64 k, .int .i64 2, .slice a6 hs8.length c6]] hO (by rfl) rfl slice_Finds rfl rfl (by rfl) (by decide) (by decide) ?_); clear hO; intro n77 wv hO) | ((with_reducible refine is_append ?_); (refine own_append (o := ⟨some 78, _, _, _, _, _⟩) hO rfl rfl slice_Finds rfl rfl (by (repeat (first | exact List.mem_cons_self | refine List.mem_cons_of_mem _ ?_))) rfl (by omega) rfl (fun _ _ => by repeat (first | exact UpdR.here | apply UpdR.there)) (by first | omega | (simp; omega)) (by unfold maxLen; first | omega | (simp; omega)) ?_); clear hO; intro g78 c78 wv hO))
         clear h2 g3 h4
         have HF2 : Hid (∀ p ∈ ps ++ [(((k : Int), 2, hs8), Value.slice a6 hs8.length c6)], FormC p.2 p.1.2.2.length ∧ NewFrom w p.2) := Lib.hid fun p hp => by
          rcases List.mem_append.1 hp with hp | hp
          ·exact HF.out p hp
          ·rw [List.mem_singleton.1 hp]; exact ⟨hf6, hn6⟩
         have e3 : (ps ++ [(((k : Int), 2, hs8), Value.slice a6 hs8.length c6)]).length = ps.length + 1 := by simp
         have e4 : cellsN ps ++ [Value.int .i64 k, .int .i64 2, .slice a6 hs8.length c6] = cellsN (ps ++ [(((k : Int), 2, hs8), Value.slice a6 hs8.length c6)]) := by rw [cellsN_append]; rfl
         have e5 : ps.map (·.1) ++ [((k : Int), 2, hs8)] = (ps ++ [((((k : Int), 2, hs8) : Fnd), Value.slice a6 hs8.length c6)]).map (fun p : Fnd × Value => p.1) := by simp
         replace hO := hO.sub (X' := []) (S' := ⟨g, o, cellsR t⟩ :: ⟨gy, oy, blC ys⟩ :: roN (ps ++ [(((k : Int), 2, hs8), Value.slice a6 hs8.length c6)])) (.cons _ (.refl _)) (.refl _) (fun q hq => by simp only [roN_append, roN, roS, List.append_nil, List.mem_append, List.mem_cons] at hq ⊢; grind)
         rw [show flat [.agg #[.int .i64 k, .int .i64 2, .slice a6 hs8.length c6]] = [Value.int .i64 k, .int .i64 2, .slice a6 hs8.length c6] from rfl, e4, ← e3] at hO
         rw [e5] at HR
         clear HF
         have HF := HF2
         have np2 : (ps ++ [(((k : Int), 2, hs8), Value.slice a6 hs8.length c6)]).length ≤ 2 * k + 1 := by omega
         have HN9 := Lib.hid e3.symm
         clear HF2 e3 e4 e5 np
         have np := np2
         clear np2
         generalize ps ++ [(((k : Int), 2, hs8), Value.slice a6 hs8.length c6)] = pz at *
         go_loopw [8, 14] (fun v q wr => ∃ j : Nat, k + 1 ≤ j ∧ j ≤ t.length ∧ q = .int .i64 j ∧ Hid (excF (b, pr) (t.drop j) j = x) ∧ Own [] w [] [⟨v, pz.length, cellsN pz, 56, 3⟩] (⟨g, o, cellsR t⟩ :: ⟨gy, oy, blC ys⟩ :: roN pz) wr) (fun _ q _ => t.length - (intOf q).toNat)
         case atStart => exact ⟨k + 1, by omega, by omega, by go_num, HX, by rw [HN9.out]; exact hO⟩
         case round =>
          clear hO
          obtain ⟨j, hkj, hj, rfl, HE, hO⟩ := hrel
          have s2 : IntKind.i64.wrap ((j : Int) + 1) = (j : Int) + 1 := IntWalk.i64_in _ (by omega)
          by_cases hjl : j < t.length
          ·have t3 := tk_match t hjl
           have t4 := cr_permit t hjl
           have hE := HE.out
           rw [excF_drop hjl] at hE
           clear HE
           generalize t[j] = q1 at *
           obtain ⟨b1, p1⟩ := q1
           dsimp only at t3 t4 hE
           by_cases hp : p1 = pr
           ·have g4 : (p1 != pr) = false := by rw [hp]; simp
            rw [g4, Bool.false_and, if_neg Bool.false_ne_true] at hE
            have HE2 := Lib.hid hE
            clear hE g4
            subst hp
            cases p1
            all_goals
             go_wp2_with (first | refine ldNT ?_ | ((first | refine stNT hO ?_ | refine st1NT hO ?_); clear hO; intro wv hO) | (refine bl9T 35 hO ?_; clear hO; intro n35 wv hO) | (refine bl9T 58 hO ?_; clear hO; intro n58 wv hO) | (refine bl9T 77 hO ?_; clear hO; intro n77 wv hO) | (refine bl9T 114 hO ?_; clear hO; intro n114 wv hO) | (refine bl9T 116 hO ?_; clear hO; intro n116 wv hO) | (refine ap9T 36 hO ?_; clear hO; intro g36 c36 wv hO) | (refine ap9T 59 hO ?_; clear hO; intro g59 c59 wv hO) | (refine ap9T 78 hO ?_; clear hO; intro g78 c78 wv hO) | (refine ap9T 117 hO ?_; clear hO; intro g117 c117 wv hO))
             (try simp only [Act.put]); (refine own_quiet hO (by kernel_rfl) (by kernel_rfl) ?_; clear hO; (repeat (first | go_big_quiet_skip | (go_big_quiet_want; (first | ((with_reducible refine is_loadQ ?_); (first | (refine q_ldT (h := ?_))); (try simp only [Act.put]); (try simp only [sI9, sZ9, sS9]); go_big_quiet_on) | (go_big_quiet_op; (first | go_big_quiet_on | ((refine ⟨_, fun _ _ => rfl, ?_⟩); go_big_quiet_on) | go_big_quiet_call (fail))))))); (refine wpQuiet_nil ?_); intro wv hO)
             go_wp2_with (first | refine ldNT ?_ | ((first | refine stNT hO ?_ | refine st1NT hO ?_); clear hO; intro wv hO) | (refine bl9T 35 hO ?_; clear hO; intro n35 wv hO) | (refine bl9T 58 hO ?_; clear hO; intro n58 wv hO) | (refine bl9T 77 hO ?_; clear hO; intro n77 wv hO) | (refine bl9T 114 hO ?_; clear hO; intro n114 wv hO) | (refine bl9T 116 hO ?_; clear hO; intro n116 wv hO) | (refine ap9T 36 hO ?_; clear hO; intro g36 c36 wv hO) | (refine ap9T 59 hO ?_; clear hO; intro g59 c59 wv hO) | (refine ap9T 78 hO ?_; clear hO; intro g78 c78 wv hO) | (refine ap9T 117 hO ?_; clear hO; intro g117 c117 wv hO))
             go_roundw
             case rel => exact ⟨j + 1, by omega, by omega, by go_num, HE2, hO⟩
             case measure => simp [intOf]; omega
           ·have g4 : (p1 != pr) = true := by simpa using hp
            have g5 : (p1 == pr) = false := beq_eq_false_iff_ne.2 hp
            rw [g4, Bool.true_and] at hE
            have h6 := rsubset_any b b1
            generalize subB b b1 = m at *
            cases m
            ·rw [if_neg Bool.false_ne_true] at hE
             have HE2 := Lib.hid hE
             clear hE hp
             go_wp2_with (first | refine ldNT ?_ | ((first | refine stNT hO ?_ | refine st1NT hO ?_); clear hO; intro wv hO) | (refine bl9T 35 hO ?_; clear hO; intro n35 wv hO) | (refine bl9T 58 hO ?_; clear hO; intro n58 wv hO) | (refine bl9T 77 hO ?_; clear hO; intro n77 wv hO) | (refine bl9T 114 hO ?_; clear hO; intro n114 wv hO) | (refine bl9T 116 hO ?_; clear hO; intro n116 wv hO) | (refine ap9T 36 hO ?_; clear hO; intro g36 c36 wv hO) | (refine ap9T 59 hO ?_; clear hO; intro g59 c59 wv hO) | (refine ap9T 78 hO ?_; clear hO; intro g78 c78 wv hO) | (refine ap9T 117 hO ?_; clear hO; intro g117 c117 wv hO))
             (try simp only [Act.put]); (refine own_quiet hO (by kernel_rfl) (by kernel_rfl) ?_; clear hO; (repeat (first | go_big_quiet_skip | (go_big_quiet_want; (first | ((with_reducible refine is_loadQ ?_); (first | (refine q_ldT (h := ?_))); (try simp only [Act.put]); (try simp only [sI9, sZ9, sS9]); go_big_quiet_on) | (go_big_quiet_op; (first | go_big_quiet_on | ((refine ⟨_, fun _ _ => rfl, ?_⟩); go_big_quiet_on) | go_big_quiet_call ((intro hq; go_at_call 35; exact q_call (h6 _) hq)))))))); (refine wpQuiet_nil ?_); intro wv hO)
             go_wp2_with (first | refine ldNT ?_ | ((first | refine stNT hO ?_ | refine st1NT hO ?_); clear hO; intro wv hO) | (refine bl9T 35 hO ?_; clear hO; intro n35 wv hO) | (refine bl9T 58 hO ?_; clear hO; intro n58 wv hO) | (refine bl9T 77 hO ?_; clear hO; intro n77 wv hO) | (refine bl9T 114 hO ?_; clear hO; intro n114 wv hO) | (refine bl9T 116 hO ?_; clear hO; intro n116 wv hO) | (refine ap9T 36 hO ?_; clear hO; intro g36 c36 wv hO) | (refine ap9T 59 hO ?_; clear hO; intro g59 c59 wv hO) | (refine ap9T 78 hO ?_; clear hO; intro g78 c78 wv hO) | (refine ap9T 117 hO ?_; clear hO; intro g117 c117 wv hO))
             go_roundw
             case rel => exact ⟨j + 1, by omega, by omega, by go_num, HE2, hO⟩
             case measure => simp [intOf]; omega
            ·rw [if_pos rfl] at hE
             have HE2 := Lib.hid hE.symm
             clear hE hp
             go_wp2_with (first | refine ldNT ?_ | ((first | refine stNT hO ?_ | refine st1NT hO ?_); clear hO; intro wv hO) | (refine bl9T 35 hO ?_; clear hO; intro n35 wv hO) | (refine bl9T 58 hO ?_; clear hO; intro n58 wv hO) | (refine bl9T 77 hO ?_; clear hO; intro n77 wv hO) | (refine bl9T 114 hO ?_; clear hO; intro n114 wv hO) | (refine bl9T 116 hO ?_; clear hO; intro n116 wv hO) | (refine ap9T 36 hO ?_; clear hO; intro g36 c36 wv hO) | (refine ap9T 59 hO ?_; clear hO; intro g59 c59 wv hO) | (refine ap9T 78 hO ?_; clear hO; intro g78 c78 wv hO) | (refine ap9T 117 hO ?_; clear hO; intro g117 c117 wv hO))
             (try simp only [Act.put]); (refine own_quiet hO (by kernel_rfl) (by kernel_rfl) ?_; clear hO; (repeat (first | go_big_quiet_skip | (go_big_quiet_want; (first | ((with_reducible refine is_loadQ ?_); (first | (refine q_ldT (h := ?_))); (try simp only [Act.put]); (try simp only [sI9, sZ9, sS9]); go_big_quiet_on) | (go_big_quiet_op; (first | go_big_quiet_on | ((refine ⟨_, fun _ _ => rfl, ?_⟩); go_big_quiet_on) | go_big_quiet_call ((intro hq; go_at_call 35; exact q_call (h6 _) hq)))))))); (refine wpQuiet_nil ?_); intro wv hO)
             go_wp2_with (first | refine ldNT ?_ | ((first | refine stNT hO ?_ | refine st1NT hO ?_); clear hO; intro wv hO) | (refine bl9T 35 hO ?_; clear hO; intro n35 wv hO) | (refine bl9T 58 hO ?_; clear hO; intro n58 wv hO) | (refine bl9T 77 hO ?_; clear hO; intro n77 wv hO) | (refine bl9T 114 hO ?_; clear hO; intro n114 wv hO) | (refine bl9T 116 hO ?_; clear hO; intro n116 wv hO) | (refine ap9T 36 hO ?_; clear hO; intro g36 c36 wv hO) | (refine ap9T 59 hO ?_; clear hO; intro g59 c59 wv hO) | (refine ap9T 78 hO ?_; clear hO; intro g78 c78 wv hO) | (refine ap9T 117 hO ?_; clear hO; intro g117 c117 wv hO) | ((with_reducible refine is_build ?_); (refine' own_buildP (o := ⟨some 114, _, _, _, _, _⟩) [.int .i64 j] hO (by rfl) rfl slice_Ints rfl rfl (by rfl) (by decide) (by decide) ?_); clear hO; intro n114 wv hO) | ((with_reducible refine is_build ?_); (refine' own_buildN (o := ⟨some 116, _, _, _, _, _⟩) [.agg #[.int .i64 k, .int .i64 3, .slice (some ⟨n114, 0, none⟩) 1 1]] hO (by rfl) rfl slice_Finds rfl rfl (by rfl) (by decide) (by decide) ?_); clear hO; intro n116 wv hO) | ((with_reducible refine is_append ?_); (refine own_append (o := ⟨some 117, _, _, _, _, _⟩) hO rfl rfl slice_Finds rfl rfl (by (repeat (first | exact List.mem_cons_self | refine List.mem_cons_of_mem _ ?_))) rfl (by omega) rfl (fun _ _ => by repeat (first | exact UpdR.here | apply UpdR.there)) (by first | omega | (simp; omega)) (by unfold maxLen; first | omega | (simp; omega)) ?_); clear hO; intro g117 c117 wv hO))
             go_roundw
             case rel =>
              have hn2 := own_newC (l := 1) (c := 1) hO (List.mem_cons_of_mem _ List.mem_cons_self)
              replace hO := (hO.sub (X' := [⟨n114, [.int .i64 j], 3⟩]) (.cons _ (.refl _)) (.refl _) (fun _ h => h)).chunkRoX
              refine ⟨k + 1, pz ++ [(((k : Int), 3, [(j : Int)]), .slice (some ⟨n114, 0, none⟩) 1 1)], by omega, by go_num, by simp; omega, Lib.hid ?_, Lib.hid ?_, ?_⟩
              ·rw [HR.out, HE2.out, List.map_append]; rfl
              ·intro p hp
               rcases List.mem_append.1 hp with hp | hp
               ·exact HF.out p hp
               ·rw [List.mem_singleton.1 hp]; exact ⟨.inr ⟨_, _, _, rfl, Nat.le_refl _⟩, hn2⟩
              ·rw [List.length_append, cellsN_append]
               exact hO.sub (.refl _) (.refl _) (fun q hq => by simp only [roN_append, roN, roS, List.append_nil, List.mem_append, List.mem_cons, List.not_mem_nil, or_false] at hq ⊢; grind)
             case measure => simp [intOf]; omega
          ·obtain rfl : j = t.length := by omega
           have hE := HE.out
           rw [List.drop_length, excF] at hE
           have HE2 := Lib.hid hE.symm
           clear hE HE
           go_wp2_with (first | refine ldNT ?_ | ((first | refine stNT hO ?_ | refine st1NT hO ?_); clear hO; intro wv hO) | (refine bl9T 35 hO ?_; clear hO; intro n35 wv hO) | (refine bl9T 58 hO ?_; clear hO; intro n58 wv hO) | (refine bl9T 77 hO ?_; clear hO; intro n77 wv hO) | (refine bl9T 114 hO ?_; clear hO; intro n114 wv hO) | (refine bl9T 116 hO ?_; clear hO; intro n116 wv hO) | (refine ap9T 36 hO ?_; clear hO; intro g36 c36 wv hO) | (refine ap9T 59 hO ?_; clear hO; intro g59 c59 wv hO) | (refine ap9T 78 hO ?_; clear hO; intro g78 c78 wv hO) | (refine ap9T 117 hO ?_; clear hO; intro g117 c117 wv hO))
           go_roundw
           case rel => exact ⟨k + 1, pz, by omega, by go_num, by omega, Lib.hid (by rw [HR.out, HE2.out]; simp [excL]), HF, hO⟩
           case measure => simp [intOf]; omega
     ·obtain rfl : k = t.length := by omega
      go_wp2_with (first | refine ldNT ?_ | ((first | refine stNT hO ?_ | refine st1NT hO ?_); clear hO; intro wv hO) | (refine bl9T 35 hO ?_; clear hO; intro n35 wv hO) | (refine bl9T 58 hO ?_; clear hO; intro n58 wv hO) | (refine bl9T 77 hO ?_; clear hO; intro n77 wv hO) | (refine bl9T 114 hO ?_; clear hO; intro n114 wv hO) | (refine bl9T 116 hO ?_; clear hO; intro n116 wv hO) | (refine ap9T 36 hO ?_; clear hO; intro g36 c36 wv hO) | (refine ap9T 59 hO ?_; clear hO; intro g59 c59 wv hO) | (refine ap9T 78 hO ?_; clear hO; intro g78 c78 wv hO) | (refine ap9T 117 hO ?_; clear hO; intro g117 c117 wv hO))
      go_ret2
      refine ⟨_, ps, by rw [HA.out]; rfl, by rw [HA.out]; rfl, ⟨hO.rowIs List.mem_cons_self, own_new hO List.mem_cons_self, fun p hp => ⟨hO.isNums (HF.out p hp).1 (fun s hs => List.mem_append_right _ (List.mem_append_right _ (roN_mem hp s hs))), (HF.out p hp).2⟩⟩, hO.keep.below⟩
end Go.Proofs.YtjoionnnpjajmaaGreatDoor
