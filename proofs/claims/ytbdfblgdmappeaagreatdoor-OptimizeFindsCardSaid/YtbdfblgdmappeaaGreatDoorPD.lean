/- The reference of findings: Without, Removable, meet, overlap, dead, redundant. -/
import Derived.Test.YtbdfblgdmappeaaGreatDoorPA
import Derived.Test.YtbdfblgdmappeaaGreatDoorOE
import Derived.Test.YtbdfblgdmappeaaGreatDoorMV
import Derived.Test.YtbdfblgdmappeaaGreatDoorMB
import Derived.Test.YtbdfblgdmappeaaGreatDoorPC
namespace Go.Proofs.YtbdfblgdmappeaaGreatDoor
open Go.RowKit
set_option maxRecDepth 100000
set_option maxHeartbeats 4000000 in
theorem rWithout_any {vt : Value} {t : List Rul} {i : Nat} (w : World) (hv : IsTable w vt t) (hi : i < t.length) (hl : t.length ≤ 1000000000000) :
  Calls Tryz.prog 48 #[vt, .int .i64 i] w (RetTable w (woF t i)) := by
 have hO := own_argR hv
 obtain ⟨a, c, rfl, ha⟩ := hv.view
 have hcap := hv.cap
 obtain ⟨g, o, rfl⟩ := ha (by omega)
 have s1 : IntKind.i64.wrap ((i : Int) + 1) = (i : Int) + 1 := IntWalk.i64_in _ (by omega)
 clear ha
 have E := Lib.hid (wo_cells t i (t.length - (i + 1)) (by omega))
 go_enter Tryz.func48, Tryz.ntmps48
 go_wp2_with fail
 refine wp_region_any (by kernel_rfl) ?_
 replace hO := hO.drew
 have ix9 := Ix.mk [1, 2, 3, 5, 6, 7, 8]
 iterate 7 (refine wpAny_tk ix9 ?_; replace ix9 := ix9.tail; (first | go_big_quiet_skip | (go_big_quiet_want; (go_big_quiet_op; (first | go_big_quiet_on | ((refine ⟨_, fun _ _ => rfl, ?_⟩); go_big_quiet_on))))); (refine wpQuiet_nil ?_); (try simp only [Act.put]); (try simp only [sI9, sZ9, sS9]))
 clear ix9
 refine wpAny_1 0 ?_
 rotate_left 1
 all_goals
  refine wpOp_of_listL rfl ?_
  ((with_reducible refine is_build ?_); (refine own_build0 (o := ⟨some 5, _, _, _, _, _⟩) hO (by rfl) rfl slice_Table ?_); clear hO; intro n5 wv hO); (try simp only [Act.put]); (try simp only [sI9, sZ9, sS9])
  refine wpList_done (qk_intro ?_)
 refine wpAny_1 4 ?_
 rotate_left 1
 all_goals
  refine wpOp_of_listL rfl ?_
  ((with_reducible refine is_append ?_); (refine own_appendA (o := ⟨some 9, _, _, _, _, _⟩) hO rfl rfl slice_Table rfl rfl (src_table (hv.keep0 hO) (m := i) (by omega)) (cellsR_one' _) (fun _ => by repeat (exact UpdR.here)) (by (omega)) (by unfold maxLen; (omega)) ?_); clear hO; intro g9 c9 wv hO); (try simp only [Act.put]); (try simp only [sI9, sZ9, sS9])
  refine wpList_done (qk_intro ?_)
 refine wpAny_1 9 ?_
 rotate_left 1
 all_goals
  refine wpOp_of_listL rfl ?_
  ((with_reducible refine is_append ?_); (refine own_appendA (o := ⟨some 14, _, _, _, _, _⟩) hO rfl rfl slice_Table rfl rfl (src_part (hv.keep0 hO) (i := i + 1) (n := t.length - (i + 1)) (by omega)) (cellsR_one' _) (fun _ => by repeat (exact UpdR.here)) (by (omega)) (by unfold maxLen; (omega)) ?_); clear hO; intro g14 c14 wv hO); (try simp only [Act.put]); (try simp only [sI9, sZ9, sS9])
  refine wpList_done (qk_intro ?_)
 refine wpAny_1 10 ?_
 rotate_left 1
 all_goals
  refine wpOp_of_listL rfl ?_
  ((refine wpList_step (fun K hK => ?_)); go_simp; ((refine hK _ _ ?_); clear hK K))
  refine wpList_done (qk_intro ?_)
 refine wpAny_done (by kernel_rfl) ?_ _
 rotate_left
 all_goals go_wp2_with fail
 all_goals
  go_ret
  simp only [Nat.zero_add, List.nil_append] at hO
  rw [E.out] at hO
  exact ⟨_, rfl, ⟨own_table hO List.mem_cons_self, own_new hO List.mem_cons_self⟩, hO.keep.below⟩
set_option maxHeartbeats 16000000 in
theorem rRemovable_any {vt : Value} {t : List Rul} {i : Int} (w : World) (hv : IsTable w vt t) (kt : okT t) (hl : t.length ≤ 20) :
  Calls Tryz.prog 47 #[vt, .int .i64 i] w fun e w' => e = .returned (.tuple #[.bool (rmP t i).1, .int .i64 (rmP t i).2]) ∧ Below w.heap.size w w' := by
 have hO := own_start [] w
 have h0 : ∀ w, IsTable w vt t → Calls Tryz.prog 46 #[vt] w fun e w' => e = .returned (.bool (validT t)) ∧ Below w.heap.size w w' := fun w hv => rValid8_any w hv (by omega)
 obtain ⟨a, c, rfl, -⟩ := hv.view
 unfold rmP
 cases hV : validT t with
 | false =>
  rw [hV] at h0
  rw [if_neg Bool.false_ne_true]
  clear hV
  go_enter Tryz.func47, Tryz.ntmps47
  go_wp2_with (go_at_call 46; (with_reducible refine (h0 _ (hv.keep0 hO)).mono ?_); rintro e wv ⟨rfl, hb9⟩; replace hO := hO.call hb9; clear hb9; clear h0)
  go_ret2
  exact ⟨rfl, hO.keep.below⟩
 | true =>
  rw [hV] at h0
  rw [if_pos rfl]
  clear hV
  by_cases hlo : i < 0
  ·rw [if_pos (.inl hlo)]
   have g1 : decide (i < 0) = true := decide_eq_true hlo
   go_enter Tryz.func47, Tryz.ntmps47
   go_wp2_with (go_at_call 46; (with_reducible refine (h0 _ (hv.keep0 hO)).mono ?_); rintro e wv ⟨rfl, hb9⟩; replace hO := hO.call hb9; clear hb9; clear h0)
   go_ret2
   exact ⟨rfl, hO.keep.below⟩
  ·have g1 : decide (i < 0) = false := decide_eq_false hlo
   by_cases hhi : (t.length : Int) ≤ i
   ·rw [if_pos (.inr hhi)]
    have g2 : decide ((t.length : Int) ≤ i) = true := decide_eq_true hhi
    go_enter Tryz.func47, Tryz.ntmps47
    go_wp2_with (go_at_call 46; (with_reducible refine (h0 _ (hv.keep0 hO)).mono ?_); rintro e wv ⟨rfl, hb9⟩; replace hO := hO.call hb9; clear hb9; clear h0)
    go_ret2
    exact ⟨rfl, hO.keep.below⟩
   ·rw [if_neg (by omega)]
    obtain ⟨k, rfl⟩ : ∃ k : Nat, i = (k : Int) := ⟨i.toNat, by omega⟩
    have g2 : decide ((t.length : Int) ≤ (k : Int)) = false := decide_eq_false hhi
    have hi : k < t.length := by omega
    rw [Int.toNat_natCast]
    have h1 : ∀ w, IsTable w (.slice a t.length c) t → Calls Tryz.prog 106 #[.slice a t.length c, .int .i64 k] w (SetPost w (effF t k)) := fun w hv => rEff_any w hv kt hl hi
    have h2 : ∀ w, IsTable w (.slice a t.length c) t → Calls Tryz.prog 107 #[.slice a t.length c] w (SetPost w (permF t)) := fun w hv => rPermitted_any w hv kt hl
    have h3 : ∀ w, IsTable w (.slice a t.length c) t → Calls Tryz.prog 48 #[.slice a t.length c, .int .i64 k] w (RetTable w (woF t k)) := fun w hv => rWithout_any w hv hi (by omega)
    have h4 : ∀ v w, IsTable w v (woF t k) → Calls Tryz.prog 107 #[v] w (SetPost w (permF (woF t k))) := fun v w hv => rPermitted_any w hv (okT_wo kt k) (by rw [woF_length hi]; omega)
    have hS0 := fun p hp => (permF_spec (t := t) (s := p) kt hp).1.le
    have hS1 := fun q hq => (permF_spec (t := woF t k) (s := q) (okT_wo kt k) hq).1.le
    cases he : effF t k with
    | none =>
     rw [he] at h1
     rw [stF_none he]
     clear he h2 h3 h4 hS0 hS1
     go_enter Tryz.func47, Tryz.ntmps47
     go_wp2_with (first | (go_at_call 46; (with_reducible refine (h0 _ (hv.keep0 hO)).mono ?_); rintro e wv ⟨rfl, hb9⟩; replace hO := hO.call hb9; clear hb9; clear h0) | (go_at_call 106; (with_reducible refine (h1 _ (hv.keep0 hO)).mono ?_); rintro e wv hpo; obtain ⟨rfl, hb9⟩ := hpo.no; replace hO := hO.call hb9; clear hb9 hpo))
     go_ret2
     exact ⟨rfl, hO.keep.below⟩
    | some e =>
     rw [he] at h1
     cases h9 : e.isEmpty with
     | true =>
      obtain rfl : e = [] := List.isEmpty_iff.1 h9
      rw [stF_dead he]
      clear he h9 h2 h3 h4 hS0 hS1
      go_enter Tryz.func47, Tryz.ntmps47
      go_wp2_with (first | (go_at_call 46; (with_reducible refine (h0 _ (hv.keep0 hO)).mono ?_); rintro e wv ⟨rfl, hb9⟩; replace hO := hO.call hb9; clear hb9; clear h0) | (go_at_call 106; (with_reducible refine (h1 _ (hv.keep0 hO)).mono ?_); rintro e wv hpo; obtain ⟨v3, rfl, hv9, hn9, hb9⟩ := hpo.yes; have hf3 := hv9.form; obtain ⟨a3, c3, rfl, -⟩ := hv9.form.view; replace hO := hO.gainB hb9 hv9 hn9; clear hb9 hpo hv9))
      go_ret2
      exact ⟨rfl, hO.keep.below⟩
     | false =>
      have hn : 0 < e.length := List.length_pos_iff.2 (fun e => by rw [e] at h9; cases h9)
      have g3 : ((e.length : Int) == 0) = false := beq_eq_false_iff_ne.2 (by omega)
      clear hn
      cases hp : permF t with
      | none =>
       rw [hp] at h2
       rw [stF_perm he h9 hp]
       clear he h9 hp h3 h4 hS0 hS1
       go_enter Tryz.func47, Tryz.ntmps47
       go_wp2_with (first | (go_at_call 46; (with_reducible refine (h0 _ (hv.keep0 hO)).mono ?_); rintro e wv ⟨rfl, hb9⟩; replace hO := hO.call hb9; clear hb9; clear h0) | (go_at_call 106; (with_reducible refine (h1 _ (hv.keep0 hO)).mono ?_); rintro e wv hpo; obtain ⟨v3, rfl, hv9, hn9, hb9⟩ := hpo.yes; have hf3 := hv9.form; obtain ⟨a3, c3, rfl, -⟩ := hv9.form.view; replace hO := hO.gainB hb9 hv9 hn9; clear hb9 hpo hv9) | (go_at_call 107; (with_reducible refine (h2 _ (hv.keep0 hO)).mono ?_); rintro e wv hpo; obtain ⟨rfl, hb9⟩ := hpo.no; replace hO := hO.call hb9; clear hb9 hpo))
       go_ret2
       exact ⟨rfl, hO.keep.below⟩
      | some p =>
       rw [hp] at h2
       have np := hS0 p hp
       cases hq : permF (woF t k) with
       | none =>
        rw [hq] at h4
        rw [stF_wo he h9 hp hq]
        clear he h9 hp hq np hS0 hS1
        generalize woF t k = u at *
        go_enter Tryz.func47, Tryz.ntmps47
        go_wp2_with (first | (go_at_call 46; (with_reducible refine (h0 _ (hv.keep0 hO)).mono ?_); rintro e wv ⟨rfl, hb9⟩; replace hO := hO.call hb9; clear hb9; clear h0) | (go_at_call 106; (with_reducible refine (h1 _ (hv.keep0 hO)).mono ?_); rintro e wv hpo; obtain ⟨v3, rfl, hv9, hn9, hb9⟩ := hpo.yes; have hf3 := hv9.form; obtain ⟨a3, c3, rfl, -⟩ := hv9.form.view; replace hO := hO.gainB hb9 hv9 hn9; clear hb9 hpo hv9) | (go_at_call 107; (with_reducible refine (h2 _ (hv.keep0 hO)).mono ?_); rintro e wv hpo; obtain ⟨v4, rfl, hv9, hn9, hb9⟩ := hpo.yes; have hf4 := hv9.form; obtain ⟨a4, c4, rfl, -⟩ := hv9.form.view; replace hO := hO.gainB hb9 hv9 hn9; clear hb9 hpo hv9; clear h2) | (go_at_call 48; (with_reducible refine (h3 _ (hv.keep0 hO)).mono ?_); rintro e wv ⟨v5, rfl, ⟨hv9, hn9⟩, hb9⟩; have hf5 := hv9.form; replace hO := hO.gainR hb9 hv9 hn9; clear hb9 hv9 h3) | (go_at_call 107; (with_reducible refine (h4 _ _ (hO.isR hf5 (by intro q hq; repeat (exact List.mem_append_left _ hq)))).mono ?_); rintro e wv hpo; obtain ⟨rfl, hb9⟩ := hpo.no; replace hO := hO.call hb9; clear hb9 hpo))
        go_ret2
        exact ⟨rfl, hO.keep.below⟩
       | some q =>
        rw [hq] at h4
        rw [stF_some he h9 hp hq]
        have nq := hS1 q hq
        clear he h9 hp hq hS0 hS1
        generalize woF t k = u at *
        have h5 := fun va vb w ha hb => rsame4g_any va vb p q w ha hb (by omega) (by omega)
        generalize decide (p = q) = r at *
        go_enter Tryz.func47, Tryz.ntmps47
        go_wp2_with (first | (go_at_call 46; (with_reducible refine (h0 _ (hv.keep0 hO)).mono ?_); rintro e wv ⟨rfl, hb9⟩; replace hO := hO.call hb9; clear hb9; clear h0) | (go_at_call 106; (with_reducible refine (h1 _ (hv.keep0 hO)).mono ?_); rintro e wv hpo; obtain ⟨v3, rfl, hv9, hn9, hb9⟩ := hpo.yes; have hf3 := hv9.form; obtain ⟨a3, c3, rfl, -⟩ := hv9.form.view; replace hO := hO.gainB hb9 hv9 hn9; clear hb9 hpo hv9) | (go_at_call 107; (with_reducible refine (h2 _ (hv.keep0 hO)).mono ?_); rintro e wv hpo; obtain ⟨v4, rfl, hv9, hn9, hb9⟩ := hpo.yes; have hf4 := hv9.form; obtain ⟨a4, c4, rfl, -⟩ := hv9.form.view; replace hO := hO.gainB hb9 hv9 hn9; clear hb9 hpo hv9; clear h2) | (go_at_call 48; (with_reducible refine (h3 _ (hv.keep0 hO)).mono ?_); rintro e wv ⟨v5, rfl, ⟨hv9, hn9⟩, hb9⟩; have hf5 := hv9.form; replace hO := hO.gainR hb9 hv9 hn9; clear hb9 hv9 h3) | (go_at_call 107; (with_reducible refine (h4 _ _ (hO.isR hf5 (by intro q hq; repeat (exact List.mem_append_left _ hq)))).mono ?_); rintro e wv hpo; obtain ⟨v6, rfl, hv9, hn9, hb9⟩ := hpo.yes; have hf6 := hv9.form; obtain ⟨a6, c6, rfl, -⟩ := hv9.form.view; replace hO := hO.gainB hb9 hv9 hn9; clear hb9 hpo hv9) | (go_at_call 80; (with_reducible refine (h5 _ _ _ (hO.isB hf4 (by intro q hq; repeat (first | exact List.mem_append_left _ hq | apply List.mem_append_right))) (hO.isB hf6 (by intro q hq; repeat (exact List.mem_append_left _ hq)))).mono ?_); rintro e wv ⟨rfl, hb9⟩; replace hO := hO.call hb9; clear hb9))
        go_ret2
        exact ⟨rfl, hO.keep.below⟩
theorem Own.rowRoX {M : List Nat} {w0 w : World} {X : List Chunk} {R : List Row} {S : List Ro} {v : Value} {k size : Nat} {xs : List Value} {e : TypeId} (hO : Own M w0 X (⟨v, k, xs, e, size⟩ :: R) S w) : Own M w0 X R (roS v xs ++ S) w := by
 have h1 := hO.sub (X' := X) (R' := R) (S' := S) (.refl _) (.cons _ (.refl _)) (fun _ h => h)
 have hr := hO.rowIs (v := v) (k := k) (xs := xs) List.mem_cons_self
 rcases hr with ⟨rfl, rfl, rfl⟩ | ⟨g, o, c, rfl, _, hr⟩
 ·exact h1
 ·refine h1.addRo ⟨g, o, xs⟩ hr fun _ hm => ?_
  have hnd := nodup_blocks (A := []) (B := R) (r := ⟨.slice (some ⟨g, o, none⟩) k c, k, xs, e, size⟩) |>.1 hO.nd
  exact (hnd.2 g rfl) (by simpa [excl] using hm)
end Go.Proofs.YtbdfblgdmappeaaGreatDoor
