/- The reference of packet sets: Complement. -/
import Derived.Deep.CutRange
import Derived.Deep.DeepCutAuto
import Derived.Test.YtbdfblgdmappeaaGreatDoorNJ
import Derived.Test.YtbdfblgdmappeaaGreatDoorMB
import Derived.Test.YtbdfblgdmappeaaGreatDoorME
import Derived.Test.YtbdfblgdmappeaaGreatDoorMP
import Derived.Test.YtbdfblgdmappeaaGreatDoorMR
import Derived.Test.YtbdfblgdmappeaaGreatDoorMS
import Derived.Test.YtbdfblgdmappeaaGreatDoorNC
import Derived.Test.YtbdfblgdmappeaaGreatDoorNB
import Derived.Test.YtbdfblgdmappeaaGreatDoorMV
namespace Go.Proofs.YtbdfblgdmappeaaGreatDoor
open Go.RowKit
set_option maxRecDepth 100000
theorem set_frontLo {b : Bx} {j : Nat} (h : j < 5) (lo : Int) (ys : List Value) : (bcs b ++ ys).set (j * 2) (.int .u32 lo) = bcs (b.set j ⟨lo, (b.at j).hi⟩) ++ ys := by
 rcases five h with rfl | rfl | rfl | rfl | rfl <;> rfl
theorem cellsB_setLo {l : List Bx} {k j : Nat} (h : k < l.length) (hj : j < 5) (lo : Int) : (cellsB l).set (k * 10 + j * 2) (.int .u32 lo) = cellsB (l.set k (l[k].set j ⟨lo, (l[k].at j).hi⟩)) := by
 induction l generalizing k with
 | nil => simp at h
 | cons c l ih =>
  cases k with
  | zero =>
   simp only [cellsB, List.set_cons_zero, List.getElem_cons_zero, Nat.zero_mul, Nat.zero_add]
   exact set_frontLo hj lo _
  | succ k =>
   simp only [cellsB, List.set_cons_succ, List.getElem_cons_succ]
   rw [← ih (by simpa using h), show (k + 1) * 10 + j * 2 = (bcs c).length + (k * 10 + j * 2) by rw [bcs_length]; omega, List.set_append_right _ _ (by omega), Nat.add_sub_cancel_left]
def SpoilP (w : World) (s : List Bx) (v : Value) (w' : World) : Prop := ∃ (m : List Bx) (b' : Bx), okL m ∧ (∀ b ∈ m, b ∈ s ∨ b = b') ∧ m.length ≤ s.length + 1 ∧ IsBoxes w' v m ∧ NewFrom w v
set_option maxHeartbeats 16000000 in
theorem tspoilset_any {w : World} {n : Nat} {sl : Value} {zs : List Int} {i : Nat} (vs : Value) (s : List Bx) (hZ : ZsOk sl zs) (hT : TapeIn w n sl zs i) (hv : IsBoxes w vs s) (hn : vs.ownBlock ≠ some n) (ks : okL s) (hs : s.length ≤ 1000000) :
  Calls Tryz.prog 36 #[.pointer (some ⟨n, 0, none⟩), vs] w (TPost w n sl zs (SpoilP w s)) := by
 have hO : Own [n] w [⟨n, tcs sl i, 93⟩] [] (roS vs (cellsB s) ++ roS sl (ints zs)) w := by
  have h0 := own_tape hT
  rcases hv with ⟨rfl, rfl⟩ | ⟨g, o, c, rfl, _, hr⟩
  ·exact h0
  ·exact h0.addRo ⟨g, o, cellsB s⟩ hr (fun _ => by simp [excl]; intro e; exact hn (by simp [Value.ownBlock, e]))
 have hf := hv.form
 obtain ⟨a, c, rfl, ha⟩ := hv.view
 clear hv hn
 have hsrc := fun (wq : World) (h : IsBoxes wq (.slice a s.length c) s) => show SrcAt wq 10 a s.length (cellsB s) by
  have := src_boxes (m := s.length) h (Nat.le_refl _)
  rwa [List.take_length] at this
 go_enter Tryz.func36, Tryz.ntmps36
 go_upto_region 2 with (first | ((with_reducible refine is_build ?_); (refine own_build0 (o := ⟨some 7, _, _, _, _, _⟩) hO (by rfl) rfl slice_Set ?_); clear hO; intro n7 wv hO) | ((with_reducible refine is_append ?_); (refine own_appendA (o := ⟨some 9, _, _, _, _, _⟩) hO rfl rfl slice_Set rfl rfl (hsrc _ (hO.isB hf (by intro q hq; repeat (exact List.mem_append_left _ hq)))) (cellsB_one' _) (fun _ => by repeat (exact UpdR.here)) (by (omega)) (by unfold maxLen; (omega)) ?_); clear hO; intro A9 c9 wv hO))
 simp only [Nat.zero_add, List.nil_append] at hO
 have fin : ∀ (m : List Bx) (b' : Bx) (wq : World) (j : Nat) (vq : Value) (kq : Nat) (xs : List Value), okL m → (∀ b ∈ m, b ∈ s ∨ b = b') → m.length ≤ s.length + 1 → j ≤ zs.length → xs = cellsB m → Own [n] w [⟨n, tcs sl j, 93⟩] [⟨vq, kq, xs, 98, 10⟩] (roS (.slice a s.length c) (cellsB s) ++ roS sl (ints zs)) wq → TPost w n sl zs (SpoilP w s) (.returned vq) wq := fun m b' wq j vq kq xs h1 h2 h3 h4 h5 h6 => by
  subst h5
  exact tpost h6 List.mem_cons_self (fun q hq => List.mem_append_right _ hq) h4 ⟨m, b', h1, h2, h3, own_boxes h6 List.mem_cons_self, own_newT h6 List.mem_cons_self (nodup_cons_row h6.nd)⟩
 have FIN := Lib.hid fin
 clear fin
 by_cases hE : s = []
 ·subst hE
  go_wp2_with (first | (refine bl9 18 hO ?_; clear hO; intro n18 wv hO) | (refine ap9 19 hO ?_; clear hO; intro g19 c19 wv hO) | (go_at_call 83; (with_reducible refine (tbox_any hZ (hO.tapeIn List.mem_cons_self (by (intro s hs; repeat (first | exact hs | apply List.mem_append_right))) hT.le)).mono ?_); rintro e wv ⟨v, i1, rfl, hv9, hk, hT1⟩; replace hO := hO.after (by (repeat (exact Upd.here))) hk hT1.blk; replace hT := hT1; clear hT1 hk; obtain ⟨bx, rfl, kbx⟩ := hv9) | (go_at_call 84; (with_reducible refine (spoil_any bx hZ (hO.tapeIn List.mem_cons_self (by (intro s hs; repeat (first | exact hs | apply List.mem_append_right))) hT.le) kbx.ok).mono ?_); rintro e wv ⟨v, i1, rfl, hv9, hk, hT1⟩; replace hO := hO.after (by (repeat (exact Upd.here))) hk hT1.blk; replace hT := hT1; clear hT1 hk; obtain ⟨by9, rfl, kby⟩ := hv9))
  go_ret
  exact FIN.out [by9] by9 _ _ _ _ _ (fun b hb => by rw [List.mem_singleton.1 hb]; exact kby) (fun b hb => .inr (List.mem_singleton.1 hb)) (by simp) hT.le (by rw [cellsB_one]; rfl) (hO.sub (.cons _ (.refl _)) (.refl _) (fun _ h => h))
 ·have h0 : 0 < s.length := List.length_pos_iff.2 hE
  have g1 : ((s.length : Int) == 0) = false := by simp; omega
  go_upto_region 7 with (first | (go_at_call 21; (with_reducible refine (next_pos (s.length : Int) hZ (hO.tapeIn List.mem_cons_self (by (intro s hs; repeat (first | exact hs | apply List.mem_append_right))) hT.le) (by omega) (by omega)).mono ?_); rintro e wv ⟨v, i1, rfl, hv9, hk, hT1⟩; replace hO := hO.after (by (repeat (exact Upd.here))) hk hT1.blk; replace hT := hT1; clear hT1 hk; obtain ⟨r9, rfl, hr0, hr1⟩ := hv9) | (go_at_call 21; (with_reducible refine (next_pos 5 hZ (hO.tapeIn List.mem_cons_self (by (intro s hs; repeat (first | exact hs | apply List.mem_append_right))) hT.le) (by omega) (by omega)).mono ?_); rintro e wv ⟨v, i1, rfl, hv9, hk, hT1⟩; replace hO := hO.after (by (repeat (exact Upd.here))) hk hT1.blk; replace hT := hT1; clear hT1 hk; obtain ⟨q9, rfl, hq0, hq1⟩ := hv9))
  obtain ⟨k, rfl⟩ : ∃ k : Nat, r9 = k := ⟨r9.toNat, by omega⟩
  have hlt : k < s.length := by omega
  obtain ⟨a9, c8, e9, hg9⟩ := row_view (hO.row _ List.mem_cons_self)
  dsimp only at e9 hg9
  cases e9
  obtain ⟨g9, rfl⟩ := hg9 h0
  have t1 := tk_box s hlt
  have hsz : k * 10 + 10 ≤ (cellsB s).length := by rw [cellsB_length]; omega
  have hksk := ks s[k] (List.getElem_mem hlt)
  have HMk := Lib.hid (List.getElem_mem hlt)
  have hsl := cellsB_set hlt
  have HSL := Lib.hid hsl
  clear hsl hsrc hf
  have hq5 : q9 = 0 ∨ q9 = 1 ∨ q9 = 2 ∨ q9 = 3 ∨ q9 = 4 := by omega
  clear hq0 hq1
  rcases hq5 with rfl | rfl | rfl | rfl | rfl
  ·go_wp2_with (first | refine ldN ?_ | (go_at_call 84; (with_reducible refine (spoil_any s[k] hZ (hO.tapeIn List.mem_cons_self (by (intro s hs; repeat (first | exact hs | apply List.mem_append_right))) hT.le) hksk).mono ?_); rintro e wv ⟨v, i1, rfl, hv9, hk, hT1⟩; replace hO := hO.after (by (repeat (exact Upd.here))) hk hT1.blk; replace hT := hT1; clear hT1 hk; obtain ⟨by9, rfl, kby⟩ := hv9) | ((with_reducible refine is_store ?_); (refine own_stRw hO (h := ?_); clear hO; intro wv hO)))
   go_ret
   exact FIN.out (s.set k by9) by9 _ _ _ _ _ (fun b hb => (List.mem_or_eq_of_mem_set hb).elim (fun h => ks b h) (fun h => by rw [h]; exact kby)) (fun b hb => List.mem_or_eq_of_mem_set hb) (by simp) hT.le (HSL.out by9) hO
  ·go_wp2_with (first | refine ldN ?_ | (refine bl9 56 hO ?_; clear hO; intro n56 wv hO) | (refine ap9 57 hO ?_; clear hO; intro g57 c57 wv hO))
   go_ret
   exact FIN.out (s ++ [s[k]]) s[k] _ _ _ _ _ (fun b hb => (List.mem_append.1 hb).elim (fun h => ks b h) (fun h => by rw [List.mem_singleton.1 h]; exact hksk)) (fun b hb => (List.mem_append.1 hb).imp id (fun h => List.mem_singleton.1 h)) (by simp) hT.le (by rw [cellsB_append, cellsB_one]) (hO.sub (.cons _ (.refl _)) (.refl _) (fun _ h => h))
  ·have t0 := tk_box0 s h0
   have hn1 := HSL.out s[0]
   have hl1 : 0 < (s.set k s[0]).length := by simp; omega
   have hn2 := cellsB_set hl1 s[k]
   rw [Nat.zero_mul] at hn2
   have hs2 : 0 + 10 ≤ (cellsB (s.set k s[0])).length := by rw [cellsB_length]; omega
   have HM0 := Lib.hid (List.getElem_mem h0)
   clear hl1
   go_wp2_with fail
   refine wp_region_any (by kernel_rfl) ?_
   replace hO := hO.drew
   have ix9 := Ix.mk [0, 1, 2, 3, 4, 6, 7, 8]
   iterate 8 (refine wpAny_tk ix9 ?_; replace ix9 := ix9.tail; (first | go_big_quiet_skip | (go_big_quiet_want; (go_big_quiet_op; (first | go_big_quiet_on | ((refine ⟨_, fun _ _ => rfl, ?_⟩); go_big_quiet_on))))); (refine wpQuiet_nil ?_); (try simp only [Act.put]); (try simp only [sI9, sZ9, sS9]))
   clear ix9
   refine wpAny_all (rs := [5, 9]) (by kernel_rfl) (by simp) (ord_cons ?_ (ord_cons ?_ ord_nil))
   rotate_left 2
   all_goals
    refine wpOp_of_listL rfl ?_
    (refine ldN ?_); (try simp only [Act.put]); (try simp only [sI9, sZ9, sS9])
    refine wpList_done (qk_intro ?_)
   refine wpAny_1 9 ?_
   rotate_left 1
   refine wpAny_1 5 ?_
   rotate_left 1
   all_goals
    refine wpOp_of_listL rfl ?_
    (refine ldN ?_); (try simp only [Act.put]); (try simp only [sI9, sZ9, sS9])
    refine wpList_done (qk_intro ?_)
   refine wpAny_tk (Ix.mk [10]) ?_
   (first | go_big_quiet_skip | (go_big_quiet_want; (go_big_quiet_op; (first | go_big_quiet_on | ((refine ⟨_, fun _ _ => rfl, ?_⟩); go_big_quiet_on))))); (refine wpQuiet_nil ?_); (try simp only [Act.put]); (try simp only [sI9, sZ9, sS9])
   refine wpAny_1 11 ?_
   rotate_left 1
   refine wpAny_tk (Ix.mk [10]) ?_
   (first | go_big_quiet_skip | (go_big_quiet_want; (go_big_quiet_op; (first | go_big_quiet_on | ((refine ⟨_, fun _ _ => rfl, ?_⟩); go_big_quiet_on))))); (refine wpQuiet_nil ?_); (try simp only [Act.put]); (try simp only [sI9, sZ9, sS9])
   refine wpAny_1 11 ?_
   rotate_left 1
   all_goals
    refine wpOp_of_listL rfl ?_
    ((with_reducible refine is_store ?_); (refine own_stRw hO (h := ?_); clear hO; intro wv hO)); (try simp only [Act.put])
    refine wpList_done (qk_intro ?_)
   refine wpAny_tk (Ix.mk [12]) ?_
   (first | go_big_quiet_skip | (go_big_quiet_want; (go_big_quiet_op; (first | go_big_quiet_on | ((refine ⟨_, fun _ _ => rfl, ?_⟩); go_big_quiet_on))))); (refine wpQuiet_nil ?_); (try simp only [Act.put]); (try simp only [sI9, sZ9, sS9])
   refine wpAny_1 13 ?_
   rotate_left 1
   refine wpAny_tk (Ix.mk [12]) ?_
   (first | go_big_quiet_skip | (go_big_quiet_want; (go_big_quiet_op; (first | go_big_quiet_on | ((refine ⟨_, fun _ _ => rfl, ?_⟩); go_big_quiet_on))))); (refine wpQuiet_nil ?_); (try simp only [Act.put]); (try simp only [sI9, sZ9, sS9])
   refine wpAny_1 13 ?_
   rotate_left 1
   all_goals
    refine wpOp_of_listL rfl ?_
    ((with_reducible refine is_store ?_); (refine own_stRw hO (h := ?_); clear hO; intro wv hO)); (try simp only [Act.put])
    refine wpList_done (qk_intro ?_)
   refine wpAny_done (by kernel_rfl) ?_ _
   rotate_left
   refine wpAny_done (by kernel_rfl) ?_ _
   rotate_left
   all_goals
    go_wp2_with fail
    go_ret
    exact FIN.out ((s.set k s[0]).set 0 s[k]) s[k] _ _ _ _ _ (fun b hb => (List.mem_or_eq_of_mem_set hb).elim (fun h => (List.mem_or_eq_of_mem_set h).elim (ks b) (fun h => by rw [h]; exact ks _ HM0.out)) (fun h => by rw [h]; exact hksk)) (fun b hb => (List.mem_or_eq_of_mem_set hb).elim (fun h => (List.mem_or_eq_of_mem_set h).elim .inl (fun h => .inl (by rw [h]; exact HM0.out))) .inr) (by simp) hT.le rfl hO
  ·go_wp2_with (first | (refine bl9 77 hO ?_; clear hO; intro n77 wv hO) | (refine ap9 78 hO ?_; clear hO; intro g78 c78 wv hO) | (go_at_call 83; (with_reducible refine (tbox_any hZ (hO.tapeIn List.mem_cons_self (by (intro s hs; repeat (first | exact hs | apply List.mem_append_right))) hT.le)).mono ?_); rintro e wv ⟨v, i1, rfl, hv9, hk, hT1⟩; replace hO := hO.after (by (repeat (exact Upd.here))) hk hT1.blk; replace hT := hT1; clear hT1 hk; obtain ⟨bx, rfl, kbx⟩ := hv9))
   go_ret
   exact FIN.out (s ++ [bx]) bx _ _ _ _ _ (fun b hb => (List.mem_append.1 hb).elim (fun h => ks b h) (fun h => by rw [List.mem_singleton.1 h]; exact kbx.ok)) (fun b hb => (List.mem_append.1 hb).imp id (fun h => List.mem_singleton.1 h)) (by simp) hT.le (by rw [cellsB_append, cellsB_one]) (hO.sub (.cons _ (.refl _)) (.refl _) (fun _ h => h))
  ·go_wp2_with fail
   refine wp_region_any (by kernel_rfl) ?_
   replace hO := hO.drew
   have ix9 := Ix.mk [0, 1, 2, 4, 9]
   iterate 5 (refine wpAny_tk ix9 ?_; replace ix9 := ix9.tail; (first | go_big_quiet_skip | (go_big_quiet_want; (go_big_quiet_op; (first | go_big_quiet_on | ((refine ⟨_, fun _ _ => rfl, ?_⟩); go_big_quiet_on))))); (refine wpQuiet_nil ?_); (try simp only [Act.put]); (try simp only [sI9, sZ9, sS9]))
   clear ix9
   refine wpAny_1 3 ?_
   rotate_left 1
   all_goals
    refine wpOp_of_listL rfl ?_
    ((refine wpList_step (fun K hK => ?_)); go_simp; ((go_at_call 21; (with_reducible refine (next_pos 5 hZ (hO.tapeIn List.mem_cons_self (by (intro s hs; repeat (first | exact hs | apply List.mem_append_right))) hT.le) (by omega) (by omega)).mono ?_); rintro e wv ⟨v, i1, rfl, hv9, hk, hT1⟩; replace hO := hO.after (by (repeat (exact Upd.here))) hk hT1.blk; replace hT := hT1; clear hT1 hk; obtain ⟨f9, rfl, hf0, hf1⟩ := hv9; obtain ⟨f5, rfl⟩ : ∃ f5 : Nat, f9 = f5 := ⟨f9.toNat, by omega⟩; have hf5 : f5 < 5 := (by omega); have c9 := cb_lo s hlt hf5; have hn9 := cellsB_setLo hlt hf5 (IntKind.u32.wrap ((s[k].at f5).lo + 1)); have hs9 : k * 10 + f5 * 2 < (cellsB s).length := (by rw [cellsB_length]; omega)); (try simp only []); (refine hK _ _ ?_); clear hK K))
    refine wpList_done (qk_intro ?_)
   have ix9 := Ix.mk [5, 6]
   iterate 2 (refine wpAny_tk ix9 ?_; replace ix9 := ix9.tail; (first | go_big_quiet_skip | (go_big_quiet_want; (go_big_quiet_op; (first | go_big_quiet_on | ((refine ⟨_, fun _ _ => rfl, ?_⟩); go_big_quiet_on))))); (refine wpQuiet_nil ?_); (try simp only [Act.put]); (try simp only [sI9, sZ9, sS9]))
   clear ix9
   refine wpAny_1 7 ?_
   rotate_left 1
   all_goals
    refine wpOp_of_listL rfl ?_
    (refine ldN ?_); (try simp only [Act.put]); (try simp only [sI9, sZ9, sS9])
    refine wpList_done (qk_intro ?_)
   have ix9 := Ix.mk [8, 10, 11]
   iterate 3 (refine wpAny_tk ix9 ?_; replace ix9 := ix9.tail; (first | go_big_quiet_skip | (go_big_quiet_want; (go_big_quiet_op; (first | go_big_quiet_on | ((refine ⟨_, fun _ _ => rfl, ?_⟩); go_big_quiet_on))))); (refine wpQuiet_nil ?_); (try simp only [Act.put]); (try simp only [sI9, sZ9, sS9]))
   clear ix9
   refine wpAny_1 12 ?_
   rotate_left 1
   all_goals
    refine wpOp_of_listL rfl ?_
    ((with_reducible refine is_store ?_); (refine own_stRo hO (h := ?_); clear hO; intro wv hO)); (try simp only [Act.put])
    refine wpList_done (qk_intro ?_)
   refine wpAny_done (by kernel_rfl) ?_ _
   rotate_left
   all_goals
    go_wp2_with fail
    go_ret
    exact FIN.out (s.set k (s[k].set f5 ⟨IntKind.u32.wrap ((s[k].at f5).lo + 1), (s[k].at f5).hi⟩)) (s[k].set f5 ⟨IntKind.u32.wrap ((s[k].at f5).lo + 1), (s[k].at f5).hi⟩) _ _ _ _ _ (fun b hb => (List.mem_or_eq_of_mem_set hb).elim (ks b) (fun h => by rw [h]; exact ok_set hksk f5 (by rw [IntKind.wrap_u32]; omega) (by rw [IntKind.wrap_u32]; omega) (hksk f5 hf5).2.1 (hksk f5 hf5).2.2)) (fun b hb => List.mem_or_eq_of_mem_set hb) (by simp) hT.le rfl hO
theorem mk_facts {l : List Bx} (kl : okL l) (nl : l.length ≤ 4) : okL ((makeF l).getD []) ∧ ((makeF l).getD []).length ≤ 4096 ∧ Ends 8 ((makeF l).getD []) := by
 cases h : makeF l with
 | none => exact ⟨fun b hb => (by cases hb), by simp, (ends_len []).mono (by simp)⟩
 | some r =>
  obtain ⟨h1, _⟩ := make_set kl h
  obtain ⟨e, he⟩ := (ends_len (valF l)).at
  have h2 := (EndsAt.make he.nil he h).ends
  have h3 := valF_le l
  exact ⟨h1.ok, h1.2.1, h2.mono (by omega)⟩
theorem spoil_ends {N : Nat} {s m : List Bx} {b' : Bx} (h : Ends N s) (hm : ∀ b ∈ m, b ∈ s ∨ b = b') : Ends (N + 2) m := fun k hk => by
 obtain ⟨e, h1, h2⟩ := h k hk
 refine ⟨(b'.at k).lo :: ((b'.at k).hi + 1) :: e, by simp; omega, fun b hb => ?_⟩
 rcases hm b hb with h3 | rfl
 ·obtain ⟨h4, h5⟩ := h2 b h3
  constructor
  ·simp only [List.mem_cons] at h4 ⊢; rcases h4 with h | h | h <;> simp [h]
  ·simp only [List.mem_cons] at h5 ⊢; rcases h5 with h | h | h <;> simp [h]
 ·constructor <;> simp
end Go.Proofs.YtbdfblgdmappeaaGreatDoor
