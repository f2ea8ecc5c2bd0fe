/- FilterSwaps: the walk. -/
import Derived.Deep.CutRange
import Derived.Deep.DeepCutAuto
import Derived.Test.YtmcbbepfakfehaaDoorOK
import Derived.Test.YtmcbbepfakfehaaDoorOF
import Derived.Test.YtmcbbepfakfehaaDoorMB
namespace Go.Proofs.YtmcbbepfakfehaaDoor
open Go.RowKit
set_option maxRecDepth 100000
theorem cellsR_set {l : List Rul} {k : Nat} (h : k < l.length) (b : Rul) : putAt (cellsR l) (k * 11) (rlcs b) = cellsR (l.set k b) := by
  induction l generalizing k with
  | nil => simp at h
  | cons c l ih =>
    cases k with
    | zero =>
      simp only [cellsR, List.set_cons_zero, Nat.zero_mul]
      rfl
    | succ k =>
      simp only [cellsR, List.set_cons_succ]
      rw [← ih (by simpa using h)]
      have h11 : (k + 1) * 11 = (rlcs c).length + k * 11 := by rw [rlcs_length]; omega
      rw [h11]
      generalize rlcs c = xs
      generalize cellsR l = ys
      generalize rlcs b = vs
      generalize k * 11 = q
      clear h11 ih h
      induction xs with
      | nil => simp
      | cons x xs ih => rw [List.cons_append, List.cons_append, ← ih, List.length_cons, show xs.length + 1 + q = (xs.length + q) + 1 by omega, putAt_cons]
theorem set_two (p q : Rul) (B : List Rul) : ∀ A : List Rul, ((A ++ p :: q :: B).set A.length q).set (A.length + 1) p = A ++ q :: p :: B
  | [] => rfl
  | a :: A => by
    have := set_two p q B A
    simp only [List.cons_append, List.length_cons, List.set_cons_succ, this]
theorem split_two {x : List Rul} {k : Nat} (hk : k + 1 < x.length) : x = x.take k ++ x[k] :: x[k + 1] :: x.drop (k + 1 + 1) := by
  rw [← List.drop_eq_getElem_cons hk, ← List.drop_eq_getElem_cons (show k < x.length by omega), List.take_append_drop]
def swapT (x : List Rul) (k m : Nat) (p q : Rul) : List Rul := (x.set k q).set m p
theorem swap_facts {x : List Rul} (kx : okT x) {k m : Nat} (hm : m = k + 1) (hk : k < x.length) (hk2 : m < x.length) : okT (swapT x k m x[k] x[m]) ∧ (swapT x k m x[k] x[m]).length = x.length ∧
    ((x[k].2 = x[m].2 ∨ (interB x[k].1 x[m].1).2 = false) → ∀ h : Hd, h.ok → decP x h = decP (swapT x k m x[k] x[m]) h) := by
  subst hm
  refine ⟨fun r hr => ?_, by unfold swapT; rw [List.length_set, List.length_set], fun hc h ho => ?_⟩
  · rcases List.mem_or_eq_of_mem_set hr with hr | rfl
    · rcases List.mem_or_eq_of_mem_set hr with hr | rfl
      · exact kx r hr
      · exact kx _ (List.getElem_mem hk2)
    · exact kx _ (List.getElem_mem hk)
  · have e := split_two hk2
    have hl : (x.take k).length = k := by rw [List.length_take]; omega
    have e2 : swapT x k (k + 1) x[k] x[k + 1] = x.take k ++ x[k + 1] :: x[k] :: x.drop (k + 1 + 1) := by
      have h2 := set_two x[k] x[k + 1] (x.drop (k + 1 + 1)) (x.take k)
      rw [hl, ← e] at h2
      exact h2
    rw [e2]
    conv => lhs; rw [e]
    refine decP_swap (hc.imp id fun hi hb => ?_) _ _
    have hI := interB_has x[k].1 x[k + 1].1 h
    rw [hi, hb.1, hb.2] at hI
    simp at hI
set_option maxHeartbeats 16000000 in
theorem fswaps_law (sl : Value) (zs : List Int) (h : Hd) (w : World) (ht : Tops w) (hZ : ZsOk sl zs) (hr : ∀ s ∈ roS sl (ints zs), w.rangeAt s.g s.o s.xs) (ho : h.ok) :
    Calls Tryd.prog 8 #[sl, hv h] w fun e w' => e = .returned (.bool true) ∧ Below w.heap.size w w' := by
  have hO := own_law hr
  clear hr
  obtain ⟨sa, sc, rfl, -⟩ := hZ.view
  go_enter Tryd.func8, Tryd.ntmps8
  go_upto_region 3 with (first | ((with_reducible refine is_load ?_); (first | (refine own_ldT (h := ?_)))) | ((with_reducible refine is_store ?_); (first | (refine own_stRT (hO := hO) (h := ?_); clear hO; intro wv hO) | (refine own_st1T (hO := hO) (h := ?_); clear hO; intro wv hO))) | ((with_reducible refine is_box ?_); (first | (refine own_bx (o := ⟨some 3, _, _, _, _, _⟩) (hO := hO) (h := ?_); clear hO; intro n3 wv hO))) | ((with_reducible refine is_alloc ?_); (first | (refine own_alT (o := ⟨some 9, _, _, _, _, _⟩) (hO := hO) (h := ?_); clear hO; intro n9 wv hO) | (refine own_alT (o := ⟨some 11, _, _, _, _, _⟩) (hO := hO) (h := ?_); clear hO; intro n11 wv hO))) | ((with_reducible refine is_append ?_); (first | (refine own_apT (o := ⟨some 33, _, _, _, _, _⟩) (hO := hO) (h := ?_); clear hO; intro g33 c33 wv hO))) | (go_at_call 9; (with_reducible refine (new_any _ _ _).mono ?_); rintro e wv ⟨n, rfl, hB, hn, hb⟩; replace hO := hO.gain hb hB hn; have hT := hO.tapeIn List.mem_cons_self (by (intro s hs; repeat (first | exact hs | exact List.mem_append_left _ hs | apply List.mem_append_right | apply List.mem_cons_of_mem))) (Nat.zero_le _); clear hb hB hn) | (go_at_call 10; (with_reducible refine (ttable_any 5 true hZ (hO.tapeIn (by (repeat (first | exact List.mem_cons_self | refine List.mem_cons_of_mem _ ?_))) (by (intro s hs; repeat (first | exact hs | exact List.mem_append_left _ hs | apply List.mem_append_right | apply List.mem_cons_of_mem))) hT.le) (by omega) (by omega)).mono ?_); rintro e wv ⟨vx, i1, rfl, ⟨x, hv9, hn9, kx, nx⟩, hk9, hT1⟩; have hoff9 := off_of_new hO hn9; replace hO := hO.after (by (repeat (first | exact Upd.here | apply Upd.there))) hk9 hT1.blk; replace hT := hT1; clear hT1 hk9; have hfx := hv9.form; obtain ⟨ax, cx, rfl, hax, hO⟩ := own_offRS hO ⟨hv9, hoff9⟩; clear hv9 hn9 hoff9))
  by_cases h2 : x.length < 2
  · have g1 : decide ((x.length : Int) < 2) = true := decide_eq_true (by omega)
    go_wp2_with (first | ((with_reducible refine is_load ?_); (first | (refine own_ldT (h := ?_)))) | ((with_reducible refine is_store ?_); (first | (refine own_stRT (hO := hO) (h := ?_); clear hO; intro wv hO) | (refine own_st1T (hO := hO) (h := ?_); clear hO; intro wv hO))) | ((with_reducible refine is_box ?_); (first | (refine own_bx (o := ⟨some 3, _, _, _, _, _⟩) (hO := hO) (h := ?_); clear hO; intro n3 wv hO))) | ((with_reducible refine is_alloc ?_); (first | (refine own_alT (o := ⟨some 9, _, _, _, _, _⟩) (hO := hO) (h := ?_); clear hO; intro n9 wv hO) | (refine own_alT (o := ⟨some 11, _, _, _, _, _⟩) (hO := hO) (h := ?_); clear hO; intro n11 wv hO))) | ((with_reducible refine is_append ?_); (first | (refine own_apT (o := ⟨some 33, _, _, _, _, _⟩) (hO := hO) (h := ?_); clear hO; intro g33 c33 wv hO))) | (go_at_call 14; refine (sane8_any _ (hO.tops ht (by simp))).mono ?_; rintro e wv ⟨rfl, hb⟩; replace hO := hO.call hb; clear hb))
    go_ret
    exact ⟨rfl, hO.keep.below⟩
  · have g1 : decide ((x.length : Int) < 2) = false := decide_eq_false (by omega)
    have s0 : IntKind.i64.wrap ((x.length : Int) - 1) = (x.length : Int) - 1 := IntWalk.i64_in _ (by omega)
    have hsrc := fun (wq : World) (h : IsTable wq (.slice ax x.length cx) x) => show SrcAt wq 11 ax x.length (cellsR x) by
      have := src_table (m := x.length) h (Nat.le_refl _)
      rwa [List.take_length] at this
    go_upto_region 7 with (first | ((with_reducible refine is_load ?_); (first | (refine own_ldT (h := ?_)))) | ((with_reducible refine is_store ?_); (first | (refine own_stRT (hO := hO) (h := ?_); clear hO; intro wv hO) | (refine own_st1T (hO := hO) (h := ?_); clear hO; intro wv hO))) | ((with_reducible refine is_box ?_); (first | (refine own_bx (o := ⟨some 3, _, _, _, _, _⟩) (hO := hO) (h := ?_); clear hO; intro n3 wv hO))) | ((with_reducible refine is_alloc ?_); (first | (refine own_alT (o := ⟨some 9, _, _, _, _, _⟩) (hO := hO) (h := ?_); clear hO; intro n9 wv hO) | (refine own_alT (o := ⟨some 11, _, _, _, _, _⟩) (hO := hO) (h := ?_); clear hO; intro n11 wv hO))) | ((with_reducible refine is_append ?_); (first | (refine own_apT (o := ⟨some 33, _, _, _, _, _⟩) (hO := hO) (h := ?_); clear hO; intro g33 c33 wv hO))) | (go_at_call 12; (with_reducible refine (next_pos ((x.length : Int) - 1) hZ (hO.tapeIn (by (repeat (first | exact List.mem_cons_self | refine List.mem_cons_of_mem _ ?_))) (by (intro s hs; repeat (first | exact hs | exact List.mem_append_left _ hs | apply List.mem_append_right | apply List.mem_cons_of_mem))) hT.le) (by omega) (by omega)).mono ?_); rintro e wv ⟨v, i1, rfl, ⟨r9, rfl, hr0, hr1⟩, hk9, hT1⟩; replace hO := hO.after (by (repeat (first | exact Upd.here | apply Upd.there))) hk9 hT1.blk; replace hT := hT1; clear hT1 hk9) | ((with_reducible refine is_build ?_); (refine own_build0 (o := ⟨some 31, _, _, _, _, _⟩) hO (by rfl) rfl slice_Table ?_); clear hO; intro n31 wv hO) | ((with_reducible refine is_append ?_); (refine own_appendA (o := ⟨some 33, _, _, _, _, _⟩) hO rfl rfl slice_Table rfl rfl (hsrc _ (hO.isR hfx (by intro q hq; repeat (first | exact hq | exact List.mem_append_left _ hq | apply List.mem_append_right | apply List.mem_cons_of_mem)))) (cellsR_one' _) (fun _ => by repeat (first | exact UpdR.here | apply UpdR.there)) (by first | omega | (simp; omega)) (by unfold maxLen; first | omega | (simp; omega)) ?_); clear hO; intro A9 c9 wv hO))
    simp only [Nat.zero_add, List.nil_append] at hO
    obtain ⟨k, rfl⟩ : ∃ k : Nat, r9 = k := ⟨r9.toNat, by omega⟩
    obtain ⟨m, hm⟩ : ∃ m : Nat, m = k + 1 := ⟨_, rfl⟩
    have hlt : k < x.length := by omega
    have hlt2 : m < x.length := by omega
    have s1 : IntKind.i64.wrap ((k : Int) + 1) = (m : Int) := (IntWalk.i64_in _ (by omega)).trans (by omega)
    obtain ⟨a9, c8, e9, hg9⟩ := row_view (hO.row _ List.mem_cons_self)
    dsimp only at e9 hg9
    cases e9
    obtain ⟨g9, rfl⟩ := hg9 (by omega)
    obtain ⟨g, o, rfl⟩ := hax (by omega)
    have t1 := tk_rule x hlt
    have t2 := tk_rule x hlt2
    have t3 := tk_match x hlt
    have t4 := tk_match x hlt2
    have t5 := cr_permit x hlt
    have t6 := cr_permit x hlt2
    have n1 := cellsR_set hlt x[m]
    have hl1 : m < (x.set k x[m]).length := by rw [List.length_set]; omega
    have n2 := cellsR_set hl1 x[k]
    have z1 : k * 11 + 11 ≤ (cellsR x).length := by rw [cellsR_length]; omega
    have z2 : m * 11 + 11 ≤ (cellsR (x.set k x[m])).length := by rw [cellsR_length, List.length_set]; omega
    have FS := swap_facts kx hm hlt hlt2
    unfold swapT at FS
    clear hl1 hsrc h2 hr0 hr1 g1 s0 hm
    generalize x[k] = rk at *
    generalize x[m] = rm at *
    generalize (x.set k rm).set m rk = y at *
    generalize x.set k rm = x1 at *
    obtain ⟨bk, pk⟩ := rk
    obtain ⟨bm, pm⟩ := rm
    dsimp only at t3 t4 t5 t6 FS
    replace hO := hO.sub (X' := [⟨n, tcs (.slice sa zs.length sc) i1, 70⟩, ⟨n3, hcs h, 36⟩]) (S' := ⟨g, o, cellsR x⟩ :: roS (.slice sa zs.length sc) (ints zs)) (by repeat (first | exact List.Sublist.refl _ | apply List.Sublist.cons)) (.refl _) (fun q hq => hq)
    go_cut [8] (fun q8 wx => q8 = .slice (some ⟨g9, 0, none⟩) x.length c9 ∧ Own [] w [⟨n, tcs (.slice sa zs.length sc) i1, 70⟩, ⟨n3, hcs h, 36⟩] [⟨.slice (some ⟨g9, 0, none⟩) x.length c9, x.length, cellsR y, 66, 11⟩] (⟨g, o, cellsR x⟩ :: roS (.slice sa zs.length sc) (ints zs)) wx)
    case first =>
      clear t3 t4
      (try simp only [Act.put]); (try simp only [List.setIfInBounds_toArray, List.set_cons_zero, List.set_cons_succ])
      refine wp_region_any (by kernel_rfl) ?_
      replace hO := hO.drew
      have ix9 := Ix.mk [0, 1, 2, 3, 4, 5, 6, 7, 8, 10, 11, 12]
      iterate 12 (refine wpAny_tk ix9 ?_; replace ix9 := ix9.tail; (first | go_big_quiet_skip | (go_big_quiet_want; (go_big_quiet_op; (first | go_big_quiet_on | ((refine ⟨_, fun _ _ => rfl, ?_⟩); go_big_quiet_on))))); (refine wpQuiet_nil ?_); (try simp only [Act.put]); (try simp only [List.setIfInBounds_toArray, List.set_cons_zero, List.set_cons_succ]))
      clear ix9
      refine wpAny_all (rs := [9, 13]) (by kernel_rfl) (by simp) (ord_cons ?_ (ord_cons ?_ ord_nil))
      rotate_left 2
      all_goals
        refine wpOp_of_listL rfl ?_
        (first | ((with_reducible refine is_load ?_); (first | (refine own_ldT (h := ?_)))) | ((with_reducible refine is_store ?_); (first | (refine own_stRT (hO := hO) (h := ?_); clear hO; intro wv hO) | (refine own_st1T (hO := hO) (h := ?_); clear hO; intro wv hO))) | ((with_reducible refine is_store ?_); (refine own_stRw hO (ht := row_Rule) (h := ?_); clear hO; intro wv hO)) | ((refine wpList_step (fun K hK => ?_)); go_simp; (first | ((refine hK _ _ ?_); clear hK K)))); (try simp only [Act.put]); (try simp only [List.setIfInBounds_toArray, List.set_cons_zero, List.set_cons_succ])
        refine wpList_done (qk_intro ?_)
      refine wpAny_all (rs := [13]) (by kernel_rfl) (by simp) (ord_cons ?_ ord_nil)
      rotate_left 1
      refine wpAny_all (rs := [9]) (by kernel_rfl) (by simp) (ord_cons ?_ ord_nil)
      rotate_left 1
      all_goals
        refine wpOp_of_listL rfl ?_
        (first | ((with_reducible refine is_load ?_); (first | (refine own_ldT (h := ?_)))) | ((with_reducible refine is_store ?_); (first | (refine own_stRT (hO := hO) (h := ?_); clear hO; intro wv hO) | (refine own_st1T (hO := hO) (h := ?_); clear hO; intro wv hO))) | ((with_reducible refine is_store ?_); (refine own_stRw hO (ht := row_Rule) (h := ?_); clear hO; intro wv hO)) | ((refine wpList_step (fun K hK => ?_)); go_simp; (first | ((refine hK _ _ ?_); clear hK K)))); (try simp only [Act.put]); (try simp only [List.setIfInBounds_toArray, List.set_cons_zero, List.set_cons_succ])
        refine wpList_done (qk_intro ?_)
      refine wpAny_tk (Ix.mk [14]) ?_
      (first | go_big_quiet_skip | (go_big_quiet_want; (go_big_quiet_op; (first | go_big_quiet_on | ((refine ⟨_, fun _ _ => rfl, ?_⟩); go_big_quiet_on))))); (refine wpQuiet_nil ?_); (try simp only [Act.put]); (try simp only [List.setIfInBounds_toArray, List.set_cons_zero, List.set_cons_succ])
      refine wpAny_all (rs := [15]) (by kernel_rfl) (by simp) (ord_cons ?_ ord_nil)
      rotate_left 1
      refine wpAny_tk (Ix.mk [14]) ?_
      (first | go_big_quiet_skip | (go_big_quiet_want; (go_big_quiet_op; (first | go_big_quiet_on | ((refine ⟨_, fun _ _ => rfl, ?_⟩); go_big_quiet_on))))); (refine wpQuiet_nil ?_); (try simp only [Act.put]); (try simp only [List.setIfInBounds_toArray, List.set_cons_zero, List.set_cons_succ])
      refine wpAny_all (rs := [15]) (by kernel_rfl) (by simp) (ord_cons ?_ ord_nil)
      rotate_left 1
      all_goals
        refine wpOp_of_listL rfl ?_
        (first | ((with_reducible refine is_load ?_); (first | (refine own_ldT (h := ?_)))) | ((with_reducible refine is_store ?_); (first | (refine own_stRT (hO := hO) (h := ?_); clear hO; intro wv hO) | (refine own_st1T (hO := hO) (h := ?_); clear hO; intro wv hO))) | ((with_reducible refine is_store ?_); (refine own_stRw hO (ht := row_Rule) (h := ?_); clear hO; intro wv hO)) | ((refine wpList_step (fun K hK => ?_)); go_simp; (first | ((refine hK _ _ ?_); clear hK K)))); (try simp only [Act.put]); (try simp only [List.setIfInBounds_toArray, List.set_cons_zero, List.set_cons_succ])
        refine wpList_done (qk_intro ?_)
      refine wpAny_tk (Ix.mk [16]) ?_
      (first | go_big_quiet_skip | (go_big_quiet_want; (go_big_quiet_op; (first | go_big_quiet_on | ((refine ⟨_, fun _ _ => rfl, ?_⟩); go_big_quiet_on))))); (refine wpQuiet_nil ?_); (try simp only [Act.put]); (try simp only [List.setIfInBounds_toArray, List.set_cons_zero, List.set_cons_succ])
      refine wpAny_all (rs := [17]) (by kernel_rfl) (by simp) (ord_cons ?_ ord_nil)
      rotate_left 1
      refine wpAny_tk (Ix.mk [16]) ?_
      (first | go_big_quiet_skip | (go_big_quiet_want; (go_big_quiet_op; (first | go_big_quiet_on | ((refine ⟨_, fun _ _ => rfl, ?_⟩); go_big_quiet_on))))); (refine wpQuiet_nil ?_); (try simp only [Act.put]); (try simp only [List.setIfInBounds_toArray, List.set_cons_zero, List.set_cons_succ])
      refine wpAny_all (rs := [17]) (by kernel_rfl) (by simp) (ord_cons ?_ ord_nil)
      rotate_left 1
      all_goals
        refine wpOp_of_listL rfl ?_
        (first | ((with_reducible refine is_load ?_); (first | (refine own_ldT (h := ?_)))) | ((with_reducible refine is_store ?_); (first | (refine own_stRT (hO := hO) (h := ?_); clear hO; intro wv hO) | (refine own_st1T (hO := hO) (h := ?_); clear hO; intro wv hO))) | ((with_reducible refine is_store ?_); (refine own_stRw hO (ht := row_Rule) (h := ?_); clear hO; intro wv hO)) | ((refine wpList_step (fun K hK => ?_)); go_simp; (first | ((refine hK _ _ ?_); clear hK K)))); (try simp only [Act.put]); (try simp only [List.setIfInBounds_toArray, List.set_cons_zero, List.set_cons_succ])
        refine wpList_done (qk_intro ?_)
      refine wpAny_done (by kernel_rfl) ?_ _
      rotate_left
      refine wpAny_done (by kernel_rfl) ?_ _
      rotate_left
      all_goals
        go_wp2_with fail
        go_meet
        exact ⟨rfl, hO⟩
    case rest =>
      clear hO hT n1 n2 z1 z2 t1 t2
      obtain ⟨rfl, hO⟩ := hcut
      have hI := rintersect_any bk bm
      generalize hJ : interB bk bm = J at *
      obtain ⟨bJ, okJ⟩ := J
      dsimp only at hI FS
      go_upto_region 8 with (first | ((with_reducible refine is_load ?_); (first | (refine own_ldT (h := ?_)))) | ((with_reducible refine is_store ?_); (first | (refine own_stRT (hO := hO) (h := ?_); clear hO; intro wv hO) | (refine own_st1T (hO := hO) (h := ?_); clear hO; intro wv hO))) | ((with_reducible refine is_box ?_); (first | (refine own_bx (o := ⟨some 3, _, _, _, _, _⟩) (hO := hO) (h := ?_); clear hO; intro n3 wv hO))) | ((with_reducible refine is_alloc ?_); (first | (refine own_alT (o := ⟨some 9, _, _, _, _, _⟩) (hO := hO) (h := ?_); clear hO; intro n9 wv hO) | (refine own_alT (o := ⟨some 11, _, _, _, _, _⟩) (hO := hO) (h := ?_); clear hO; intro n11 wv hO))) | ((with_reducible refine is_append ?_); (first | (refine own_apT (o := ⟨some 33, _, _, _, _, _⟩) (hO := hO) (h := ?_); clear hO; intro g33 c33 wv hO))))
      go_cut [10] (fun q10 wx => q10 = .bool okJ ∧ Own [] w [⟨n, tcs (.slice sa zs.length sc) i1, 70⟩, ⟨n3, hcs h, 36⟩] [⟨.slice (some ⟨g9, 0, none⟩) x.length c9, x.length, cellsR y, 66, 11⟩] (⟨g, o, cellsR x⟩ :: roS (.slice sa zs.length sc) (ints zs)) wx)
      case first =>
        (try simp only [Act.put]); (try simp only [List.setIfInBounds_toArray, List.set_cons_zero, List.set_cons_succ])
        refine wp_region_any (by kernel_rfl) ?_
        replace hO := hO.drew
        have ix9 := Ix.mk [0, 1, 2, 3, 5, 6, 7, 8, 9]
        iterate 9 (refine wpAny_tk ix9 ?_; replace ix9 := ix9.tail; (first | go_big_quiet_skip | (go_big_quiet_want; (go_big_quiet_op; (first | go_big_quiet_on | ((refine ⟨_, fun _ _ => rfl, ?_⟩); go_big_quiet_on))))); (refine wpQuiet_nil ?_); (try simp only [Act.put]); (try simp only [List.setIfInBounds_toArray, List.set_cons_zero, List.set_cons_succ]))
        clear ix9
        refine wpAny_all (rs := [4, 10, 15]) (by kernel_rfl) (by simp) (ord_cons ?_ (ord_cons ?_ (ord_cons ?_ ord_nil)))
        rotate_left 3
        all_goals
          refine wpOp_of_listL rfl ?_
          (first | ((with_reducible refine is_load ?_); (first | (refine own_ldT (h := ?_)))) | ((with_reducible refine is_store ?_); (first | (refine own_stRT (hO := hO) (h := ?_); clear hO; intro wv hO) | (refine own_st1T (hO := hO) (h := ?_); clear hO; intro wv hO))) | ((with_reducible refine is_alloc ?_); (first | (refine own_alT (o := ⟨some 9, _, _, _, _, _⟩) (hO := hO) (h := ?_); clear hO; intro n9 wv hO))) | ((refine wpList_step (fun K hK => ?_)); go_simp; (first | ((refine hK _ _ ?_); clear hK K) | ((first | (go_at_call 29; (with_reducible refine (hI _).mono ?_); rintro e wv ⟨rfl, hb9⟩; replace hO := hO.call hb9; clear hb9)); (try simp only []); (refine hK _ _ ?_); clear hK K)))); (try simp only [Act.put]); (try simp only [List.setIfInBounds_toArray, List.set_cons_zero, List.set_cons_succ])
          refine wpList_done (qk_intro ?_)
        refine wpAny_all (rs := [10, 15]) (by kernel_rfl) (by simp) (ord_cons ?_ (ord_cons ?_ ord_nil))
        rotate_left 2
        refine wpAny_all (rs := [4, 15]) (by kernel_rfl) (by simp) (ord_cons ?_ (ord_cons ?_ ord_nil))
        rotate_left 2
        refine wpAny_all (rs := [4, 10]) (by kernel_rfl) (by simp) (ord_cons ?_ (ord_cons ?_ ord_nil))
        rotate_left 2
        all_goals
          refine wpOp_of_listL rfl ?_
          (first | ((with_reducible refine is_load ?_); (first | (refine own_ldT (h := ?_)))) | ((with_reducible refine is_store ?_); (first | (refine own_stRT (hO := hO) (h := ?_); clear hO; intro wv hO) | (refine own_st1T (hO := hO) (h := ?_); clear hO; intro wv hO))) | ((with_reducible refine is_alloc ?_); (first | (refine own_alT (o := ⟨some 9, _, _, _, _, _⟩) (hO := hO) (h := ?_); clear hO; intro n9 wv hO))) | ((refine wpList_step (fun K hK => ?_)); go_simp; (first | ((refine hK _ _ ?_); clear hK K) | ((first | (go_at_call 29; (with_reducible refine (hI _).mono ?_); rintro e wv ⟨rfl, hb9⟩; replace hO := hO.call hb9; clear hb9)); (try simp only []); (refine hK _ _ ?_); clear hK K)))); (try simp only [Act.put]); (try simp only [List.setIfInBounds_toArray, List.set_cons_zero, List.set_cons_succ])
          refine wpList_done (qk_intro ?_)
        refine wpAny_all (rs := [11, 15]) (by kernel_rfl) (by simp) (ord_cons ?_ (ord_cons ?_ ord_nil))
        rotate_left 2
        refine wpAny_all (rs := [10]) (by kernel_rfl) (by simp) (ord_cons ?_ ord_nil)
        rotate_left 1
        refine wpAny_all (rs := [11, 15]) (by kernel_rfl) (by simp) (ord_cons ?_ (ord_cons ?_ ord_nil))
        rotate_left 2
        refine wpAny_all (rs := [4]) (by kernel_rfl) (by simp) (ord_cons ?_ ord_nil)
        rotate_left 1
        refine wpAny_all (rs := [10]) (by kernel_rfl) (by simp) (ord_cons ?_ ord_nil)
        rotate_left 1
        refine wpAny_all (rs := [4]) (by kernel_rfl) (by simp) (ord_cons ?_ ord_nil)
        rotate_left 1
        all_goals
          refine wpOp_of_listL rfl ?_
          (first | ((with_reducible refine is_load ?_); (first | (refine own_ldT (h := ?_)))) | ((with_reducible refine is_store ?_); (first | (refine own_stRT (hO := hO) (h := ?_); clear hO; intro wv hO) | (refine own_st1T (hO := hO) (h := ?_); clear hO; intro wv hO))) | ((with_reducible refine is_alloc ?_); (first | (refine own_alT (o := ⟨some 9, _, _, _, _, _⟩) (hO := hO) (h := ?_); clear hO; intro n9 wv hO))) | ((refine wpList_step (fun K hK => ?_)); go_simp; (first | ((refine hK _ _ ?_); clear hK K) | ((first | (go_at_call 29; (with_reducible refine (hI _).mono ?_); rintro e wv ⟨rfl, hb9⟩; replace hO := hO.call hb9; clear hb9)); (try simp only []); (refine hK _ _ ?_); clear hK K)))); (try simp only [Act.put]); (try simp only [List.setIfInBounds_toArray, List.set_cons_zero, List.set_cons_succ])
          refine wpList_done (qk_intro ?_)
        have ix9 := Ix.mk [12, 13, 14]
        iterate 3 (refine wpAny_tk ix9 ?_; replace ix9 := ix9.tail; (first | go_big_quiet_skip | (go_big_quiet_want; (go_big_quiet_op; (first | go_big_quiet_on | ((refine ⟨_, fun _ _ => rfl, ?_⟩); go_big_quiet_on))))); (refine wpQuiet_nil ?_); (try simp only [Act.put]); (try simp only [List.setIfInBounds_toArray, List.set_cons_zero, List.set_cons_succ]))
        clear ix9
        refine wpAny_all (rs := [15]) (by kernel_rfl) (by simp) (ord_cons ?_ ord_nil)
        rotate_left 1
        refine wpAny_all (rs := [11]) (by kernel_rfl) (by simp) (ord_cons ?_ ord_nil)
        rotate_left 1
        refine wpAny_all (rs := [11]) (by kernel_rfl) (by simp) (ord_cons ?_ ord_nil)
        rotate_left 1
        have ix9 := Ix.mk [12, 13, 14]
        iterate 3 (refine wpAny_tk ix9 ?_; replace ix9 := ix9.tail; (first | go_big_quiet_skip | (go_big_quiet_want; (go_big_quiet_op; (first | go_big_quiet_on | ((refine ⟨_, fun _ _ => rfl, ?_⟩); go_big_quiet_on))))); (refine wpQuiet_nil ?_); (try simp only [Act.put]); (try simp only [List.setIfInBounds_toArray, List.set_cons_zero, List.set_cons_succ]))
        clear ix9
        refine wpAny_all (rs := [15]) (by kernel_rfl) (by simp) (ord_cons ?_ ord_nil)
        rotate_left 1
        refine wpAny_all (rs := [11]) (by kernel_rfl) (by simp) (ord_cons ?_ ord_nil)
        rotate_left 1
        refine wpAny_all (rs := [11]) (by kernel_rfl) (by simp) (ord_cons ?_ ord_nil)
        rotate_left 1
        refine wpAny_all (rs := [11]) (by kernel_rfl) (by simp) (ord_cons ?_ ord_nil)
        rotate_left 1
        refine wpAny_all (rs := [11]) (by kernel_rfl) (by simp) (ord_cons ?_ ord_nil)
        rotate_left 1
        all_goals
          refine wpOp_of_listL rfl ?_
          (first | ((with_reducible refine is_load ?_); (first | (refine own_ldT (h := ?_)))) | ((with_reducible refine is_store ?_); (first | (refine own_stRT (hO := hO) (h := ?_); clear hO; intro wv hO) | (refine own_st1T (hO := hO) (h := ?_); clear hO; intro wv hO))) | ((with_reducible refine is_alloc ?_); (first | (refine own_alT (o := ⟨some 9, _, _, _, _, _⟩) (hO := hO) (h := ?_); clear hO; intro n9 wv hO))) | ((refine wpList_step (fun K hK => ?_)); go_simp; (first | ((refine hK _ _ ?_); clear hK K) | ((first | (go_at_call 29; (with_reducible refine (hI _).mono ?_); rintro e wv ⟨rfl, hb9⟩; replace hO := hO.call hb9; clear hb9)); (try simp only []); (refine hK _ _ ?_); clear hK K)))); (try simp only [Act.put]); (try simp only [List.setIfInBounds_toArray, List.set_cons_zero, List.set_cons_succ])
          refine wpList_done (qk_intro ?_)
        refine wpAny_all (rs := [16]) (by kernel_rfl) (by simp) (ord_cons ?_ ord_nil)
        rotate_left 1
        have ix9 := Ix.mk [12, 13, 14]
        iterate 3 (refine wpAny_tk ix9 ?_; replace ix9 := ix9.tail; (first | go_big_quiet_skip | (go_big_quiet_want; (go_big_quiet_op; (first | go_big_quiet_on | ((refine ⟨_, fun _ _ => rfl, ?_⟩); go_big_quiet_on))))); (refine wpQuiet_nil ?_); (try simp only [Act.put]); (try simp only [List.setIfInBounds_toArray, List.set_cons_zero, List.set_cons_succ]))
        clear ix9
        refine wpAny_all (rs := [16]) (by kernel_rfl) (by simp) (ord_cons ?_ ord_nil)
        rotate_left 1
        have ix9 := Ix.mk [12, 13, 14]
        iterate 3 (refine wpAny_tk ix9 ?_; replace ix9 := ix9.tail; (first | go_big_quiet_skip | (go_big_quiet_want; (go_big_quiet_op; (first | go_big_quiet_on | ((refine ⟨_, fun _ _ => rfl, ?_⟩); go_big_quiet_on))))); (refine wpQuiet_nil ?_); (try simp only [Act.put]); (try simp only [List.setIfInBounds_toArray, List.set_cons_zero, List.set_cons_succ]))
        clear ix9
        refine wpAny_all (rs := [16]) (by kernel_rfl) (by simp) (ord_cons ?_ ord_nil)
        rotate_left 1
        refine wpAny_all (rs := [16]) (by kernel_rfl) (by simp) (ord_cons ?_ ord_nil)
        rotate_left 1
        have ix9 := Ix.mk [12, 13, 14]
        iterate 3 (refine wpAny_tk ix9 ?_; replace ix9 := ix9.tail; (first | go_big_quiet_skip | (go_big_quiet_want; (go_big_quiet_op; (first | go_big_quiet_on | ((refine ⟨_, fun _ _ => rfl, ?_⟩); go_big_quiet_on))))); (refine wpQuiet_nil ?_); (try simp only [Act.put]); (try simp only [List.setIfInBounds_toArray, List.set_cons_zero, List.set_cons_succ]))
        clear ix9
        refine wpAny_all (rs := [16]) (by kernel_rfl) (by simp) (ord_cons ?_ ord_nil)
        rotate_left 1
        have ix9 := Ix.mk [12, 13, 14]
        iterate 3 (refine wpAny_tk ix9 ?_; replace ix9 := ix9.tail; (first | go_big_quiet_skip | (go_big_quiet_want; (go_big_quiet_op; (first | go_big_quiet_on | ((refine ⟨_, fun _ _ => rfl, ?_⟩); go_big_quiet_on))))); (refine wpQuiet_nil ?_); (try simp only [Act.put]); (try simp only [List.setIfInBounds_toArray, List.set_cons_zero, List.set_cons_succ]))
        clear ix9
        refine wpAny_all (rs := [16]) (by kernel_rfl) (by simp) (ord_cons ?_ ord_nil)
        rotate_left 1
        have ix9 := Ix.mk [12, 13, 14]
        iterate 3 (refine wpAny_tk ix9 ?_; replace ix9 := ix9.tail; (first | go_big_quiet_skip | (go_big_quiet_want; (go_big_quiet_op; (first | go_big_quiet_on | ((refine ⟨_, fun _ _ => rfl, ?_⟩); go_big_quiet_on))))); (refine wpQuiet_nil ?_); (try simp only [Act.put]); (try simp only [List.setIfInBounds_toArray, List.set_cons_zero, List.set_cons_succ]))
        clear ix9
        refine wpAny_all (rs := [16]) (by kernel_rfl) (by simp) (ord_cons ?_ ord_nil)
        rotate_left 1
        have ix9 := Ix.mk [12, 13, 14]
        iterate 3 (refine wpAny_tk ix9 ?_; replace ix9 := ix9.tail; (first | go_big_quiet_skip | (go_big_quiet_want; (go_big_quiet_op; (first | go_big_quiet_on | ((refine ⟨_, fun _ _ => rfl, ?_⟩); go_big_quiet_on))))); (refine wpQuiet_nil ?_); (try simp only [Act.put]); (try simp only [List.setIfInBounds_toArray, List.set_cons_zero, List.set_cons_succ]))
        clear ix9
        refine wpAny_all (rs := [16]) (by kernel_rfl) (by simp) (ord_cons ?_ ord_nil)
        rotate_left 1
        all_goals
          refine wpOp_of_listL rfl ?_
          (first | ((with_reducible refine is_load ?_); (first | (refine own_ldT (h := ?_)))) | ((with_reducible refine is_store ?_); (first | (refine own_stRT (hO := hO) (h := ?_); clear hO; intro wv hO) | (refine own_st1T (hO := hO) (h := ?_); clear hO; intro wv hO))) | ((with_reducible refine is_alloc ?_); (first | (refine own_alT (o := ⟨some 9, _, _, _, _, _⟩) (hO := hO) (h := ?_); clear hO; intro n9 wv hO))) | ((refine wpList_step (fun K hK => ?_)); go_simp; (first | ((refine hK _ _ ?_); clear hK K) | ((first | (go_at_call 29; (with_reducible refine (hI _).mono ?_); rintro e wv ⟨rfl, hb9⟩; replace hO := hO.call hb9; clear hb9)); (try simp only []); (refine hK _ _ ?_); clear hK K)))); (try simp only [Act.put]); (try simp only [List.setIfInBounds_toArray, List.set_cons_zero, List.set_cons_succ])
          refine wpList_done (qk_intro ?_)
        refine wpAny_all (rs := [17]) (by kernel_rfl) (by simp) (ord_cons ?_ ord_nil)
        rotate_left 1
        refine wpAny_all (rs := [17]) (by kernel_rfl) (by simp) (ord_cons ?_ ord_nil)
        rotate_left 1
        refine wpAny_all (rs := [17]) (by kernel_rfl) (by simp) (ord_cons ?_ ord_nil)
        rotate_left 1
        refine wpAny_all (rs := [17]) (by kernel_rfl) (by simp) (ord_cons ?_ ord_nil)
        rotate_left 1
        refine wpAny_all (rs := [17]) (by kernel_rfl) (by simp) (ord_cons ?_ ord_nil)
        rotate_left 1
        refine wpAny_all (rs := [17]) (by kernel_rfl) (by simp) (ord_cons ?_ ord_nil)
        rotate_left 1
        refine wpAny_all (rs := [17]) (by kernel_rfl) (by simp) (ord_cons ?_ ord_nil)
        rotate_left 1
        refine wpAny_all (rs := [17]) (by kernel_rfl) (by simp) (ord_cons ?_ ord_nil)
        rotate_left 1
        all_goals
          refine wpOp_of_listL rfl ?_
          (first | ((with_reducible refine is_load ?_); (first | (refine own_ldT (h := ?_)))) | ((with_reducible refine is_store ?_); (first | (refine own_stRT (hO := hO) (h := ?_); clear hO; intro wv hO) | (refine own_st1T (hO := hO) (h := ?_); clear hO; intro wv hO))) | ((with_reducible refine is_alloc ?_); (first | (refine own_alT (o := ⟨some 9, _, _, _, _, _⟩) (hO := hO) (h := ?_); clear hO; intro n9 wv hO))) | ((refine wpList_step (fun K hK => ?_)); go_simp; (first | ((refine hK _ _ ?_); clear hK K) | ((first | (go_at_call 29; (with_reducible refine (hI _).mono ?_); rintro e wv ⟨rfl, hb9⟩; replace hO := hO.call hb9; clear hb9)); (try simp only []); (refine hK _ _ ?_); clear hK K)))); (try simp only [Act.put]); (try simp only [List.setIfInBounds_toArray, List.set_cons_zero, List.set_cons_succ])
          refine wpList_done (qk_intro ?_)
        refine wpAny_done (by kernel_rfl) ?_ _
        rotate_left
        refine wpAny_done (by kernel_rfl) ?_ _
        rotate_left
        refine wpAny_done (by kernel_rfl) ?_ _
        rotate_left
        refine wpAny_done (by kernel_rfl) ?_ _
        rotate_left
        refine wpAny_done (by kernel_rfl) ?_ _
        rotate_left
        refine wpAny_done (by kernel_rfl) ?_ _
        rotate_left
        refine wpAny_done (by kernel_rfl) ?_ _
        rotate_left
        refine wpAny_done (by kernel_rfl) ?_ _
        rotate_left
        all_goals
          go_wp2_with fail
          go_meet
          exact ⟨rfl, hO.sub (.cons _ (.refl _)) (.refl _) (fun _ h => h)⟩
      case rest =>
        clear hO t3 t4 hI
        obtain ⟨rfl, hO⟩ := hcut
        have hs8 := sane8_any
        have hTX : ∀ (wq : World) (X' : List Chunk) (R' : List Row), Own [] w X' R' (⟨g, o, cellsR x⟩ :: roS (.slice sa zs.length sc) (ints zs)) wq → IsTable wq (.slice (some ⟨g, o, none⟩) x.length cx) x := fun wq X' R' h => h.isR hfx (fun q hq => List.mem_append_left _ hq)
        obtain ⟨ky, ny, FD⟩ := FS
        have h3 := fun w ht a b => fDiffer_any (vt := .slice (some ⟨g, o, none⟩) x.length cx) (vu := .slice (some ⟨g9, 0, none⟩) x.length c9) (t := x) (u := y) w ht a b kx ky (by omega) (by omega)
        have h4 := fun w ht hv => fDecide_any (vt := .slice (some ⟨g, o, none⟩) x.length cx) (t := x) h w ht ho hv (by omega)
        have h5 := fun w ht hv => fDecide_any (vt := .slice (some ⟨g9, 0, none⟩) x.length c9) (t := y) h w ht ho hv (by omega)
        have hdc := dif_code x y
        have FD2 : (pk = pm ∨ okJ = false) → (difF x y).2.1 = false ∧ decP y h = decP x h := fun hc => ⟨dif_same kx ky (FD hc), (FD hc h ho).symm⟩
        generalize difF x y = D at *
        obtain ⟨dh, db, dc⟩ := D
        dsimp only at h3 hdc FD2
        clear FD hfx ny
        by_cases hc : pk = pm ∨ okJ = false
        · obtain ⟨rfl, hd⟩ := FD2 hc
          rw [hd] at h5
          generalize decP x h = p at *
          generalize decI x h = qx at *
          generalize decI y h = qy at *
          have e1 : (p == p) = true := beq_self_eq_true p
          clear FD2 hd
          rcases hdc with rfl | rfl <;> cases okJ <;> cases pk <;> cases pm <;> (try (simp at hc; done))
          all_goals
            clear hc
            go_wp2_with (first | ((with_reducible refine is_load ?_); (first | (refine own_ldT (h := ?_)))) | ((with_reducible refine is_store ?_); (first | (refine own_stRT (hO := hO) (h := ?_); clear hO; intro wv hO) | (refine own_st1T (hO := hO) (h := ?_); clear hO; intro wv hO))) | ((with_reducible refine is_box ?_); (first | (refine own_bx (o := ⟨some 3, _, _, _, _, _⟩) (hO := hO) (h := ?_); clear hO; intro n3 wv hO))) | ((with_reducible refine is_alloc ?_); (first | (refine own_alT (o := ⟨some 9, _, _, _, _, _⟩) (hO := hO) (h := ?_); clear hO; intro n9 wv hO) | (refine own_alT (o := ⟨some 11, _, _, _, _, _⟩) (hO := hO) (h := ?_); clear hO; intro n11 wv hO))) | ((with_reducible refine is_append ?_); (first | (refine own_apT (o := ⟨some 33, _, _, _, _, _⟩) (hO := hO) (h := ?_); clear hO; intro g33 c33 wv hO))))
            (try simp only [Act.put]); (refine own_quiet hO (by kernel_rfl) (by kernel_rfl) ?_; clear hO; (repeat (first | go_big_quiet_skip | (go_big_quiet_want; (first | ((with_reducible refine is_loadQ ?_); (first | (refine q_ldT (h := ?_))); (try simp only [Act.put]); (try simp only [List.setIfInBounds_toArray, List.set_cons_zero, List.set_cons_succ]); go_big_quiet_on) | (go_big_quiet_op; (first | go_big_quiet_on | ((refine ⟨_, fun _ _ => rfl, ?_⟩); go_big_quiet_on) | go_big_quiet_call (fail))))))); (refine wpQuiet_nil ?_); intro wv hO)
            go_wp2_with (first | ((with_reducible refine is_load ?_); (first | (refine own_ldT (h := ?_)))) | ((with_reducible refine is_store ?_); (first | (refine own_stRT (hO := hO) (h := ?_); clear hO; intro wv hO) | (refine own_st1T (hO := hO) (h := ?_); clear hO; intro wv hO))) | ((with_reducible refine is_box ?_); (first | (refine own_bx (o := ⟨some 3, _, _, _, _, _⟩) (hO := hO) (h := ?_); clear hO; intro n3 wv hO))) | ((with_reducible refine is_alloc ?_); (first | (refine own_alT (o := ⟨some 9, _, _, _, _, _⟩) (hO := hO) (h := ?_); clear hO; intro n9 wv hO) | (refine own_alT (o := ⟨some 11, _, _, _, _, _⟩) (hO := hO) (h := ?_); clear hO; intro n11 wv hO))) | ((with_reducible refine is_append ?_); (first | (refine own_apT (o := ⟨some 33, _, _, _, _, _⟩) (hO := hO) (h := ?_); clear hO; intro g33 c33 wv hO))) | (go_at_call 27; (with_reducible refine (h3 _ (hO.tops ht (by simp)) (hTX _ _ _ hO) (own_table hO List.mem_cons_self)).mono ?_); rintro e wv ⟨rfl, hb9⟩; replace hO := hO.call hb9; clear hb9 h3) | (go_at_call 18; (with_reducible refine (h4 _ (hO.tops ht (by simp)) (hTX _ _ _ hO)).mono ?_); rintro e wv ⟨rfl, hb9⟩; replace hO := hO.call hb9; clear hb9 h4) | (go_at_call 18; (with_reducible refine (h5 _ (hO.tops ht (by simp)) (own_table hO List.mem_cons_self)).mono ?_); rintro e wv ⟨rfl, hb9⟩; replace hO := hO.call hb9; clear hb9 h5) | (go_at_call 14; refine (hs8 _ (hO.tops ht (by simp))).mono ?_; rintro e wv ⟨rfl, hb⟩; replace hO := hO.call hb; clear hb))
            go_ret
            exact ⟨rfl, hO.keep.below⟩
        · clear FD2 h3 h4 h5 hdc
          cases okJ <;> cases pk <;> cases pm <;> (try (simp at hc; done))
          all_goals
            clear hc
            go_wp2_with (first | ((with_reducible refine is_load ?_); (first | (refine own_ldT (h := ?_)))) | ((with_reducible refine is_store ?_); (first | (refine own_stRT (hO := hO) (h := ?_); clear hO; intro wv hO) | (refine own_st1T (hO := hO) (h := ?_); clear hO; intro wv hO))) | ((with_reducible refine is_box ?_); (first | (refine own_bx (o := ⟨some 3, _, _, _, _, _⟩) (hO := hO) (h := ?_); clear hO; intro n3 wv hO))) | ((with_reducible refine is_alloc ?_); (first | (refine own_alT (o := ⟨some 9, _, _, _, _, _⟩) (hO := hO) (h := ?_); clear hO; intro n9 wv hO) | (refine own_alT (o := ⟨some 11, _, _, _, _, _⟩) (hO := hO) (h := ?_); clear hO; intro n11 wv hO))) | ((with_reducible refine is_append ?_); (first | (refine own_apT (o := ⟨some 33, _, _, _, _, _⟩) (hO := hO) (h := ?_); clear hO; intro g33 c33 wv hO))))
            (try simp only [Act.put]); (refine own_quiet hO (by kernel_rfl) (by kernel_rfl) ?_; clear hO; (repeat (first | go_big_quiet_skip | (go_big_quiet_want; (first | ((with_reducible refine is_loadQ ?_); (first | (refine q_ldT (h := ?_))); (try simp only [Act.put]); (try simp only [List.setIfInBounds_toArray, List.set_cons_zero, List.set_cons_succ]); go_big_quiet_on) | (go_big_quiet_op; (first | go_big_quiet_on | ((refine ⟨_, fun _ _ => rfl, ?_⟩); go_big_quiet_on) | go_big_quiet_call (fail))))))); (refine wpQuiet_nil ?_); intro wv hO)
            go_wp2_with (first | ((with_reducible refine is_load ?_); (first | (refine own_ldT (h := ?_)))) | ((with_reducible refine is_store ?_); (first | (refine own_stRT (hO := hO) (h := ?_); clear hO; intro wv hO) | (refine own_st1T (hO := hO) (h := ?_); clear hO; intro wv hO))) | ((with_reducible refine is_box ?_); (first | (refine own_bx (o := ⟨some 3, _, _, _, _, _⟩) (hO := hO) (h := ?_); clear hO; intro n3 wv hO))) | ((with_reducible refine is_alloc ?_); (first | (refine own_alT (o := ⟨some 9, _, _, _, _, _⟩) (hO := hO) (h := ?_); clear hO; intro n9 wv hO) | (refine own_alT (o := ⟨some 11, _, _, _, _, _⟩) (hO := hO) (h := ?_); clear hO; intro n11 wv hO))) | ((with_reducible refine is_append ?_); (first | (refine own_apT (o := ⟨some 33, _, _, _, _, _⟩) (hO := hO) (h := ?_); clear hO; intro g33 c33 wv hO))) | (go_at_call 14; refine (hs8 _ (hO.tops ht (by simp))).mono ?_; rintro e wv ⟨rfl, hb⟩; replace hO := hO.call hb; clear hb))
            go_ret
            exact ⟨rfl, hO.keep.below⟩
end Go.Proofs.YtmcbbepfakfehaaDoor
