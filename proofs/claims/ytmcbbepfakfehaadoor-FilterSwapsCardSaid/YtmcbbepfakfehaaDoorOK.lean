/- FilterPrunes: the walk. -/
import Derived.Deep.CutRange
import Derived.Deep.DeepCutAuto
import Derived.Test.YtmcbbepfakfehaaDoorOG
import Derived.Test.YtmcbbepfakfehaaDoorOF
import Derived.Test.YtmcbbepfakfehaaDoorOB
import Derived.Test.YtmcbbepfakfehaaDoorMB
namespace Go.Proofs.YtmcbbepfakfehaaDoor
open Go.RowKit
set_option maxRecDepth 100000
theorem ecdT_none : ecdT none = 3 := rfl
theorem ecdT_some (x : List Rul) : ecdT (some x) = 0 := rfl
theorem okT_nil : okT [] := fun r hr => by cases hr
theorem prune_facts {x : List Rul} (kx : okT x) : okT ((pruneG [] x).getD []) ∧ ((pruneG [] x).getD []).length ≤ x.length := by
  cases h : pruneG [] x with
  | none => exact ⟨okT_nil, by simp⟩
  | some y => exact ⟨fun r hr => kx r (pruneG_sub h r hr), pruneG_len h⟩
theorem dif_code (x y : List Rul) : (difF x y).2.2 = 3 ∨ (difF x y).2.2 = 0 := by
  unfold difF
  split
  · exact .inl rfl
  · split
    · exact .inl rfl
    · exact .inr rfl
theorem dif_same {x y : List Rul} (kx : okT x) (ky : okT y) (h : ∀ h : Hd, h.ok → decP x h = decP y h) : (difF x y).2.1 = false := by
  unfold difF
  split
  · rfl
  · rename_i a ha
    split
    · rfl
    · rename_i b hb
      dsimp only
      rw [differ_same kx ky ha hb h]; rfl
theorem prunes_ok {x y z : List Rul} (kx : okT x) (hP : pruneG [] x = some y) (hQ : pruneG [] y = some z) :
    (difF x y).2.1 = false ∧ z = y ∧ (∀ h : Hd, h.ok → decP y h = decP x h) ∧ ∀ i, i < y.length → ∃ s, effF y i = some s ∧ 0 < s.length := by
  have ky : okT y := fun r hr => kx r (pruneG_sub hP r hr)
  have hd : ∀ h : Hd, h.ok → decP y h = decP x h := fun h ho => pruneG_dec okT_nil kx hP h ho rfl
  have hz : z = y := pruneG_twice okT_nil okT_nil kx (fun _ _ h => h) hP hQ
  subst hz
  refine ⟨dif_same kx ky fun h ho => (hd h ho).symm, rfl, hd, fun i hi => ?_⟩
  obtain ⟨s, h1, h2⟩ := pruneG_all hQ i hi
  refine ⟨s, by rw [effF_left hi]; exact h1, ?_⟩
  cases s with
  | nil => cases h2
  | cons b s => simp
set_option maxHeartbeats 8000000 in
theorem fprunes_law (sl : Value) (zs : List Int) (h : Hd) (w : World) (ht : Tops w) (hZ : ZsOk sl zs) (hr : ∀ s ∈ roS sl (ints zs), w.rangeAt s.g s.o s.xs) (ho : h.ok) :
    Calls Tryd.prog 7 #[sl, hv h] w fun e w' => e = .returned (.bool true) ∧ Below w.heap.size w w' := by
  have hO := own_law hr
  clear hr
  obtain ⟨sa, sc, rfl, -⟩ := hZ.view
  go_enter Tryd.func7, Tryd.ntmps7
  go_upto_region 3 with (first | ((with_reducible refine is_load ?_); (first | (refine own_ldT (h := ?_)))) | ((with_reducible refine is_store ?_); (first | (refine own_stRT (hO := hO) (h := ?_); clear hO; intro wv hO) | (refine own_st1T (hO := hO) (h := ?_); clear hO; intro wv hO))) | ((with_reducible refine is_box ?_); (first | (refine own_bx (o := ⟨some 3, _, _, _, _, _⟩) (hO := hO) (h := ?_); clear hO; intro n3 wv hO))) | ((with_reducible refine is_alloc ?_); (first | (refine own_alT (o := ⟨some 11, _, _, _, _, _⟩) (hO := hO) (h := ?_); clear hO; intro n11 wv hO))) | (go_at_call 9; (with_reducible refine (new_any _ _ _).mono ?_); rintro e wv ⟨n, rfl, hB, hn, hb⟩; replace hO := hO.gain hb hB hn; have hT := hO.tapeIn List.mem_cons_self (by (intro s hs; repeat (first | exact hs | exact List.mem_append_left _ hs | apply List.mem_append_right | apply List.mem_cons_of_mem))) (Nat.zero_le _); clear hb hB hn) | (go_at_call 10; (with_reducible refine (ttable_any 5 true hZ (hO.tapeIn (by (repeat (first | exact List.mem_cons_self | refine List.mem_cons_of_mem _ ?_))) (by (intro s hs; repeat (first | exact hs | exact List.mem_append_left _ hs | apply List.mem_append_right | apply List.mem_cons_of_mem))) hT.le) (by omega) (by omega)).mono ?_); rintro e wv ⟨vx, i1, rfl, ⟨x, hv9, hn9, kx, nx⟩, hk9, hT1⟩; have hoff9 := off_of_new hO hn9; replace hO := hO.after (by (repeat (first | exact Upd.here | apply Upd.there))) hk9 hT1.blk; replace hT := hT1; clear hT1 hk9; have hfx := hv9.form; obtain ⟨ax, cx, rfl, hax, hO⟩ := own_offRS hO ⟨hv9, hoff9⟩; clear hv9 hn9 hoff9))
  obtain ⟨kY, nY⟩ := prune_facts kx
  obtain ⟨-, nZ⟩ := prune_facts kY
  have h1 := fun w ht hv => fPrune_any (vt := .slice ax x.length cx) (t := x) w ht hv kx (by omega)
  have h2 := fun v w ht hv => fPrune_any (vt := v) (t := (pruneG [] x).getD []) w ht hv kY (by omega)
  have h3 := fun v w ht a b => fDiffer_any (vt := .slice ax x.length cx) (vu := v) (t := x) (u := (pruneG [] x).getD []) w ht a b kx kY (by omega) (by omega)
  have FK := fun y z hP hQ => prunes_ok (x := x) (y := y) (z := z) kx hP hQ
  have hdc := dif_code x ((pruneG [] x).getD [])
  have h4 := fun v w ht hv => fDecide_any (vt := v) (t := x) h w ht ho hv (by omega)
  have h5 := fun v w ht hv => fDecide_any (vt := v) (t := (pruneG [] x).getD []) h w ht ho hv (by omega)
  have h6 := fun v i w ht hv hi => fEff_any (vt := v) (t := (pruneG [] x).getD []) (i := i) w ht hv kY (by omega) hi
  have h7 := fun v u w hv hu => rSame8_any v u ((pruneG [] x).getD []) ((pruneG [] ((pruneG [] x).getD [])).getD []) w hv hu (by omega) (by omega)
  have hs8 := sane8_any
  generalize hP : pruneG [] x = P at *
  generalize hQ : pruneG [] (P.getD []) = Q at *
  generalize hD : difF x (P.getD []) = D at *
  obtain ⟨dh, db, dc⟩ := D
  dsimp only at h3 hdc
  have HP := Lib.hid hP
  have HQ := Lib.hid hQ
  have HD := Lib.hid hD
  have HK := Lib.hid FK
  have HC := Lib.hid hdc
  clear hP hQ hD FK hdc
  go_upto_region 6 with (first | ((with_reducible refine is_load ?_); (first | (refine own_ldT (h := ?_)))) | ((with_reducible refine is_store ?_); (first | (refine own_stRT (hO := hO) (h := ?_); clear hO; intro wv hO) | (refine own_st1T (hO := hO) (h := ?_); clear hO; intro wv hO))) | ((with_reducible refine is_box ?_); (first | (refine own_bx (o := ⟨some 3, _, _, _, _, _⟩) (hO := hO) (h := ?_); clear hO; intro n3 wv hO))) | ((with_reducible refine is_alloc ?_); (first | (refine own_alT (o := ⟨some 11, _, _, _, _, _⟩) (hO := hO) (h := ?_); clear hO; intro n11 wv hO))) | (go_at_call 26; (with_reducible refine (h1 _ (hO.tops ht (by simp)) (hO.isR hfx (by intro q hq; repeat (first | exact hq | exact List.mem_append_left _ hq | apply List.mem_append_right | apply List.mem_cons_of_mem)))).mono ?_); rintro e wv hpo; obtain ⟨v7, rfl, hv9, hn9, hb9⟩ := hpo.uni; have hfy := hv9.form; replace hO := hO.gainR hb9 hv9 hn9; replace hT := (hO.tapeIn (by (repeat (first | exact List.mem_cons_self | refine List.mem_cons_of_mem _ ?_))) (by (intro s hs; repeat (first | exact hs | exact List.mem_append_left _ hs | apply List.mem_append_right | apply List.mem_cons_of_mem))) hT.le); clear hb9 hv9 hn9 hpo h1) | (go_at_call 26; (with_reducible refine (h2 _ _ (hO.tops ht (by simp)) (hO.isR hfy (by intro q hq; repeat (first | exact hq | exact List.mem_append_left _ hq | apply List.mem_append_right | apply List.mem_cons_of_mem)))).mono ?_); rintro e wv hpo; obtain ⟨v9, rfl, hv9, hn9, hb9⟩ := hpo.uni; have hfz := hv9.form; replace hO := hO.gainR hb9 hv9 hn9; replace hT := (hO.tapeIn (by (repeat (first | exact List.mem_cons_self | refine List.mem_cons_of_mem _ ?_))) (by (intro s hs; repeat (first | exact hs | exact List.mem_append_left _ hs | apply List.mem_append_right | apply List.mem_cons_of_mem))) hT.le); clear hb9 hv9 hn9 hpo h2) | (go_at_call 27; (with_reducible refine (h3 _ _ (hO.tops ht (by simp)) (hO.isR hfx (by intro q hq; repeat (first | exact hq | exact List.mem_append_left _ hq | apply List.mem_append_right | apply List.mem_cons_of_mem))) (hO.isR hfy (by intro q hq; repeat (first | exact hq | exact List.mem_append_left _ hq | apply List.mem_append_right | apply List.mem_cons_of_mem)))).mono ?_); rintro e wv ⟨rfl, hb9⟩; replace hO := hO.call hb9; replace hT := (hO.tapeIn (by (repeat (first | exact List.mem_cons_self | refine List.mem_cons_of_mem _ ?_))) (by (intro s hs; repeat (first | exact hs | exact List.mem_append_left _ hs | apply List.mem_append_right | apply List.mem_cons_of_mem))) hT.le); clear hb9 h3))
  cases P with
  | none =>
    simp only [ecdT_none]
    go_wp2_with (first | ((with_reducible refine is_load ?_); (first | (refine own_ldT (h := ?_)))) | ((with_reducible refine is_store ?_); (first | (refine own_stRT (hO := hO) (h := ?_); clear hO; intro wv hO) | (refine own_st1T (hO := hO) (h := ?_); clear hO; intro wv hO))) | ((with_reducible refine is_box ?_); (first | (refine own_bx (o := ⟨some 3, _, _, _, _, _⟩) (hO := hO) (h := ?_); clear hO; intro n3 wv hO))) | ((with_reducible refine is_alloc ?_); (first | (refine own_alT (o := ⟨some 11, _, _, _, _, _⟩) (hO := hO) (h := ?_); clear hO; intro n11 wv hO))) | (go_at_call 14; refine (hs8 _ (hO.tops ht (by simp))).mono ?_; rintro e wv ⟨rfl, hb⟩; replace hO := hO.call hb; clear hb))
    go_ret
    exact ⟨rfl, hO.keep.below⟩
  | some y =>
    cases Q with
    | none =>
      simp only [ecdT_none, ecdT_some]
      go_wp2_with (first | ((with_reducible refine is_load ?_); (first | (refine own_ldT (h := ?_)))) | ((with_reducible refine is_store ?_); (first | (refine own_stRT (hO := hO) (h := ?_); clear hO; intro wv hO) | (refine own_st1T (hO := hO) (h := ?_); clear hO; intro wv hO))) | ((with_reducible refine is_box ?_); (first | (refine own_bx (o := ⟨some 3, _, _, _, _, _⟩) (hO := hO) (h := ?_); clear hO; intro n3 wv hO))) | ((with_reducible refine is_alloc ?_); (first | (refine own_alT (o := ⟨some 11, _, _, _, _, _⟩) (hO := hO) (h := ?_); clear hO; intro n11 wv hO))) | (go_at_call 14; refine (hs8 _ (hO.tops ht (by simp))).mono ?_; rintro e wv ⟨rfl, hb⟩; replace hO := hO.call hb; clear hb))
      go_ret
      exact ⟨rfl, hO.keep.below⟩
    | some z =>
      simp only [ecdT_some]
      rcases HC.out with rfl | rfl
      · go_wp2_with (first | ((with_reducible refine is_load ?_); (first | (refine own_ldT (h := ?_)))) | ((with_reducible refine is_store ?_); (first | (refine own_stRT (hO := hO) (h := ?_); clear hO; intro wv hO) | (refine own_st1T (hO := hO) (h := ?_); clear hO; intro wv hO))) | ((with_reducible refine is_box ?_); (first | (refine own_bx (o := ⟨some 3, _, _, _, _, _⟩) (hO := hO) (h := ?_); clear hO; intro n3 wv hO))) | ((with_reducible refine is_alloc ?_); (first | (refine own_alT (o := ⟨some 11, _, _, _, _, _⟩) (hO := hO) (h := ?_); clear hO; intro n11 wv hO))) | (go_at_call 14; refine (hs8 _ (hO.tops ht (by simp))).mono ?_; rintro e wv ⟨rfl, hb⟩; replace hO := hO.call hb; clear hb))
        go_ret
        exact ⟨rfl, hO.keep.below⟩
      · simp only [Option.getD_some] at *
        obtain ⟨f1, rfl, f3, f4⟩ := HK.out y z rfl HQ.out
        rw [HD.out] at f1
        obtain rfl : db = false := f1
        rw [decide_eq_true (rfl : z = z)] at h7
        rw [f3 h ho] at h5
        have hle : decide ((x.length : Int) < (z.length : Int)) = false := decide_eq_false (by omega)
        have H4 := Lib.hid f4
        clear f4 f3
        generalize decP x h = p at *
        have e1 : (p == p) = true := beq_self_eq_true p
        generalize decI x h = qx at *
        generalize decI z h = qz at *
        obtain ⟨ay, cy, rfl, -⟩ := hfy.view
        obtain ⟨az, cz, rfl, -⟩ := hfz.view
        go_upto_region 12 with (first | ((with_reducible refine is_load ?_); (first | (refine own_ldT (h := ?_)))) | ((with_reducible refine is_store ?_); (first | (refine own_stRT (hO := hO) (h := ?_); clear hO; intro wv hO) | (refine own_st1T (hO := hO) (h := ?_); clear hO; intro wv hO))) | ((with_reducible refine is_box ?_); (first | (refine own_bx (o := ⟨some 3, _, _, _, _, _⟩) (hO := hO) (h := ?_); clear hO; intro n3 wv hO))) | ((with_reducible refine is_alloc ?_); (first | (refine own_alT (o := ⟨some 11, _, _, _, _, _⟩) (hO := hO) (h := ?_); clear hO; intro n11 wv hO))) | (go_at_call 28; (with_reducible refine (h7 _ _ _ (hO.isR hfy (by intro q hq; repeat (first | exact hq | exact List.mem_append_left _ hq | apply List.mem_append_right | apply List.mem_cons_of_mem))) (hO.isR hfz (by intro q hq; repeat (first | exact hq | exact List.mem_append_left _ hq | apply List.mem_append_right | apply List.mem_cons_of_mem)))).mono ?_); rintro e wv ⟨rfl, hb9⟩; replace hO := hO.call hb9; clear hb9 h7) | (go_at_call 18; (with_reducible refine (h4 (.slice ax x.length cx) _ (hO.tops ht (by simp)) (hO.isR hfx (by intro q hq; repeat (first | exact hq | exact List.mem_append_left _ hq | apply List.mem_append_right | apply List.mem_cons_of_mem)))).mono ?_); rintro e wv ⟨rfl, hb9⟩; replace hO := hO.call hb9; clear hb9 h4) | (go_at_call 18; (with_reducible refine (h5 _ _ (hO.tops ht (by simp)) (hO.isR hfy (by intro q hq; repeat (first | exact hq | exact List.mem_append_left _ hq | apply List.mem_append_right | apply List.mem_cons_of_mem)))).mono ?_); rintro e wv ⟨rfl, hb9⟩; replace hO := hO.call hb9; clear hb9 h5))
        go_upto_region 13 with (first | ((with_reducible refine is_load ?_); (first | (refine own_ldT (h := ?_)))) | ((with_reducible refine is_store ?_); (first | (refine own_stRT (hO := hO) (h := ?_); clear hO; intro wv hO) | (refine own_st1T (hO := hO) (h := ?_); clear hO; intro wv hO))) | ((with_reducible refine is_box ?_); (first | (refine own_bx (o := ⟨some 3, _, _, _, _, _⟩) (hO := hO) (h := ?_); clear hO; intro n3 wv hO))) | ((with_reducible refine is_alloc ?_); (first | (refine own_alT (o := ⟨some 11, _, _, _, _, _⟩) (hO := hO) (h := ?_); clear hO; intro n11 wv hO))))
        go_loopw [18] (fun q wr => ∃ k : Nat, k ≤ z.length ∧ q = .int .i64 k ∧ Own [] w [] [] (roS (.slice ay z.length cy) (cellsR z)) wr) (fun q _ => z.length - (intOf q).toNat)
        case atStart => exact ⟨0, by omega, rfl, hO.sub (List.nil_sublist _) (.refl _) (by intro q hq; repeat (first | exact hq | exact List.mem_append_left _ hq | apply List.mem_append_right | apply List.mem_cons_of_mem))⟩
        case round =>
          clear hO hT
          obtain ⟨k, hk, rfl, hO⟩ := hrel
          by_cases hlt : k < z.length
          · obtain ⟨s, hs, hs0⟩ := H4.out k hlt
            have h8 := fun w ht hv => h6 (.slice ay z.length cy) k w ht hv hlt
            rw [hs] at h8
            have e2 : ((s.length : Int) == 0) = false := beq_eq_false_iff_ne.2 (by omega)
            clear hs h6
            go_wp2_with (first | ((with_reducible refine is_load ?_); (first | (refine own_ldT (h := ?_)))) | ((with_reducible refine is_store ?_); (first | (refine own_stRT (hO := hO) (h := ?_); clear hO; intro wv hO) | (refine own_st1T (hO := hO) (h := ?_); clear hO; intro wv hO))) | ((with_reducible refine is_box ?_); (first | (refine own_bx (o := ⟨some 3, _, _, _, _, _⟩) (hO := hO) (h := ?_); clear hO; intro n3 wv hO))) | ((with_reducible refine is_alloc ?_); (first | (refine own_alT (o := ⟨some 11, _, _, _, _, _⟩) (hO := hO) (h := ?_); clear hO; intro n11 wv hO))) | (go_at_call 20; (with_reducible refine (h8 _ (hO.tops ht (by simp)) (hO.isR hfy (fun q hq => hq))).mono ?_); rintro e wv hpo; obtain ⟨v3, rfl, hv9, hn9, hb9⟩ := hpo.yes; obtain ⟨a3, c3, rfl, -⟩ := hv9.form.view; replace hO := hO.call hb9; clear hb9 hpo hv9 hn9))
            go_roundw
            case rel => exact ⟨k + 1, by omega, by go_num, hO⟩
            case measure => simp [intOf] <;> omega
          · obtain rfl : k = z.length := by omega
            go_wp2_with (first | ((with_reducible refine is_load ?_); (first | (refine own_ldT (h := ?_)))) | ((with_reducible refine is_store ?_); (first | (refine own_stRT (hO := hO) (h := ?_); clear hO; intro wv hO) | (refine own_st1T (hO := hO) (h := ?_); clear hO; intro wv hO))) | ((with_reducible refine is_box ?_); (first | (refine own_bx (o := ⟨some 3, _, _, _, _, _⟩) (hO := hO) (h := ?_); clear hO; intro n3 wv hO))) | ((with_reducible refine is_alloc ?_); (first | (refine own_alT (o := ⟨some 11, _, _, _, _, _⟩) (hO := hO) (h := ?_); clear hO; intro n11 wv hO))) | (go_at_call 14; refine (hs8 _ (hO.tops ht (by simp))).mono ?_; rintro e wv ⟨rfl, hb⟩; replace hO := hO.call hb; clear hb))
            go_ret
            exact ⟨rfl, hO.keep.below⟩
end Go.Proofs.YtmcbbepfakfehaaDoor
