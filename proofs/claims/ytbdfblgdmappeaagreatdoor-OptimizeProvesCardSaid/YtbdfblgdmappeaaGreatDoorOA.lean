/- The reference of packet sets: Union, Intersect, Subtract. -/
import Derived.Test.YtbdfblgdmappeaaGreatDoorNJ
namespace Go.Proofs.YtbdfblgdmappeaaGreatDoor
open Go.RowKit
set_option maxRecDepth 100000
set_option maxHeartbeats 4000000 in
theorem rcomb_any {o : Int} {op : Bool → Bool → Bool} (hop : OpR o op) {va vb : Value} {la lb : List Bx} {N M : Nat} (w : World) (hva : IsBoxes w va la) (hvb : IsBoxes w vb lb) (ka : okL la) (kb : okL lb) (na : la.length ≤ 1000000000) (nb : lb.length ≤ 1000000000) (hN : Ends N la) (hM : Ends M lb) (hN45 : N ≤ 45) (hM45 : M ≤ 45) :
  Calls Tryz.prog 138 #[va, vb, .int .i64 o] w (SetPost w (ofF op la lb)) := by
 have hO := own_start [] w
 have h0 := fun w hv => given_any (vl := va) (l := la) w hv ka na hN hN45
 have h9 := fun w hv => given_any (vl := vb) (l := lb) w hv kb nb hM hM45
 unfold ofF
 cases hx : setF la with
 | none =>
  rw [hx] at h0
  clear hx
  go_enter Tryz.func138, Tryz.ntmps138
  go_wp2_with (go_at_call 186; (with_reducible refine (h0 _ (hva.keep0 hO)).mono ?_); rintro e wv hpo; obtain ⟨rfl, hb9⟩ := hpo.no; replace hO := hO.call hb9; clear hb9 hpo)
  go_ret2
  exact ⟨.slice none 0 0, hO.keep.below, .inr ⟨rfl, rfl⟩⟩
 | some x =>
  rw [hx] at h0
  obtain ⟨x1, x2, _, _⟩ := setF_ok ka hx
  have xE := setF_ends hN hx
  dsimp only
  clear hx
  cases hy : setF lb with
  | none =>
   rw [hy] at h9
   clear hy
   go_enter Tryz.func138, Tryz.ntmps138
   go_wp2_with (first | (go_at_call 186; (with_reducible refine (h0 _ (hva.keep0 hO)).mono ?_); rintro e wv hpo; obtain ⟨v8, rfl, hv9, -, hb9⟩ := hpo.yes; have hf8 := hv9.form; replace hO := hO.gainAny hb9 hv9; clear hb9 hv9 hpo) | (go_at_call 186; (with_reducible refine (h9 _ (hvb.keep0 hO)).mono ?_); rintro e wv hpo; obtain ⟨rfl, hb9⟩ := hpo.no; replace hO := hO.call hb9; clear hb9 hpo))
   go_ret2
   exact ⟨.slice none 0 0, hO.keep.below, .inr ⟨rfl, rfl⟩⟩
  | some y =>
   rw [hy] at h9
   obtain ⟨y1, y2, _, _⟩ := setF_ok kb hy
   have yE := setF_ends hM hy
   dsimp only
   clear hy
   have hD := canon_small10 (op := op) xE yE (by omega)
   have h1 : ∀ (v1 v2 : Value) (w : World), IsBoxes w v1 x → IsBoxes w v2 y → Calls Tryz.prog 135 #[v1, v2, .int .i64 o, .int .i64 0] w (RetBoxes w (canonF op 0 5 x y)) := fun v1 v2 w h1 h2 => rrests_any hop 5 0 rfl v1 v2 x y w h1 h2 x1 y1 (by omega) (by omega) (by omega)
   clear xE yE x1 y1
   generalize canonF op 0 5 x y = D at *
   by_cases hlim : D.length ≤ 4096
   ·have e : limF D = some D := if_pos hlim
    rw [e]
    go_enter Tryz.func138, Tryz.ntmps138
    go_wp2_with (first | (go_at_call 186; (with_reducible refine (h0 _ (hva.keep0 hO)).mono ?_); rintro e wv hpo; obtain ⟨v8, rfl, hv9, -, hb9⟩ := hpo.yes; have hf8 := hv9.form; replace hO := hO.gainAny hb9 hv9; clear hb9 hv9 hpo) | (go_at_call 186; (with_reducible refine (h9 _ (hvb.keep0 hO)).mono ?_); rintro e wv hpo; obtain ⟨v7, rfl, hv9, -, hb9⟩ := hpo.yes; have hf7 := hv9.form; replace hO := hO.gainAny hb9 hv9; clear hb9 hv9 hpo) | (go_at_call 135; (with_reducible refine (h1 _ _ _ (hO.isB hf8 (fun q hq => List.mem_append_right _ (List.mem_append_left _ hq))) (hO.isB hf7 (fun q hq => List.mem_append_left _ hq))).mono ?_); rintro e wv ⟨v3, rfl, ⟨hv9, hn9⟩, hb9⟩; have hf3 := hv9.form; have hs9 := hO.keep.size; replace hO := hO.gainB hb9 hv9 hn9; clear hb9 hv9) | (go_at_call 134; refine (limited_yes _ hf3 hlim).mono ?_; rintro e _ ⟨rfl, rfl⟩))
    go_ret2
    exact ⟨v3, hO.keep.below, .inl ⟨D, rfl, rfl, hO.isB hf3 (fun q hq => List.mem_append_left _ hq), fun g hg => Nat.le_trans hs9 (hn9 g hg)⟩⟩
   ·have e : limF D = none := if_neg hlim
    rw [e]
    go_enter Tryz.func138, Tryz.ntmps138
    go_wp2_with (first | (go_at_call 186; (with_reducible refine (h0 _ (hva.keep0 hO)).mono ?_); rintro e wv hpo; obtain ⟨v8, rfl, hv9, -, hb9⟩ := hpo.yes; have hf8 := hv9.form; replace hO := hO.gainAny hb9 hv9; clear hb9 hv9 hpo) | (go_at_call 186; (with_reducible refine (h9 _ (hvb.keep0 hO)).mono ?_); rintro e wv hpo; obtain ⟨v7, rfl, hv9, -, hb9⟩ := hpo.yes; have hf7 := hv9.form; replace hO := hO.gainAny hb9 hv9; clear hb9 hv9 hpo) | (go_at_call 135; (with_reducible refine (h1 _ _ _ (hO.isB hf8 (fun q hq => List.mem_append_right _ (List.mem_append_left _ hq))) (hO.isB hf7 (fun q hq => List.mem_append_left _ hq))).mono ?_); rintro e wv ⟨v3, rfl, ⟨hv9, hn9⟩, hb9⟩; have hf3 := hv9.form; have hs9 := hO.keep.size; replace hO := hO.gainB hb9 hv9 hn9; clear hb9 hv9) | (go_at_call 134; refine (limited_no _ hf3 hlim).mono ?_; rintro e _ ⟨rfl, rfl⟩))
    go_ret2
    exact ⟨.slice none 0 0, hO.keep.below, .inr ⟨rfl, rfl⟩⟩
set_option maxHeartbeats 4000000 in
theorem runion4_any {va vb : Value} {la lb : List Bx} {N M : Nat} (w : World) (hva : IsBoxes w va la) (hvb : IsBoxes w vb lb) (ka : okL la) (kb : okL lb) (na : la.length ≤ 1000000000) (nb : lb.length ≤ 1000000000) (hN : Ends N la) (hM : Ends M lb) (hN45 : N ≤ 45) (hM45 : M ≤ 45) :
  Calls Tryz.prog 75 #[va, vb] w (SetPost w (ofF orB la lb)) := by
 have hO := own_start [] w
 have h1 : ∀ w, IsBoxes w va la → IsBoxes w vb lb → Calls Tryz.prog 138 #[va, vb, .int .i64 0] w (SetPost w (ofF orB la lb)) := fun w hva hvb => rcomb_any opr_or (va := va) (vb := vb) (la := la) (lb := lb) w hva hvb ka kb na nb hN hM hN45 hM45
 cases hr : ofF orB la lb with
 | none =>
  rw [hr] at h1
  go_enter Tryz.func75, Tryz.ntmps75
  go_wp2_with (go_at_call 138; (with_reducible refine (h1 _ (hva.keep0 hO) (hvb.keep0 hO)).mono ?_); rintro e wv hpo; obtain ⟨rfl, hb9⟩ := hpo.no; replace hO := hO.call hb9; clear hb9 hpo)
  go_ret2
  exact ⟨.slice none 0 0, hO.keep.below, .inr ⟨rfl, rfl⟩⟩
 | some x =>
  rw [hr] at h1
  go_enter Tryz.func75, Tryz.ntmps75
  go_wp2_with (go_at_call 138; (with_reducible refine (h1 _ (hva.keep0 hO) (hvb.keep0 hO)).mono ?_); rintro e wv hpo; obtain ⟨v3, rfl, hv9, hn9, hb9⟩ := hpo.yes; have hs9 := hO.keep.size; have hof := hv9.form; replace hO := hO.gainB hb9 hv9 hn9; clear hb9 hv9 hpo)
  go_ret2
  exact ⟨v3, hO.keep.below, .inl ⟨x, rfl, rfl, hO.isB hof (fun q hq => List.mem_append_left _ hq), fun g hg => Nat.le_trans hs9 (hn9 g hg)⟩⟩
set_option maxHeartbeats 4000000 in
theorem rinter4_any {va vb : Value} {la lb : List Bx} {N M : Nat} (w : World) (hva : IsBoxes w va la) (hvb : IsBoxes w vb lb) (ka : okL la) (kb : okL lb) (na : la.length ≤ 1000000000) (nb : lb.length ≤ 1000000000) (hN : Ends N la) (hM : Ends M lb) (hN45 : N ≤ 45) (hM45 : M ≤ 45) :
  Calls Tryz.prog 77 #[va, vb] w (SetPost w (ofF andB la lb)) := by
 have hO := own_start [] w
 have h1 : ∀ w, IsBoxes w va la → IsBoxes w vb lb → Calls Tryz.prog 138 #[va, vb, .int .i64 1] w (SetPost w (ofF andB la lb)) := fun w hva hvb => rcomb_any opr_and (va := va) (vb := vb) (la := la) (lb := lb) w hva hvb ka kb na nb hN hM hN45 hM45
 cases hr : ofF andB la lb with
 | none =>
  rw [hr] at h1
  go_enter Tryz.func77, Tryz.ntmps77
  go_wp2_with (go_at_call 138; (with_reducible refine (h1 _ (hva.keep0 hO) (hvb.keep0 hO)).mono ?_); rintro e wv hpo; obtain ⟨rfl, hb9⟩ := hpo.no; replace hO := hO.call hb9; clear hb9 hpo)
  go_ret2
  exact ⟨.slice none 0 0, hO.keep.below, .inr ⟨rfl, rfl⟩⟩
 | some x =>
  rw [hr] at h1
  go_enter Tryz.func77, Tryz.ntmps77
  go_wp2_with (go_at_call 138; (with_reducible refine (h1 _ (hva.keep0 hO) (hvb.keep0 hO)).mono ?_); rintro e wv hpo; obtain ⟨v3, rfl, hv9, hn9, hb9⟩ := hpo.yes; have hs9 := hO.keep.size; have hof := hv9.form; replace hO := hO.gainB hb9 hv9 hn9; clear hb9 hv9 hpo)
  go_ret2
  exact ⟨v3, hO.keep.below, .inl ⟨x, rfl, rfl, hO.isB hof (fun q hq => List.mem_append_left _ hq), fun g hg => Nat.le_trans hs9 (hn9 g hg)⟩⟩
set_option maxHeartbeats 4000000 in
theorem rsub4_any {va vb : Value} {la lb : List Bx} {N M : Nat} (w : World) (hva : IsBoxes w va la) (hvb : IsBoxes w vb lb) (ka : okL la) (kb : okL lb) (na : la.length ≤ 1000000000) (nb : lb.length ≤ 1000000000) (hN : Ends N la) (hM : Ends M lb) (hN45 : N ≤ 45) (hM45 : M ≤ 45) :
  Calls Tryz.prog 79 #[va, vb] w (SetPost w (ofF exB la lb)) := by
 have hO := own_start [] w
 have h1 : ∀ w, IsBoxes w va la → IsBoxes w vb lb → Calls Tryz.prog 138 #[va, vb, .int .i64 2] w (SetPost w (ofF exB la lb)) := fun w hva hvb => rcomb_any opr_ex (va := va) (vb := vb) (la := la) (lb := lb) w hva hvb ka kb na nb hN hM hN45 hM45
 cases hr : ofF exB la lb with
 | none =>
  rw [hr] at h1
  go_enter Tryz.func79, Tryz.ntmps79
  go_wp2_with (go_at_call 138; (with_reducible refine (h1 _ (hva.keep0 hO) (hvb.keep0 hO)).mono ?_); rintro e wv hpo; obtain ⟨rfl, hb9⟩ := hpo.no; replace hO := hO.call hb9; clear hb9 hpo)
  go_ret2
  exact ⟨.slice none 0 0, hO.keep.below, .inr ⟨rfl, rfl⟩⟩
 | some x =>
  rw [hr] at h1
  go_enter Tryz.func79, Tryz.ntmps79
  go_wp2_with (go_at_call 138; (with_reducible refine (h1 _ (hva.keep0 hO) (hvb.keep0 hO)).mono ?_); rintro e wv hpo; obtain ⟨v3, rfl, hv9, hn9, hb9⟩ := hpo.yes; have hs9 := hO.keep.size; have hof := hv9.form; replace hO := hO.gainB hb9 hv9 hn9; clear hb9 hv9 hpo)
  go_ret2
  exact ⟨v3, hO.keep.below, .inl ⟨x, rfl, rfl, hO.isB hof (fun q hq => List.mem_append_left _ hq), fun g hg => Nat.le_trans hs9 (hn9 g hg)⟩⟩
end Go.Proofs.YtbdfblgdmappeaaGreatDoor
