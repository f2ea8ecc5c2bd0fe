/- Package packetset (eleventh part): Valid, set, of, Union, Intersect, Subtract, Complement. -/
import Derived.Test.YtbdfblgdmappeaaGreatDoorMP
import Derived.Test.YtbdfblgdmappeaaGreatDoorMQ
import Derived.Test.YtbdfblgdmappeaaGreatDoorMA
namespace Go.Proofs.YtbdfblgdmappeaaGreatDoor
open Go.RowKit
set_option maxRecDepth 100000
def validF (l : List Bx) : Bool := decide (l.length ≤ 4096) && (decide ((valF l).length = l.length) && dvd 0 5 l)
theorem valF_all {l : List Bx} (h : (valF l).length = l.length) : valF l = l := by
 have := List.filter_sublist (p := vld) (l := l)
 exact this.eq_of_length h
set_option maxHeartbeats 4000000 in
theorem psValid_any {vl : Value} {l : List Bx} (w : World) (ht : Tops w) (hv : IsBoxes w vl l) (kl : okL l) (hl : l.length ≤ 1000000000000) :
  Calls Tryz.prog 88 #[vl] w fun e w' => e = .returned (.bool (validF l)) ∧ Below w.heap.size w w' := by
 have hO := own_start [] w
 have h0 := fun w ht hv => vals_any (vl := vl) (l := l) w ht hv hl
 obtain ⟨a, c, rfl, ha⟩ := hv.view
 clear ha
 by_cases h1 : l.length ≤ 4096
 ·have g1 : decide ((l.length : Int) ≤ 4096) = true := decide_eq_true (by omega)
  by_cases h2 : (valF l).length = l.length
  ·have kv : vL l := by have := valF_vL kl; rwa [valF_all h2] at this
   have E := Lib.hid (show validF l = dvd 0 5 l by unfold validF; rw [decide_eq_true h1, decide_eq_true h2]; rfl)
   have h3 : ∀ w, IsBoxes w (.slice a l.length c) l → Calls Tryz.prog 150 #[.int .i64 0, .slice a l.length c] w fun e w' => e = .returned (.bool (dvd 0 5 l)) ∧ Below w.heap.size w w' := fun w hv => div_any 5 0 rfl _ l w hv kv hl
   have g2 : ((l.length : Int) == (l.length : Int)) = true := by simp
   clear kv
   generalize dvd 0 5 l = D at *
   generalize hV : valF l = V at *
   clear hV
   go_enter Tryz.func88, Tryz.ntmps88
   go_wp2_with (first | (go_at_call 145; (with_reducible refine (h0 _ (hO.tops ht (by simp)) (hv.keep0 hO)).mono ?_); rintro e wv ⟨v9, rfl, ⟨hv9, hn9⟩, hb9⟩; have hof := hv9.form; replace hO := hO.call hb9; clear hb9 hv9 hn9 h0; obtain ⟨a9, c9, rfl, -⟩ := hof.view; rw [h2]) | (go_at_call 150; refine (h3 _ (hv.keep0 hO)).mono ?_; rintro e wv ⟨rfl, hb⟩; replace hO := hO.call hb; clear hb))
   go_ret
   exact ⟨ret_bool E.out.symm, hO.keep.below⟩
  ·have E := Lib.hid (show validF l = false by unfold validF; rw [decide_eq_false h2, Bool.false_and, Bool.and_false])
   have g2 : (((valF l).length : Int) == (l.length : Int)) = false := by simp; omega
   generalize valF l = V at *
   go_enter Tryz.func88, Tryz.ntmps88
   go_wp2_with (go_at_call 145; (with_reducible refine (h0 _ (hO.tops ht (by simp)) (hv.keep0 hO)).mono ?_); rintro e wv ⟨v9, rfl, ⟨hv9, hn9⟩, hb9⟩; have hof := hv9.form; replace hO := hO.call hb9; clear hb9 hv9 hn9 h0; obtain ⟨a9, c9, rfl, -⟩ := hof.view)
   go_ret
   exact ⟨ret_bool E.out.symm, hO.keep.below⟩
 ·have g1 : decide ((l.length : Int) ≤ 4096) = false := decide_eq_false (by omega)
  have E := Lib.hid (show validF l = false by unfold validF; rw [decide_eq_false h1]; rfl)
  go_enter Tryz.func88, Tryz.ntmps88
  go_wp2_with fail
  go_ret
  exact ⟨ret_bool E.out.symm, hO.keep.below⟩
def setF (l : List Bx) : Option (List Bx) := if validF l then some l else makeF l
theorem setF_ok {l x : List Bx} (kl : okL l) (h : setF l = some x) : vL x ∧ x.length ≤ 4096 ∧ Cn 0 5 x ∧ ∀ p, okP p → inq x p = inq (valF l) p := by
 unfold setF at h
 split at h
 ·rename_i hv
  cases h
  unfold validF at hv
  simp only [Bool.and_eq_true, decide_eq_true_eq] at hv
  obtain ⟨h1, h2, h3⟩ := hv
  have h4 := valF_all h2
  have kv : vL l := by have := valF_vL kl; rwa [h4] at this
  exact ⟨kv, h1, (dvd_zero kv).1 h3, fun p _ => by rw [h4]⟩
 ·obtain ⟨h1, h2, h3⟩ := makeGo_spec (cn_nil 0 5) (by simp) (valF_vL kl) h
  exact ⟨h1.valid rfl, h2, h1, fun p hp => by rw [h3 p hp, inq_nil, Bool.false_or]⟩
def SetPostI (w : World) (r : Option (List Bx)) (e : Ending) (w' : World) : Prop := ∃ v, Below w.heap.size w w' ∧ ((∃ l, r = some l ∧ e = .returned (.tuple #[v, .int .i64 0]) ∧ IsBoxes w' v l) ∨ (r = none ∧ e = .returned (.tuple #[.slice none 0 0, .int .i64 3])))
theorem SetPostI.yes {w w' : World} {l : List Bx} {e : Ending} (h : SetPostI w (some l) e w') : ∃ v, e = .returned (.tuple #[v, .int .i64 0]) ∧ IsBoxes w' v l ∧ Below w.heap.size w w' := by
 obtain ⟨v, hb, ⟨l', h1, h2, h3⟩ | ⟨h1, _⟩⟩ := h
 ·cases h1; exact ⟨v, h2, h3, hb⟩
 ·cases h1
theorem SetPostI.no {w w' : World} {e : Ending} (h : SetPostI w none e w') : e = .returned (.tuple #[.slice none 0 0, .int .i64 3]) ∧ Below w.heap.size w w' := by
 obtain ⟨v, hb, ⟨l', h1, h2, h3⟩ | ⟨_, h1⟩⟩ := h
 ·cases h1
 ·exact ⟨h1, hb⟩
theorem SetPost.i {w w' : World} {r : Option (List Bx)} {e : Ending} (h : SetPost w r e w') : SetPostI w r e w' := by
 obtain ⟨v, hb, ⟨l', h1, h2, h3, _⟩ | h⟩ := h
 ·exact ⟨v, hb, .inl ⟨l', h1, h2, h3⟩⟩
 ·exact ⟨v, hb, .inr h⟩
set_option maxHeartbeats 2000000 in
theorem set_any {vl : Value} {l : List Bx} (w : World) (ht : Tops w) (hv : IsBoxes w vl l) (kl : okL l) (hl : l.length ≤ 1000000000000) :
  Calls Tryz.prog 185 #[vl] w (SetPostI w (setF l)) := by
 have hO := own_start [] w
 have h0 := fun w ht hv => psValid_any (vl := vl) (l := l) w ht hv kl hl
 have h1 := fun w ht hv => make_any (vl := vl) (l := l) w ht hv kl hl
 unfold setF
 cases hvd : validF l
 ·rw [hvd] at h0
  rw [if_neg Bool.false_ne_true]
  cases hm : makeF l with
  | none =>
   rw [hm] at h1
   go_enter Tryz.func185, Tryz.ntmps185
   go_wp2_with (first | (go_at_call 88; refine (h0 _ (hO.tops ht (by simp)) (hv.keep0 hO)).mono ?_; rintro e wv ⟨rfl, hb⟩; replace hO := hO.call hb; clear hb) | (go_at_call 86; (with_reducible refine (h1 _ (hO.tops ht (by simp)) (hv.keep0 hO)).mono ?_); rintro e wv hpo; obtain ⟨rfl, hb9⟩ := hpo.no; replace hO := hO.call hb9; clear hb9 hpo))
   go_ret2
   exact ⟨.slice none 0 0, hO.keep.below, .inr ⟨rfl, rfl⟩⟩
  | some x =>
   rw [hm] at h1
   go_enter Tryz.func185, Tryz.ntmps185
   go_wp2_with (first | (go_at_call 88; refine (h0 _ (hO.tops ht (by simp)) (hv.keep0 hO)).mono ?_; rintro e wv ⟨rfl, hb⟩; replace hO := hO.call hb; clear hb) | (go_at_call 86; (with_reducible refine (h1 _ (hO.tops ht (by simp)) (hv.keep0 hO)).mono ?_); rintro e wv hpo; obtain ⟨v3, rfl, hv9, hn9, hb9⟩ := hpo.yes; have hof := hv9.form; replace hO := hO.gainB hb9 hv9 hn9; clear hb9 hv9 hn9 hpo))
   go_ret2
   exact ⟨v3, hO.keep.below, .inl ⟨x, rfl, rfl, hO.isB hof (fun q hq => List.mem_append_left _ hq)⟩⟩
 ·rw [hvd] at h0
  rw [if_pos rfl]
  go_enter Tryz.func185, Tryz.ntmps185
  go_wp2_with (go_at_call 88; refine (h0 _ (hO.tops ht (by simp)) (hv.keep0 hO)).mono ?_; rintro e wv ⟨rfl, hb⟩; replace hO := hO.call hb; clear hb)
  go_ret2
  exact ⟨vl, hO.keep.below, .inl ⟨l, rfl, rfl, hv.keep0 hO⟩⟩
theorem Own.gainAny {M : List Nat} {w0 w w' : World} {S : List Ro} (hO : Own M w0 [] [] S w) (hb : Below w.heap.size w w') {v : Value} {l : List Bx} (hv : IsBoxes w' v l) : Own M w0 [] [] (roS v (cellsB l) ++ S) w' := by
 have h1 := hO.call hb
 rcases hv with ⟨rfl, rfl⟩ | ⟨g, o, c, rfl, _, hr⟩
 ·exact h1
 ·exact h1.addRo ⟨g, o, cellsB l⟩ hr (by simp [excl])
def ofF (op : Bool → Bool → Bool) (la lb : List Bx) : Option (List Bx) := match setF la with
 | none => none
 | some x => match setF lb with
  | none => none
  | some y => limF (canonF op 0 5 x y)
set_option maxHeartbeats 4000000 in
theorem of_any2 {m : Nat} {op : Bool → Bool → Bool} (hop : OpC m op) {va vb : Value} {la lb : List Bx} (w : World) (ht : Tops w) (hva : IsBoxes w va la) (hvb : IsBoxes w vb lb) (ka : okL la) (kb : okL lb) (na : la.length ≤ 1000000000000) (nb : lb.length ≤ 1000000000000) :
  Calls Tryz.prog 136 #[va, vb, .func (.func m) #[] #[]] w (SetPost w (ofF op la lb)) := by
 have hO := own_start [] w
 have hA := fun w ht hv => set_any (vl := va) (l := la) w ht hv ka na
 have hB := fun w ht hv => set_any (vl := vb) (l := lb) w ht hv kb nb
 unfold ofF
 cases hx : setF la with
 | none =>
  rw [hx] at hA
  go_enter Tryz.func136, Tryz.ntmps136
  go_wp2_with (go_at_call 185; (with_reducible refine (hA _ (hO.tops ht (by simp)) (hva.keep0 hO)).mono ?_); rintro e wv hpo; obtain ⟨rfl, hb9⟩ := hpo.no; replace hO := hO.call hb9; clear hb9 hpo hA)
  go_ret2
  exact ⟨.slice none 0 0, hO.keep.below, .inr ⟨rfl, rfl⟩⟩
 | some x =>
  rw [hx] at hA
  obtain ⟨x1, x2, _, _⟩ := setF_ok ka hx
  cases hy : setF lb with
  | none =>
   rw [hy] at hB
   go_enter Tryz.func136, Tryz.ntmps136
   go_wp2_with (first | (go_at_call 185; (with_reducible refine (hA _ (hO.tops ht (by simp)) (hva.keep0 hO)).mono ?_); rintro e wv hpo; obtain ⟨v8, rfl, hv9, hb9⟩ := hpo.yes; have hf8 := hv9.form; replace hO := hO.gainAny hb9 hv9; clear hb9 hv9 hpo hA) | (go_at_call 185; (with_reducible refine (hB _ (hO.tops ht (by simp)) (hvb.keep0 hO)).mono ?_); rintro e wv hpo; obtain ⟨rfl, hb9⟩ := hpo.no; replace hO := hO.call hb9; clear hb9 hpo hB))
   go_ret2
   exact ⟨.slice none 0 0, hO.keep.below, .inr ⟨rfl, rfl⟩⟩
  | some y =>
   rw [hy] at hB
   obtain ⟨y1, y2, _, _⟩ := setF_ok kb hy
   have hC := fun v8 v10 w ht h1 h2 => comb_any hop (va := v8) (vb := v10) (la := x) (lb := y) w ht h1 h2 x1 y1 (by omega) (by omega)
   dsimp only
   clear hx hy x1 y1
   cases hz : limF (canonF op 0 5 x y) with
   | none =>
    rw [hz] at hC
    go_enter Tryz.func136, Tryz.ntmps136
    go_wp2_with (first | (go_at_call 185; (with_reducible refine (hA _ (hO.tops ht (by simp)) (hva.keep0 hO)).mono ?_); rintro e wv hpo; obtain ⟨v8, rfl, hv9, hb9⟩ := hpo.yes; have hf8 := hv9.form; replace hO := hO.gainAny hb9 hv9; clear hb9 hv9 hpo hA) | (go_at_call 185; (with_reducible refine (hB _ (hO.tops ht (by simp)) (hvb.keep0 hO)).mono ?_); rintro e wv hpo; obtain ⟨v10, rfl, hv9, hb9⟩ := hpo.yes; have hf10 := hv9.form; replace hO := hO.gainAny hb9 hv9; clear hb9 hv9 hpo hB) | (go_at_call 146; (with_reducible refine (hC _ _ _ (hO.tops ht (by simp)) (hO.isB hf8 (fun q hq => List.mem_append_right _ (List.mem_append_left _ hq))) (hO.isB hf10 (fun q hq => List.mem_append_left _ hq))).mono ?_); rintro e wv hpo; obtain ⟨rfl, hb9⟩ := hpo.no; replace hO := hO.call hb9; clear hb9 hpo))
    go_ret2
    exact ⟨.slice none 0 0, hO.keep.below, .inr ⟨rfl, rfl⟩⟩
   | some z =>
    rw [hz] at hC
    go_enter Tryz.func136, Tryz.ntmps136
    go_wp2_with (first | (go_at_call 185; (with_reducible refine (hA _ (hO.tops ht (by simp)) (hva.keep0 hO)).mono ?_); rintro e wv hpo; obtain ⟨v8, rfl, hv9, hb9⟩ := hpo.yes; have hf8 := hv9.form; replace hO := hO.gainAny hb9 hv9; clear hb9 hv9 hpo hA) | (go_at_call 185; (with_reducible refine (hB _ (hO.tops ht (by simp)) (hvb.keep0 hO)).mono ?_); rintro e wv hpo; obtain ⟨v10, rfl, hv9, hb9⟩ := hpo.yes; have hf10 := hv9.form; replace hO := hO.gainAny hb9 hv9; clear hb9 hv9 hpo hB) | (go_at_call 146; (with_reducible refine (hC _ _ _ (hO.tops ht (by simp)) (hO.isB hf8 (fun q hq => List.mem_append_right _ (List.mem_append_left _ hq))) (hO.isB hf10 (fun q hq => List.mem_append_left _ hq))).mono ?_); rintro e wv hpo; obtain ⟨v3, rfl, hv9, hn9, hb9⟩ := hpo.yes; have hs9 := hO.keep.size; have hof := hv9.form; replace hO := hO.gainB hb9 hv9 hn9; clear hb9 hv9 hpo))
    go_ret2
    exact ⟨v3, hO.keep.below, .inl ⟨z, rfl, rfl, hO.isB hof (fun q hq => List.mem_append_left _ hq), fun g hg => Nat.le_trans hs9 (hn9 g hg)⟩⟩
theorem zero_Set : ZeroT Tryz.prog 82 [.slice none 0 0] := by unfold ZeroT; kernel_rfl
theorem one_set : OneT Tryz.prog 82 := ⟨_, Tryz.underlying82, rfl, by kernel_rfl⟩
theorem und_Set : Tryz.prog.underlying 82 = some (.slice 98) := Tryz.underlying82
theorem slice_Set : SliceT Tryz.prog 82 98 10 40 := ⟨Tryz.underlying82, by omega, by
 obtain ⟨i, h1, h2, h3, h4⟩ := info_parts (show (Tryz.prog.info? 98).map (fun i => (i.zero, i.size, i.bytes)) = some (some (.agg (bcs zeroBx).toArray), 10, 40) by kernel_rfl)
 exact ⟨i, _, h1, h2, h3, h4, rfl⟩⟩
def iniBx (lo hi f t p e : Int) : Bx := ((fullBx.set 2 ⟨lo, hi⟩).set 3 ⟨f, t⟩).set 4 ⟨p, e⟩
def iniL : List Bx := [iniBx 0 0 0 0 0 0, iniBx 1 1 0 7 8 8, iniBx 1 1 9 65535 8 8, iniBx 2 5 0 0 0 0, iniBx 6 6 0 65535 0 65535, iniBx 7 16 0 0 0 0, iniBx 17 17 0 65535 0 65535, iniBx 18 255 0 0 0 0]
theorem own_boxesE {M : List Nat} {w0 w : World} {X : List Chunk} {R : List Row} {S : List Ro} (hO : Own M w0 X R S w) {v : Value} {k : Nat} {xs : List Value} {l : List Bx} (hm : (⟨v, k, xs, 98, 10⟩ : Row) ∈ R) (e : xs = cellsB l) : IsBoxes w v l := own_boxes hO (e ▸ hm)
set_option maxHeartbeats 8000000 in
theorem initial_any (w : World) (ht : Tops w) : Calls Tryz.prog 89 #[] w fun e w' => ∃ v, e = .returned v ∧ IsBoxes w' v iniL ∧ NewFrom w v ∧ Below w.heap.size w w' := by
 have hO := own_tops ht
 have h1 : ∀ w (_ : Tops w), Calls Tryz.prog 153 #[.int .i64 4] w fun e w' => e = .returned (.int .u32 65535) ∧ w = w' := fun w ht => top_any 4 w ht (by omega)
 replace hO := hO.nilRow 98 10
 go_enter Tryz.func89, Tryz.ntmps89
 go_wp2_with (first | refine ldN ?_ | ((first | refine stN hO ?_ | refine st1N hO ?_); clear hO; intro wv hO) | (refine al9 1 hO ?_; clear hO; intro n1 wv hO) | (refine al9 13 hO ?_; clear hO; intro n13 wv hO) | (refine bl9 29 hO ?_; clear hO; intro n29 wv hO) | (refine ap9 30 hO ?_; clear hO; intro g30 c30 wv hO) | (go_at_call 153; refine (h1 _ (hO.tops ht (by simp))).mono ?_; rintro e _ ⟨rfl, rfl⟩) | (go_at_call 152; refine (full_any _ (hO.tops ht (by simp))).mono ?_; rintro e wv ⟨rfl, hb⟩; replace hO := hO.call hb; clear hb) | (go_at_call 151; go_in))
 go_ret
 exact ⟨_, rfl, own_boxesE hO List.mem_cons_self (by kernel_rfl), own_new hO List.mem_cons_self, hO.keep.below⟩
end Go.Proofs.YtbdfblgdmappeaaGreatDoor
