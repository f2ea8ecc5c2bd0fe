/- Package packetset (eleventh part): Valid, set, of, Union, Intersect, Subtract, Complement. -/
import Derived.Test.YtbdfblgdmappeaaDoorMP
import Derived.Test.YtbdfblgdmappeaaDoorMQ
import Derived.Test.YtbdfblgdmappeaaDoorMA
namespace Go.Proofs.YtbdfblgdmappeaaDoor
open Go.RowKit
set_option maxRecDepth 100000
def validF (l : List Bx) : Bool := decide (l.length ≤ 4096) && (decide ((valF l).length = l.length) && dvd 0 5 l)
theorem valF_all {l : List Bx} (h : (valF l).length = l.length) : valF l = l := by
 have := List.filter_sublist (p := vld) (l := l)
 exact this.eq_of_length h
set_option maxHeartbeats 4000000 in
theorem psValid_any {vl : Value} {l : List Bx} (w : World) (ht : Tops w) (hv : IsBoxes w vl l) (kl : okL l) (hl : l.length ≤ 1000000000000) :
  Calls Tryd.prog 27 #[vl] w fun e w' => e = .returned (.bool (validF l)) ∧ Below w.heap.size w w' := by
 have hO := own_start [] w
 have h0 := fun w ht hv => vals_any (vl := vl) (l := l) w ht hv hl
 obtain ⟨a, c, rfl, ha⟩ := hv.view
 clear ha
 by_cases h1 : l.length ≤ 4096
 ·have g1 : decide ((l.length : Int) ≤ 4096) = true := decide_eq_true (by omega)
  by_cases h2 : (valF l).length = l.length
  ·have kv : vL l := by have := valF_vL kl; rwa [valF_all h2] at this
   have E := Lib.hid (show validF l = dvd 0 5 l by unfold validF; rw [decide_eq_true h1, decide_eq_true h2]; rfl)
   have h3 : ∀ w, IsBoxes w (.slice a l.length c) l → Calls Tryd.prog 40 #[.int .i64 0, .slice a l.length c] w fun e w' => e = .returned (.bool (dvd 0 5 l)) ∧ Below w.heap.size w w' := fun w hv => div_any 5 0 rfl _ l w hv kv hl
   have g2 : ((l.length : Int) == (l.length : Int)) = true := by simp
   clear kv
   generalize dvd 0 5 l = D at *
   generalize hV : valF l = V at *
   clear hV
   go_enter Tryd.func27, Tryd.ntmps27
   go_wp2_with (first | (go_at_call 35; (with_reducible refine (h0 _ (hO.tops ht (by simp)) (hv.keep0 hO)).mono ?_); rintro e wv ⟨v9, rfl, ⟨hv9, hn9⟩, hb9⟩; have hof := hv9.form; replace hO := hO.call hb9; clear hb9 hv9 hn9 h0; obtain ⟨a9, c9, rfl, -⟩ := hof.view; rw [h2]) | (go_at_call 40; refine (h3 _ (hv.keep0 hO)).mono ?_; rintro e wv ⟨rfl, hb⟩; replace hO := hO.call hb; clear hb))
   go_ret
   exact ⟨ret_bool E.out.symm, hO.keep.below⟩
  ·have E := Lib.hid (show validF l = false by unfold validF; rw [decide_eq_false h2, Bool.false_and, Bool.and_false])
   have g2 : (((valF l).length : Int) == (l.length : Int)) = false := by simp; omega
   generalize valF l = V at *
   go_enter Tryd.func27, Tryd.ntmps27
   go_wp2_with (go_at_call 35; (with_reducible refine (h0 _ (hO.tops ht (by simp)) (hv.keep0 hO)).mono ?_); rintro e wv ⟨v9, rfl, ⟨hv9, hn9⟩, hb9⟩; have hof := hv9.form; replace hO := hO.call hb9; clear hb9 hv9 hn9 h0; obtain ⟨a9, c9, rfl, -⟩ := hof.view)
   go_ret
   exact ⟨ret_bool E.out.symm, hO.keep.below⟩
 ·have g1 : decide ((l.length : Int) ≤ 4096) = false := decide_eq_false (by omega)
  have E := Lib.hid (show validF l = false by unfold validF; rw [decide_eq_false h1]; rfl)
  go_enter Tryd.func27, Tryd.ntmps27
  go_wp2_with fail
  go_ret
  exact ⟨ret_bool E.out.symm, hO.keep.below⟩
def setF (l : List Bx) : Option (List Bx) := if validF l then some l else makeF l
theorem setF_ok {l x : List Bx} (kl : okL l) (h : setF l = some x) : vL x ∧ x.length ≤ 4096 ∧ Cn 0 5 x ∧ ∀ p, okP p → inq x p = inq (valF l) p := by
 unfold setF at h
 split at h
 ·rename_i hv
  cases h
  unfold validF at hv
  simp only [Bool.and_eq_true, decide_eq_true_eq] at hv
  obtain ⟨h1, h2, h3⟩ := hv
  have h4 := valF_all h2
  have kv : vL l := by have := valF_vL kl; rwa [h4] at this
  exact ⟨kv, h1, (dvd_zero kv).1 h3, fun p _ => by rw [h4]⟩
 ·obtain ⟨h1, h2, h3⟩ := makeGo_spec (cn_nil 0 5) (by simp) (valF_vL kl) h
  exact ⟨h1.valid rfl, h2, h1, fun p hp => by rw [h3 p hp, inq_nil, Bool.false_or]⟩
def SetPostI (w : World) (r : Option (List Bx)) (e : Ending) (w' : World) : Prop := ∃ v, Below w.heap.size w w' ∧ ((∃ l, r = some l ∧ e = .returned (.tuple #[v, .int .i64 0]) ∧ IsBoxes w' v l) ∨ (r = none ∧ e = .returned (.tuple #[.slice none 0 0, .int .i64 3])))
theorem SetPostI.yes {w w' : World} {l : List Bx} {e : Ending} (h : SetPostI w (some l) e w') : ∃ v, e = .returned (.tuple #[v, .int .i64 0]) ∧ IsBoxes w' v l ∧ Below w.heap.size w w' := by
 obtain ⟨v, hb, ⟨l', h1, h2, h3⟩ | ⟨h1, _⟩⟩ := h
 ·cases h1; exact ⟨v, h2, h3, hb⟩
 ·cases h1
theorem SetPostI.no {w w' : World} {e : Ending} (h : SetPostI w none e w') : e = .returned (.tuple #[.slice none 0 0, .int .i64 3]) ∧ Below w.heap.size w w' := by
 obtain ⟨v, hb, ⟨l', h1, h2, h3⟩ | ⟨_, h1⟩⟩ := h
 ·cases h1
 ·exact ⟨h1, hb⟩
theorem SetPost.i {w w' : World} {r : Option (List Bx)} {e : Ending} (h : SetPost w r e w') : SetPostI w r e w' := by
 obtain ⟨v, hb, ⟨l', h1, h2, h3, _⟩ | h⟩ := h
 ·exact ⟨v, hb, .inl ⟨l', h1, h2, h3⟩⟩
 ·exact ⟨v, hb, .inr h⟩
set_option maxHeartbeats 2000000 in
theorem set_any {vl : Value} {l : List Bx} (w : World) (ht : Tops w) (hv : IsBoxes w vl l) (kl : okL l) (hl : l.length ≤ 1000000000000) :
  Calls Tryd.prog 21 #[vl] w (SetPostI w (setF l)) := by
 have hO := own_start [] w
 have h0 := fun w ht hv => psValid_any (vl := vl) (l := l) w ht hv kl hl
 have h1 := fun w ht hv => make_any (vl := vl) (l := l) w ht hv kl hl
 unfold setF
 cases hvd : validF l
 ·rw [hvd] at h0
  rw [if_neg Bool.false_ne_true]
  cases hm : makeF l with
  | none =>
   rw [hm] at h1
   go_enter Tryd.func21, Tryd.ntmps21
   go_wp2_with (first | (go_at_call 27; refine (h0 _ (hO.tops ht (by simp)) (hv.keep0 hO)).mono ?_; rintro e wv ⟨rfl, hb⟩; replace hO := hO.call hb; clear hb) | (go_at_call 26; (with_reducible refine (h1 _ (hO.tops ht (by simp)) (hv.keep0 hO)).mono ?_); rintro e wv hpo; obtain ⟨rfl, hb9⟩ := hpo.no; replace hO := hO.call hb9; clear hb9 hpo))
   go_ret2
   exact ⟨.slice none 0 0, hO.keep.below, .inr ⟨rfl, rfl⟩⟩
  | some x =>
   rw [hm] at h1
   go_enter Tryd.func21, Tryd.ntmps21
   go_wp2_with (first | (go_at_call 27; refine (h0 _ (hO.tops ht (by simp)) (hv.keep0 hO)).mono ?_; rintro e wv ⟨rfl, hb⟩; replace hO := hO.call hb; clear hb) | (go_at_call 26; (with_reducible refine (h1 _ (hO.tops ht (by simp)) (hv.keep0 hO)).mono ?_); rintro e wv hpo; obtain ⟨v3, rfl, hv9, hn9, hb9⟩ := hpo.yes; have hof := hv9.form; replace hO := hO.gainB hb9 hv9 hn9; clear hb9 hv9 hn9 hpo))
   go_ret2
   exact ⟨v3, hO.keep.below, .inl ⟨x, rfl, rfl, hO.isB hof (fun q hq => List.mem_append_left _ hq)⟩⟩
 ·rw [hvd] at h0
  rw [if_pos rfl]
  go_enter Tryd.func21, Tryd.ntmps21
  go_wp2_with (go_at_call 27; refine (h0 _ (hO.tops ht (by simp)) (hv.keep0 hO)).mono ?_; rintro e wv ⟨rfl, hb⟩; replace hO := hO.call hb; clear hb)
  go_ret2
  exact ⟨vl, hO.keep.below, .inl ⟨l, rfl, rfl, hv.keep0 hO⟩⟩
theorem Own.gainAny {M : List Nat} {w0 w w' : World} {S : List Ro} (hO : Own M w0 [] [] S w) (hb : Below w.heap.size w w') {v : Value} {l : List Bx} (hv : IsBoxes w' v l) : Own M w0 [] [] (roS v (cellsB l) ++ S) w' := by
 have h1 := hO.call hb
 rcases hv with ⟨rfl, rfl⟩ | ⟨g, o, c, rfl, _, hr⟩
 ·exact h1
 ·exact h1.addRo ⟨g, o, cellsB l⟩ hr (by simp [excl])
def ofF (op : Bool → Bool → Bool) (la lb : List Bx) : Option (List Bx) := match setF la with
 | none => none
 | some x => match setF lb with
  | none => none
  | some y => limF (canonF op 0 5 x y)
theorem zero_Set : ZeroT Tryd.prog 29 [.slice none 0 0] := by unfold ZeroT; kernel_rfl
theorem one_set : OneT Tryd.prog 29 := ⟨_, Tryd.underlying29, rfl, by kernel_rfl⟩
theorem slice_Set : SliceT Tryd.prog 29 45 10 40 := ⟨Tryd.underlying29, by omega, by
 obtain ⟨i, h1, h2, h3, h4⟩ := info_parts (show (Tryd.prog.info? 45).map (fun i => (i.zero, i.size, i.bytes)) = some (some (.agg (bcs zeroBx).toArray), 10, 40) by kernel_rfl)
 exact ⟨i, _, h1, h2, h3, h4, rfl⟩⟩
def iniBx (lo hi f t p e : Int) : Bx := ((fullBx.set 2 ⟨lo, hi⟩).set 3 ⟨f, t⟩).set 4 ⟨p, e⟩
def iniL : List Bx := [iniBx 0 0 0 0 0 0, iniBx 1 1 0 7 8 8, iniBx 1 1 9 65535 8 8, iniBx 2 5 0 0 0 0, iniBx 6 6 0 65535 0 65535, iniBx 7 16 0 0 0 0, iniBx 17 17 0 65535 0 65535, iniBx 18 255 0 0 0 0]
theorem own_boxesE {M : List Nat} {w0 w : World} {X : List Chunk} {R : List Row} {S : List Ro} (hO : Own M w0 X R S w) {v : Value} {k : Nat} {xs : List Value} {l : List Bx} (hm : (⟨v, k, xs, 45, 10⟩ : Row) ∈ R) (e : xs = cellsB l) : IsBoxes w v l := own_boxes hO (e ▸ hm)
set_option maxHeartbeats 8000000 in
theorem initial_any (w : World) (ht : Tops w) : Calls Tryd.prog 28 #[] w fun e w' => ∃ v, e = .returned v ∧ IsBoxes w' v iniL ∧ NewFrom w v ∧ Below w.heap.size w w' := by
 have hO := own_tops ht
 have h1 : ∀ w (_ : Tops w), Calls Tryd.prog 23 #[.int .i64 4] w fun e w' => e = .returned (.int .u32 65535) ∧ w = w' := fun w ht => top_any 4 w ht (by omega)
 replace hO := hO.nilRow 45 10
 go_enter Tryd.func28, Tryd.ntmps28
 go_wp2_with (first | refine ldN ?_ | ((first | refine stN hO ?_ | refine st1N hO ?_); clear hO; intro wv hO) | (refine al9 1 hO ?_; clear hO; intro n1 wv hO) | (refine al9 13 hO ?_; clear hO; intro n13 wv hO) | (refine bl9 29 hO ?_; clear hO; intro n29 wv hO) | (refine ap9 30 hO ?_; clear hO; intro g30 c30 wv hO) | (go_at_call 23; refine (h1 _ (hO.tops ht (by simp))).mono ?_; rintro e _ ⟨rfl, rfl⟩) | (go_at_call 42; refine (full_any _ (hO.tops ht (by simp))).mono ?_; rintro e wv ⟨rfl, hb⟩; replace hO := hO.call hb; clear hb) | (go_at_call 41; go_in))
 go_ret
 exact ⟨_, rfl, own_boxesE hO List.mem_cons_self (by kernel_rfl), own_new hO List.mem_cons_self, hO.keep.below⟩
end Go.Proofs.YtbdfblgdmappeaaDoor
