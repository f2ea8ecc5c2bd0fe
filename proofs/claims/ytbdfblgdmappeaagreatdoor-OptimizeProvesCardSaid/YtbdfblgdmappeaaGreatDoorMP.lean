/- Package packetset (eighth part): combine, Make. -/
import Derived.Test.YtbdfblgdmappeaaGreatDoorMO
import Derived.Test.YtbdfblgdmappeaaGreatDoorME
import Derived.Test.YtbdfblgdmappeaaGreatDoorMN
import Derived.Test.YtbdfblgdmappeaaGreatDoorMD
namespace Go.Proofs.YtbdfblgdmappeaaGreatDoor
open Go.RowKit
set_option maxRecDepth 100000
def SetPost (w : World) (r : Option (List Bx)) (e : Ending) (w' : World) : Prop := ∃ v, Below w.heap.size w w' ∧ ((∃ l, r = some l ∧ e = .returned (.tuple #[v, .int .i64 0]) ∧ IsBoxes w' v l ∧ NewFrom w v) ∨ (r = none ∧ e = .returned (.tuple #[.slice none 0 0, .int .i64 3])))
theorem SetPost.yes {w w' : World} {l : List Bx} {e : Ending} (h : SetPost w (some l) e w') : ∃ v, e = .returned (.tuple #[v, .int .i64 0]) ∧ IsBoxes w' v l ∧ NewFrom w v ∧ Below w.heap.size w w' := by
 obtain ⟨v, hb, ⟨l', h1, h2, h3, h4⟩ | ⟨h1, _⟩⟩ := h
 ·cases h1; exact ⟨v, h2, h3, h4, hb⟩
 ·cases h1
theorem SetPost.no {w w' : World} {e : Ending} (h : SetPost w none e w') : e = .returned (.tuple #[.slice none 0 0, .int .i64 3]) ∧ Below w.heap.size w w' := by
 obtain ⟨v, hb, ⟨l', h1, h2, h3, h4⟩ | ⟨_, h1⟩⟩ := h
 ·cases h1
 ·exact ⟨h1, hb⟩
set_option maxHeartbeats 2000000 in
theorem comb_any {m : Nat} {op : Bool → Bool → Bool} (hop : OpC m op) {va vb : Value} {la lb : List Bx} (w : World) (ht : Tops w) (hva : IsBoxes w va la) (hvb : IsBoxes w vb lb) (ka : vL la) (kb : vL lb) (na : la.length ≤ 1000000000000) (nb : lb.length ≤ 1000000000000) :
  Calls Tryz.prog 146 #[va, vb, .func (.func m) #[] #[]] w (SetPost w (limF (canonF op 0 5 la lb))) := by
 have hO := own_start [] w
 have h1 : ∀ w, Tops w → IsBoxes w va la → IsBoxes w vb lb → Calls Tryz.prog 190 #[.int .i64 0, va, vb, .func (.func m) #[] #[], .int .i64 4096] w (CanPost w (canonF op 0 5 la lb) 4096) := fun w ht hva hvb => can_any hop 4096 (by omega) (by omega) 5 0 rfl va vb la lb w ht hva hvb ka kb na nb
 generalize canonF op 0 5 la lb = D at *
 by_cases hD : D.length ≤ 4096
 ·have hl : limF D = some D := if_pos hD
  rw [hl]
  go_enter Tryz.func146, Tryz.ntmps146
  go_wp2_with (go_at_call 190; (with_reducible refine (h1 _ (hO.tops ht (by simp)) (hva.keep0 hO) (hvb.keep0 hO)).mono ?_); rintro e wv hpo; obtain ⟨v3, rfl, hv9, hn9, hb9⟩ := hpo.yes hD; have hs9 := hO.keep.size; have hof := hv9.form; replace hO := hO.gainB hb9 hv9 hn9; clear hb9 hv9 hpo)
  go_ret2
  exact ⟨_, hO.keep.below, .inl ⟨_, rfl, rfl, hO.isB hof (fun q hq => List.mem_append_left _ hq), fun g hg => Nat.le_trans hs9 (hn9 g hg)⟩⟩
 ·have hl : limF D = none := if_neg hD
  rw [hl]
  go_enter Tryz.func146, Tryz.ntmps146
  go_wp2_with (go_at_call 190; (with_reducible refine (h1 _ (hO.tops ht (by simp)) (hva.keep0 hO) (hvb.keep0 hO)).mono ?_); rintro e wv hpo; obtain ⟨rfl, hb9⟩ := hpo.no (by omega); replace hO := hO.call hb9; clear hb9 hpo)
  go_ret2
  exact ⟨.slice none 0 0, hO.keep.below, .inr ⟨rfl, rfl⟩⟩
def makeF (l : List Bx) : Option (List Bx) := makeGo [] (valF l)
theorem vB_of {b : Bx} (h : b.ok) (hv : vld b = true) : vB b := fun k hk => by
 have h1 := vld_iff.1 hv k hk
 have h2 := h k hk
 exact ⟨h2.1.1, h1.1, h1.2⟩
theorem vld_of {b : Bx} (h : vB b) : vld b = true := vld_iff.2 fun k hk => ⟨(h k hk).2.1, (h k hk).2.2⟩
def okL (l : List Bx) : Prop := ∀ b ∈ l, b.ok
theorem valF_vL {l : List Bx} (h : okL l) : vL (valF l) := fun b hb => by
 have := List.mem_filter.1 hb
 exact vB_of (h b this.1) this.2
theorem valF_le (l : List Bx) : (valF l).length ≤ l.length := List.length_filter_le _ _
theorem vL_one {b : Bx} (h : vB b) : vL [b] := fun c hc => by rw [List.mem_singleton.1 hc]; exact h
theorem one_boxesC {M : List Nat} {w0 w : World} {X : List Chunk} {R : List Row} {S : List Ro} (hO : Own M w0 X R S w) {n : Nat} {b : Bx} {t : TypeId} (hm : (⟨n, bcs b, t⟩ : Chunk) ∈ X) : IsBoxes w (.slice (some ⟨n, 0, none⟩) 1 1) [b] :=
 own_boxesC hO (l := [b]) hm (cellsB_one b).symm (by simp)
set_option maxHeartbeats 4000000 in
theorem make_any {vl : Value} {l : List Bx} (w : World) (ht : Tops w) (hv : IsBoxes w vl l) (kl : okL l) (hl : l.length ≤ 1000000000000) :
  Calls Tryz.prog 86 #[vl] w (SetPost w (makeF l)) := by
 have hO := own_start [] w
 have h0 := fun w ht hv => vals_any (vl := vl) (l := l) w ht hv hl
 have kV := valF_vL kl
 have nV := Nat.le_trans (valF_le l) hl
 unfold makeF
 generalize valF l = V at *
 go_enter Tryz.func86, Tryz.ntmps86
 go_wp2_with (go_at_call 145; (with_reducible refine (h0 _ (hO.tops ht (by simp)) (hv.keep0 hO)).mono ?_); rintro e wv ⟨v9, rfl, ⟨hv9, hn9⟩, hb9⟩; have hof := hv9.form; replace hO := hO.gainB hb9 hv9 hn9; clear hb9 hv9 hn9; obtain ⟨a9, c9, rfl, ha9⟩ := hof.view)
 go_loopw [4, 12] (fun q4 q12 wr => ∃ (k : Nat) (s : List Bx), k ≤ V.length ∧ q12 = .int .i64 k ∧ Hid (makeGo [] V = makeGo s (V.drop k)) ∧ Hid (vL s) ∧ s.length ≤ 4096 ∧ Hid (FormB q4 s) ∧ Hid (NewFrom w q4) ∧ Own [] w [] [] (roS q4 (cellsB s) ++ roS (.slice a9 V.length c9) (cellsB V)) wr) (fun _ q12 _ => V.length - (intOf q12).toNat)
 case atStart => exact ⟨0, [], by omega, rfl, Lib.hid (by rw [List.drop_zero]), Lib.hid (fun b hb => by cases hb), by simp, Lib.hid (.inl ⟨rfl, rfl⟩), Lib.hid (fun g hg => by cases hg), hO.sub (.refl _) (.refl _) (fun q hq => by simpa [roS] using hq)⟩
 case round =>
  clear hO h0
  obtain ⟨k, s, hk, rfl, HE, HV, hs, HFm, HN, hO⟩ := hrel
  by_cases hlt : k < V.length
  ·obtain ⟨g, o, rfl⟩ := ha9 (by omega)
   have hO2 := hO.sub (S' := ⟨g, o, cellsB V⟩ :: roS u4 (cellsB s)) (.refl _) (.refl _) (fun q hq => (List.mem_cons.1 hq).elim (fun h => List.mem_append_right _ (by rw [h]; exact List.mem_cons_self)) (fun h => List.mem_append_left _ h))
   replace hO := hO2
   clear hO2
   have hvb := vL_one (kV V[k] (List.getElem_mem hlt))
   have hdr : V.drop k = V[k] :: V.drop (k + 1) := List.drop_eq_getElem_cons hlt
   have t1 := tk_box V hlt
   generalize V[k] = b at *
   have h1 := fun v2 w ht h1 h2 => comb_any op_either (va := u4) (vb := v2) (la := s) (lb := [b]) w ht h1 h2 HV.out hvb (by omega) (by simp)
   rw [hdr, makeGo] at HE
   have hcv := (canonF_cn orB 5 0 rfl HV.out hvb).valid rfl
   cases hlim : limF (canonF orB 0 5 s [b]) with
   | none =>
    rw [hlim] at HE h1
    dsimp only at HE
    clear hcv hvb hdr hlim
    go_wp2_with (first | refine ldN ?_ | (refine stN hO ?_; clear hO; intro wv hO) | (refine al9 6 hO ?_; clear hO; intro n6 wv hO) | (refine bl9 19 hO ?_; clear hO; intro n19 wv hO) | (go_at_call 146; (with_reducible refine (h1 _ _ (hO.tops ht (by simp)) (hO.isB HFm.out (fun q hq => List.mem_cons_of_mem _ hq)) (one_boxesC hO List.mem_cons_self)).mono ?_); rintro e wv hpo; obtain ⟨rfl, hb9⟩ := hpo.no; replace hO := hO.call hb9; clear hb9 hpo))
    go_ret2
    exact ⟨.slice none 0 0, hO.keep.below, .inr ⟨HE.out, rfl⟩⟩
   | some s' =>
    rw [hlim] at HE h1
    obtain ⟨hs1, hs2⟩ := limF_some.1 hlim
    rw [hs2] at hcv hs1
    dsimp only at HE
    clear hvb hdr hlim hs2
    have HC := Lib.hid hcv
    clear hcv
    go_wp2_with (first | refine ldN ?_ | (refine stN hO ?_; clear hO; intro wv hO) | (refine al9 6 hO ?_; clear hO; intro n6 wv hO) | (refine bl9 19 hO ?_; clear hO; intro n19 wv hO) | (go_at_call 146; (with_reducible refine (h1 _ _ (hO.tops ht (by simp)) (hO.isB HFm.out (fun q hq => List.mem_cons_of_mem _ hq)) (one_boxesC hO List.mem_cons_self)).mono ?_); rintro e wv hpo; obtain ⟨v3, rfl, hv9, hn9, hb9⟩ := hpo.yes; have HF3 := Lib.hid hv9.form; have hs9 := hO.keep.size; replace hO := hO.gainB hb9 hv9 hn9; clear hb9 hv9 hpo))
    go_roundw
    case rel => exact ⟨k + 1, s', by omega, by go_num, HE, HC, hs1, HF3, Lib.hid (fun g hg => Nat.le_trans hs9 (hn9 g hg)), hO.sub (.cons _ (.cons _ (.refl _))) (.refl _) (fun q hq => (List.mem_append.1 hq).elim (fun h => List.mem_append_left _ h) (fun h => List.mem_append_right _ (by obtain rfl := List.mem_singleton.1 h; exact List.mem_cons_self)))⟩
    case measure => simp [intOf]; omega
  ·obtain rfl : k = V.length := by omega
   rw [List.drop_length, makeGo] at HE
   go_wp2_with fail
   go_ret2
   exact ⟨_, hO.keep.below, .inl ⟨s, HE.out, rfl, hO.isB HFm.out (fun q hq => List.mem_append_left _ hq), HN.out⟩⟩
theorem putAt_behind : ∀ (xs ys vs : List Value) (q : Nat), putAt (xs ++ ys) (xs.length + q) vs = xs ++ putAt ys q vs
 | [], ys, vs, q => by simp
 | x :: xs, ys, vs, q => by rw [List.cons_append, List.cons_append, ← putAt_behind xs ys vs q, List.length_cons, show xs.length + 1 + q = (xs.length + q) + 1 by omega, putAt_cons]
theorem putAt_front {b : Bx} {j : Nat} (h : j < 5) (lo hi : Int) (ys : List Value) : putAt (bcs b ++ ys) (j * 2) [.int .u32 lo, .int .u32 hi] = bcs (b.set j ⟨lo, hi⟩) ++ ys := by
 rcases five h with rfl | rfl | rfl | rfl | rfl <;> rfl
theorem cellsB_setAt {l : List Bx} {k j : Nat} (h : k < l.length) (hj : j < 5) (lo hi : Int) : putAt (cellsB l) (k * 10 + j * 2) [.int .u32 lo, .int .u32 hi] = cellsB (l.set k (l[k].set j ⟨lo, hi⟩)) := by
 induction l generalizing k with
 | nil => simp at h
 | cons c l ih =>
  cases k with
  | zero =>
   simp only [cellsB, List.set_cons_zero, List.getElem_cons_zero, Nat.zero_mul, Nat.zero_add]
   exact putAt_front hj lo hi _
  | succ k =>
   simp only [cellsB, List.set_cons_succ, List.getElem_cons_succ]
   rw [← ih (by simpa using h), show (k + 1) * 10 + j * 2 = (bcs c).length + (k * 10 + j * 2) by rw [bcs_length]; omega, putAt_behind]
theorem zTo_next (j : Nat) (hj : j < 5) (b : Bx) : (zTo j b).set j ⟨0, 0⟩ = zTo (j + 1) b := Bx.ext_at fun k hk => by
 rw [Bx.at_set _ _ _ hk, zTo_at _ _ hk, zTo_at _ _ hk]
 by_cases e : k = j
 ·subst e; rw [if_pos rfl, if_pos (by omega)]
 ·rw [if_neg e]
  by_cases c : k < j
  ·rw [if_pos c, if_pos (by omega)]
  ·rw [if_neg c, if_neg (by omega)]
def midZ (f : Nat) (l : List Bx) (k j : Nat) : List Bx := (l.take k).map (zTo (f + 1)) ++ match l.drop k with
 | [] => []
 | b :: r => zTo j b :: r
theorem midZ_eq {f k j : Nat} {l : List Bx} (h : k < l.length) : midZ f l k j = (l.take k).map (zTo (f + 1)) ++ zTo j l[k] :: l.drop (k + 1) := by
 unfold midZ; rw [List.drop_eq_getElem_cons h]
theorem midZ_length {f k j : Nat} {l : List Bx} (h : k < l.length) : (midZ f l k j).length = l.length := by rw [midZ_eq h]; simp; omega
theorem midZ_set {f k j : Nat} {l : List Bx} (h : k < l.length) (hj : j < 5) : ∀ h', (midZ f l k j).set k (((midZ f l k j)[k]'h').set j ⟨0, 0⟩) = midZ f l k (j + 1) := by
 intro h'
 have hl : ((l.take k).map (zTo (f + 1))).length = k := by simp; omega
 have e : (midZ f l k j)[k]'h' = zTo j l[k] := by
  simp only [midZ_eq h]
  rw [List.getElem_append_right (by omega)]
  simp only [hl, Nat.sub_self, List.getElem_cons_zero]
 rw [e, midZ_eq h, midZ_eq h, List.set_append_right _ _ (by omega), hl, Nat.sub_self, List.set_cons_zero, zTo_next j hj]
theorem midZ_zero {f k : Nat} {l : List Bx} (h : k < l.length) : midZ f l k 0 = (l.take k).map (zTo (f + 1)) ++ l.drop k := by
 rw [midZ_eq h, zTo_zero, ← List.drop_eq_getElem_cons h]
theorem midZ_done {f k : Nat} {l : List Bx} (h : k < l.length) : midZ f l k (f + 1) = (l.take (k + 1)).map (zTo (f + 1)) ++ l.drop (k + 1) := by
 rw [midZ_eq h, List.take_succ_eq_append_getElem h, List.map_append, List.append_assoc]; rfl
set_option maxHeartbeats 4000000 in
theorem rests_any {vl : Value} {l : List Bx} {f : Nat} (w : World) (hv : IsBoxes w vl l) (hf : f < 5) (hl : l.length ≤ 1000000000000) :
  Calls Tryz.prog 193 #[.int .i64 f, vl] w (RetBoxes w (l.map (zTo (f + 1)))) := by
 have hO := own_start [] w
 have h1 := fun w hv => clone_any (vl := vl) (l := l) w hv hl
 go_enter Tryz.func193, Tryz.ntmps193
 go_wp2_with (go_at_call 188; (with_reducible refine (h1 _ (hv.keep0 hO)).mono ?_); rintro e wv ⟨v, rfl, hrow, hb9⟩; replace hO := hO.gainRow hb9 hrow; have hvw := row_view hrow; clear hb9 h1 hrow; obtain ⟨a, c, rfl, ha⟩ := hvw)
 go_loopw [12] (fun q wr => ∃ k : Nat, k ≤ l.length ∧ q = .int .i64 k ∧ Own [] w [] [⟨.slice a l.length c, l.length, cellsB ((l.take k).map (zTo (f + 1)) ++ l.drop k), 98, 10⟩] [] wr) (fun q _ => l.length - (intOf q).toNat)
 case atStart => exact ⟨0, by omega, rfl, by simpa using hO⟩
 case round =>
  clear hO
  obtain ⟨k, hk, rfl, hO⟩ := hrel
  by_cases hlt : k < l.length
  ·obtain ⟨g, rfl⟩ := ha (by omega)
   have HD := Lib.hid (midZ_done (f := f) hlt)
   rw [← midZ_zero hlt] at hO
   have hms := fun j (hj : j < 5) => midZ_set (f := f) (j := j) hlt hj
   have hml := fun j => midZ_length (f := f) (j := j) hlt
   go_wp2_with fail
   go_loopw [7] (fun q wr => ∃ j : Nat, j ≤ f + 1 ∧ q = .int .i64 j ∧ Own [] w [] [⟨.slice (some ⟨g, 0, none⟩) l.length c, l.length, cellsB (midZ f l k j), 98, 10⟩] [] wr) (fun q _ => f + 1 - (intOf q).toNat)
   case atStart => exact ⟨0, by omega, rfl, hO⟩
   case round =>
    clear hO
    obtain ⟨j, hj, rfl, hO⟩ := hrel
    have s1 : IntKind.i64.wrap ((j : Int) + 1) = (j : Int) + 1 := IntWalk.i64_in _ (by omega)
    by_cases hjf : j ≤ f
    ·have g1 : decide ((j : Int) ≤ (f : Int)) = true := decide_eq_true (by omega)
     have hj5 : j < 5 := by omega
     have y1 : (0 : Int) ≤ (j : Int) := by omega
     have y2 : (j : Int) < 5 := by omega
     have hmk : k < (midZ f l k j).length := by rw [hml]; exact hlt
     have hn := cellsB_setAt hmk hj5 0 0
     rw [hms j hj5 hmk] at hn
     have hsz : k * 10 + j * 2 + 2 ≤ (cellsB (midZ f l k j)).length := by rw [cellsB_length, hml]; omega
     go_wp2_with ((with_reducible refine is_store ?_); (refine own_stRw hO (h := ?_); clear hO; intro wv hO))
     go_roundw
     case rel => exact ⟨j + 1, by omega, by go_num, hO⟩
     case measure => simp [intOf]; omega
    ·have hjx : j = f + 1 := by omega
     subst hjx
     have g1 : decide (((f + 1 : Nat) : Int) ≤ (f : Int)) = false := decide_eq_false (by omega)
     rw [HD.out] at hO
     go_wp2_with fail
     go_roundw
     case rel => exact ⟨k + 1, by omega, by go_num, hO⟩
     case measure => simp [intOf]; omega
  ·obtain rfl : k = l.length := by omega
   rw [List.take_length, List.drop_length, List.append_nil] at hO
   go_wp2_with fail
   go_ret
   have hO9 := hO.row _ List.mem_cons_self
   exact ⟨_, rfl, ⟨own_boxes hO List.mem_cons_self, own_new hO List.mem_cons_self⟩, hO.keep.below⟩
end Go.Proofs.YtbdfblgdmappeaaGreatDoor
