/- The reference of packet sets: Make, Valid, given, combine, Complement, for lists with few ends. -/
import Derived.Test.YtbdfblgdmappeaaGreatDoorNI
import Derived.Test.YtbdfblgdmappeaaGreatDoorNC
import Derived.Test.YtbdfblgdmappeaaGreatDoorMS
import Derived.Test.YtbdfblgdmappeaaGreatDoorMV
namespace Go.Proofs.YtbdfblgdmappeaaGreatDoor
open Go.RowKit
set_option maxRecDepth 100000
def EndsAt (N : Nat) (e : Nat → List Int) (l : List Bx) : Prop := ∀ k, k < 5 → (e k).length ≤ N ∧ EndsIn k (0 :: (topOf k + 1) :: e k) l
theorem Ends.at {N : Nat} {l : List Bx} (h : Ends N l) : ∃ e, EndsAt N e l := by
 have h2 : ∀ k, ∃ e : List Int, k < 5 → e.length ≤ N ∧ EndsIn k (0 :: (topOf k + 1) :: e) l := fun k => by
  by_cases hk : k < 5
  ·obtain ⟨e, he⟩ := h k hk; exact ⟨e, fun _ => he⟩
  ·exact ⟨[], fun h => absurd h hk⟩
 exact ⟨fun k => Classical.choose (h2 k), fun k hk => Classical.choose_spec (h2 k) hk⟩
theorem EndsAt.ends {N : Nat} {e : Nat → List Int} {l : List Bx} (h : EndsAt N e l) : Ends N l := fun k hk => ⟨e k, (h k hk).1, (h k hk).2⟩
theorem EndsAt.nil {N : Nat} {e : Nat → List Int} {l : List Bx} (h : EndsAt N e l) : EndsAt N e [] := fun k hk => ⟨(h k hk).1, fun b hb => by cases hb⟩
theorem EndsAt.one {N : Nat} {e : Nat → List Int} {l : List Bx} (h : EndsAt N e l) {b : Bx} (hb : b ∈ l) : EndsAt N e [b] := fun k hk => ⟨(h k hk).1, fun c hc => by rw [List.mem_singleton.1 hc]; exact (h k hk).2 b hb⟩
theorem EndsAt.canon {op : Bool → Bool → Bool} {N : Nat} {e : Nat → List Int} {a b : List Bx} (ha : EndsAt N e a) (hb : EndsAt N e b) : EndsAt N e (canonF op 0 5 a b) := fun k hk => ⟨(ha k hk).1, canonF_ends op hk (by simp) (by simp) 5 0 rfl (Nat.zero_le _) (ha k hk).2 (hb k hk).2⟩
theorem EndsAt.make {N : Nat} {e : Nat → List Int} : ∀ {l s r : List Bx}, EndsAt N e s → EndsAt N e l → makeGo s l = some r → EndsAt N e r
 | [], s, r, hs, _, h => by cases h; exact hs
 | b :: l, s, r, hs, hl, h => by
  rw [makeGo] at h
  cases hc : limF (canonF orB 0 5 s [b]) with
  | none => rw [hc] at h; cases h
  | some t =>
   rw [hc] at h
   obtain ⟨_, rfl⟩ := limF_some.1 hc
   exact EndsAt.make (hs.canon (hl.one (by simp))) (fun k hk => ⟨(hl k hk).1, fun c hc => (hl k hk).2 c (by simp [hc])⟩) h
theorem setF_ends {N : Nat} {l x : List Bx} (h : Ends N l) (hx : setF l = some x) : Ends N x := by
 obtain ⟨e, he⟩ := h.at
 unfold setF at hx
 split at hx
 ·cases hx; exact h
 ·exact (EndsAt.make he.nil (fun k hk => ⟨(he k hk).1, fun c hc => (he k hk).2 c (List.mem_filter.1 hc).1⟩) hx).ends
set_option maxHeartbeats 8000000 in
theorem rmakeE_any {vl : Value} {l : List Bx} {N : Nat} (w : World) (hv : IsBoxes w vl l) (kl : okL l) (hl : l.length ≤ 1000000000) (hN : Ends N l) (hN45 : N ≤ 45) :
  Calls Tryz.prog 73 #[vl] w (SetPost w (makeF l)) := by
 obtain ⟨e, he⟩ := hN.at
 have hO := own_arg hv
 obtain ⟨a, c, rfl, ha⟩ := hv.view
 have hcap : l.length ≤ c := hv.cap
 have HFl := Lib.hid hv.form
 clear hv
 unfold makeF
 go_enter Tryz.func73, Tryz.ntmps73
 go_wp2_with fail
 go_loopw [4, 5] (fun q4 q5 wr => ∃ (k : Nat) (s : List Bx), k ≤ l.length ∧ q5 = .int .i64 k ∧ Hid (makeGo [] (valF l) = makeGo s (valF (l.drop k))) ∧ Hid (vL s) ∧ Hid (EndsAt N e s) ∧ s.length ≤ 4096 ∧ Hid (FormB q4 s) ∧ Hid (NewFrom w q4) ∧ Own [] w [] [] (roS q4 (cellsB s) ++ roS (.slice a l.length c) (cellsB l)) wr) (fun _ q5 _ => l.length - (intOf q5).toNat)
 case atStart => exact ⟨0, [], by omega, rfl, Lib.hid (by rw [List.drop_zero]), Lib.hid (fun b hb => by cases hb), Lib.hid (he.nil), by simp, Lib.hid (.inl ⟨rfl, rfl⟩), Lib.hid (fun g hg => by cases hg), hO.sub (.refl _) (.refl _) (fun q hq => by simpa [roS] using hq)⟩
 case round =>
  clear hO
  obtain ⟨k, s, hk, rfl, HE, HV, HN2, hs, HFm, HNf, hO⟩ := hrel
  by_cases hlt : k < l.length
  ·obtain ⟨g, o, rfl⟩ := ha (by omega)
   have hO2 := hO.sub (S' := ⟨g, o, cellsB l⟩ :: roS u4 (cellsB s)) (.refl _) (.refl _) (fun q hq => (List.mem_cons.1 hq).elim (fun h => List.mem_append_right _ (by rw [h]; exact List.mem_cons_self)) (fun h => List.mem_append_left _ h))
   replace hO := hO2
   clear hO2
   have HOne := Lib.hid (fun (w : World) (c' : Nat) (hc : 1 ≤ c') (h : IsBoxes w (.slice (some ⟨g, o, none⟩) l.length c) l) => h.one hlt c' hc)
   have hdr : l.drop k = l[k] :: l.drop (k + 1) := List.drop_eq_getElem_cons hlt
   have t1 := tk_box l hlt
   have hvv := fun w => rvalid_any l[k] w
   have hok := kl l[k] (List.getElem_mem hlt)
   have hbm := List.getElem_mem hlt
   generalize l[k] = b at *
   cases hb : vld b
   ·rw [hb] at hvv
    have HE2 := Lib.hid (show makeGo [] (valF l) = makeGo s (valF (l.drop (k + 1))) by rw [HE.out, hdr]; unfold valF; rw [List.filter_cons, hb]; rfl)
    have HN3 := HN2
    clear hdr hb HE HN2
    go_wp2_with (first | refine ldN ?_ | (go_at_call 105; refine (hvv _).mono ?_; rintro e wv ⟨rfl, hb⟩; replace hO := hO.call hb; clear hb))
    go_roundw
    case rel => exact ⟨k + 1, s, by omega, by go_num, HE2, HV, HN3, hs, HFm, HNf, hO.sub (.refl _) (.refl _) (fun q hq => (List.mem_append.1 hq).elim (fun h => List.mem_cons_of_mem _ h) (fun h => by obtain rfl := List.mem_singleton.1 h; exact List.mem_cons_self))⟩
    case measure => simp [intOf]; omega
   ·rw [hb] at hvv
    have hE2 : makeGo [] (valF l) = makeGo s (b :: valF (l.drop (k + 1))) := by
     rw [HE.out, hdr]; unfold valF; rw [List.filter_cons, hb]; rfl
    have hvb := vL_one (vB_of hok hb)
    have hcv := (canonF_cn orB 5 0 rfl HV.out hvb).valid rfl
    have heb : EndsAt N e [b] := he.one hbm
    have hen : EndsAt N e (canonF orB 0 5 s [b]) := HN2.out.canon heb
    have h1 : ∀ (v2 : Value) (w : World), IsBoxes w u4 s → IsBoxes w v2 [b] → Calls Tryz.prog 135 #[u4, v2, .int .i64 0, .int .i64 0] w (RetBoxes w (canonF orB 0 5 s [b])) := fun v2 w h1 h2 => rrests_any opr_or 5 0 rfl u4 v2 s [b] w h1 h2 HV.out hvb (by omega) (by simp) (Nat.le_trans (canon_small10 HN2.out.ends heb.ends (by omega)) (by omega))
    rw [makeGo] at hE2
    generalize canonF orB 0 5 s [b] = D at *
    have s3 : IntKind.i64.wrap ((k : Int) + 1) = (k : Int) + 1 := IntWalk.i64_in _ (by omega)
    have HC := Lib.hid hcv
    have HN3 := Lib.hid hen
    clear hdr hb HE HN2 hcv hen hvb
    by_cases hD : D.length ≤ 4096
    ·have hlim : limF D = some D := if_pos hD
     rw [hlim] at hE2
     have HE2 := Lib.hid hE2
     clear hlim hE2
     go_wp2_with (first | refine ldN ?_ | (go_at_call 105; refine (hvv _).mono ?_; rintro e wv ⟨rfl, hb⟩; replace hO := hO.call hb; clear hb) | (go_at_call 135; (with_reducible refine (h1 _ _ (hO.isB HFm.out (fun q hq => List.mem_cons_of_mem _ hq)) (HOne.out _ _ (by omega) (hO.isB HFl.out (fun q hq => by obtain rfl := List.mem_singleton.1 hq; exact List.mem_cons_self)))).mono ?_); rintro e wv ⟨v3, rfl, ⟨hv9, hn9⟩, hb9⟩; have hf3 := hv9.form; have hs9 := hO.keep.size; replace hO := hO.gainB hb9 hv9 hn9; clear hb9 hv9) | (go_at_call 134; refine (limited_yes _ hf3 hD).mono ?_; rintro e _ ⟨rfl, rfl⟩))
     go_roundw
     case rel => exact ⟨k + 1, D, by omega, by go_num, HE2, HC, HN3, hD, Lib.hid hf3, Lib.hid (fun g hg => Nat.le_trans hs9 (hn9 g hg)), hO.sub (.refl _) (.refl _) (fun q hq => (List.mem_append.1 hq).elim (fun h => List.mem_append_left _ h) (fun h => List.mem_append_right _ (by obtain rfl := List.mem_singleton.1 h; exact List.mem_cons_self)))⟩
     case measure => simp [intOf]; omega
    ·have hlim : limF D = none := if_neg hD
     rw [hlim] at hE2
     have HE2 := Lib.hid hE2
     clear hlim hE2
     go_wp2_with (first | refine ldN ?_ | (go_at_call 105; refine (hvv _).mono ?_; rintro e wv ⟨rfl, hb⟩; replace hO := hO.call hb; clear hb) | (go_at_call 135; (with_reducible refine (h1 _ _ (hO.isB HFm.out (fun q hq => List.mem_cons_of_mem _ hq)) (HOne.out _ _ (by omega) (hO.isB HFl.out (fun q hq => by obtain rfl := List.mem_singleton.1 hq; exact List.mem_cons_self)))).mono ?_); rintro e wv ⟨v3, rfl, ⟨hv9, hn9⟩, hb9⟩; have hf3 := hv9.form; replace hO := hO.gainB hb9 hv9 hn9; clear hb9 hv9) | (go_at_call 134; refine (limited_no _ hf3 hD).mono ?_; rintro e _ ⟨rfl, rfl⟩))
     go_ret2
     exact ⟨.slice none 0 0, hO.keep.below, .inr ⟨HE2.out, rfl⟩⟩
  ·obtain rfl : k = l.length := by omega
   have HE2 := Lib.hid (show makeGo [] (valF l) = some s by rw [HE.out, List.drop_length]; rfl)
   clear HE
   go_wp2_with fail
   go_ret2
   exact ⟨_, hO.keep.below, .inl ⟨s, HE2.out, rfl, hO.isB HFm.out (fun q hq => List.mem_append_left _ hq), HNf.out⟩⟩
set_option maxHeartbeats 4000000 in
theorem rValid_any {vl : Value} {l : List Bx} (w : World) (hv : IsBoxes w vl l) (kl : okL l) (hl : l.length ≤ 1000000000000) :
  Calls Tryz.prog 92 #[vl] w fun e w' => e = .returned (.bool (validF l)) ∧ Below w.heap.size w w' := by
 have hO := own_start [] w
 have h0 := fun w hv => rvals_any (vl := vl) (l := l) w hv hl
 obtain ⟨a, c, rfl, ha⟩ := hv.view
 clear ha
 by_cases h1 : l.length ≤ 4096
 ·have g1 : decide ((l.length : Int) ≤ 4096) = true := decide_eq_true (by omega)
  by_cases h2 : (valF l).length = l.length
  ·have kv : vL l := by have := valF_vL kl; rwa [valF_all h2] at this
   have E := Lib.hid (show validF l = dvd 0 5 l by unfold validF; rw [decide_eq_true h1, decide_eq_true h2]; rfl)
   have h3 : ∀ w, IsBoxes w (.slice a l.length c) l → Calls Tryz.prog 156 #[.slice a l.length c, .int .i64 0] w fun e w' => e = .returned (.bool (dvd 0 5 l)) ∧ Below w.heap.size w w' := fun w hv => rcan_any 5 0 rfl _ l w hv (fun h => absurd h (by decide)) kv hl
   have g2 : ((l.length : Int) == (l.length : Int)) = true := by simp
   clear kv
   generalize dvd 0 5 l = D at *
   generalize hV : valF l = V at *
   clear hV
   go_enter Tryz.func92, Tryz.ntmps92
   go_wp2_with (first | (go_at_call 142; (with_reducible refine (h0 _ (hv.keep0 hO)).mono ?_); rintro e wv ⟨v9, rfl, ⟨hv9, hn9⟩, hb9⟩; have hof := hv9.form; replace hO := hO.call hb9; clear hb9 hv9 hn9 h0; obtain ⟨a9, c9, rfl, -⟩ := hof.view; rw [h2]) | (go_at_call 156; refine (h3 _ (hv.keep0 hO)).mono ?_; rintro e wv ⟨rfl, hb⟩; replace hO := hO.call hb; clear hb))
   go_ret
   exact ⟨ret_bool E.out.symm, hO.keep.below⟩
  ·have E := Lib.hid (show validF l = false by unfold validF; rw [decide_eq_false h2, Bool.false_and, Bool.and_false])
   have g2 : (((valF l).length : Int) == (l.length : Int)) = false := by simp; omega
   generalize valF l = V at *
   go_enter Tryz.func92, Tryz.ntmps92
   go_wp2_with (go_at_call 142; (with_reducible refine (h0 _ (hv.keep0 hO)).mono ?_); rintro e wv ⟨v9, rfl, ⟨hv9, hn9⟩, hb9⟩; have hof := hv9.form; replace hO := hO.call hb9; clear hb9 hv9 hn9 h0; obtain ⟨a9, c9, rfl, -⟩ := hof.view)
   go_ret
   exact ⟨ret_bool E.out.symm, hO.keep.below⟩
 ·have g1 : decide ((l.length : Int) ≤ 4096) = false := decide_eq_false (by omega)
  have E := Lib.hid (show validF l = false by unfold validF; rw [decide_eq_false h1]; rfl)
  go_enter Tryz.func92, Tryz.ntmps92
  go_wp2_with fail
  go_ret
  exact ⟨ret_bool E.out.symm, hO.keep.below⟩
def SetPostV (w : World) (vl : Value) (l : List Bx) (r : Option (List Bx)) (e : Ending) (w' : World) : Prop := ∃ v, Below w.heap.size w w' ∧ ((∃ x, r = some x ∧ e = .returned (.tuple #[v, .int .i64 0]) ∧ IsBoxes w' v x ∧ (NewFrom w v ∨ v = vl ∧ x = l)) ∨ (r = none ∧ e = .returned (.tuple #[.slice none 0 0, .int .i64 3])))
theorem SetPostV.yes {w w' : World} {vl : Value} {l x : List Bx} {e : Ending} (h : SetPostV w vl l (some x) e w') : ∃ v, e = .returned (.tuple #[v, .int .i64 0]) ∧ IsBoxes w' v x ∧ (NewFrom w v ∨ v = vl ∧ x = l) ∧ Below w.heap.size w w' := by
 obtain ⟨v, hb, ⟨x', h1, h2, h3, h4⟩ | ⟨h1, _⟩⟩ := h
 ·cases h1; exact ⟨v, h2, h3, h4, hb⟩
 ·cases h1
theorem SetPostV.no {w w' : World} {vl : Value} {l : List Bx} {e : Ending} (h : SetPostV w vl l none e w') : e = .returned (.tuple #[.slice none 0 0, .int .i64 3]) ∧ Below w.heap.size w w' := by
 obtain ⟨v, hb, ⟨l', h1, _⟩ | ⟨_, h1⟩⟩ := h
 ·cases h1
 ·exact ⟨h1, hb⟩
theorem SetPostV.uni {w w' : World} {vl : Value} {l : List Bx} {r : Option (List Bx)} {e : Ending} (h : SetPostV w vl l r e w') : ∃ v, e = .returned (.tuple #[v, .int .i64 (ecd r)]) ∧ IsBoxes w' v (r.getD []) ∧ (NewFrom w v ∨ v = vl ∧ r.getD [] = l) ∧ Below w.heap.size w w' := by
 obtain ⟨v, hb, ⟨x, rfl, h2, h3, h4⟩ | ⟨rfl, h2⟩⟩ := h
 ·exact ⟨v, h2, h3, h4, hb⟩
 ·exact ⟨_, h2, .inl ⟨rfl, rfl⟩, .inl fun g hg => (by cases hg), hb⟩
set_option maxHeartbeats 2000000 in
theorem given_any {vl : Value} {l : List Bx} {N : Nat} (w : World) (hv : IsBoxes w vl l) (kl : okL l) (hl : l.length ≤ 1000000000) (hN : Ends N l) (hN45 : N ≤ 45) :
  Calls Tryz.prog 186 #[vl] w (SetPostV w vl l (setF l)) := by
 have hO := own_start [] w
 have h0 := fun w hv => rValid_any (vl := vl) (l := l) w hv kl (by omega)
 have h1 := fun w hv => rmakeE_any (vl := vl) (l := l) w hv kl hl hN hN45
 unfold setF
 cases hvd : validF l
 ·rw [hvd] at h0
  rw [if_neg Bool.false_ne_true]
  cases hm : makeF l with
  | none =>
   rw [hm] at h1
   go_enter Tryz.func186, Tryz.ntmps186
   go_wp2_with (first | (go_at_call 92; refine (h0 _ (hv.keep0 hO)).mono ?_; rintro e wv ⟨rfl, hb⟩; replace hO := hO.call hb; clear hb) | (go_at_call 73; (with_reducible refine (h1 _ (hv.keep0 hO)).mono ?_); rintro e wv hpo; obtain ⟨rfl, hb9⟩ := hpo.no; replace hO := hO.call hb9; clear hb9 hpo))
   go_ret2
   exact ⟨.slice none 0 0, hO.keep.below, .inr ⟨rfl, rfl⟩⟩
  | some x =>
   rw [hm] at h1
   go_enter Tryz.func186, Tryz.ntmps186
   go_wp2_with (first | (go_at_call 92; refine (h0 _ (hv.keep0 hO)).mono ?_; rintro e wv ⟨rfl, hb⟩; replace hO := hO.call hb; clear hb) | (go_at_call 73; (with_reducible refine (h1 _ (hv.keep0 hO)).mono ?_); rintro e wv hpo; obtain ⟨v3, rfl, hv9, hn9, hb9⟩ := hpo.yes; have hof := hv9.form; have hs9 := hO.keep.size; replace hO := hO.gainB hb9 hv9 hn9; clear hb9 hv9 hpo))
   go_ret2
   exact ⟨v3, hO.keep.below, .inl ⟨x, rfl, rfl, hO.isB hof (fun q hq => List.mem_append_left _ hq), .inl fun g hg => Nat.le_trans hs9 (hn9 g hg)⟩⟩
 ·rw [hvd] at h0
  rw [if_pos rfl]
  go_enter Tryz.func186, Tryz.ntmps186
  go_wp2_with (go_at_call 92; refine (h0 _ (hv.keep0 hO)).mono ?_; rintro e wv ⟨rfl, hb⟩; replace hO := hO.call hb; clear hb)
  go_ret2
  exact ⟨vl, hO.keep.below, .inl ⟨l, rfl, rfl, hv.keep0 hO, .inr ⟨rfl, rfl⟩⟩⟩
end Go.Proofs.YtbdfblgdmappeaaGreatDoor
