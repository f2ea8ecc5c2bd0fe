/- The reference of packet sets: Make, Valid, given, combine, Complement, for lists with few ends. -/
import Derived.Test.YtdfihajngmgigaaDoorNI
import Derived.Test.YtdfihajngmgigaaDoorNG
import Derived.Test.YtdfihajngmgigaaDoorMS
import Derived.Test.YtdfihajngmgigaaDoorMV
import Derived.Test.YtdfihajngmgigaaDoorMB
namespace Go.Proofs.YtdfihajngmgigaaDoor
open Go.RowKit
set_option maxRecDepth 100000
/-- the ends of boxes lie in these lists of at most N numbers -/
def EndsAt (N : Nat) (e : Nat → List Int) (l : List Bx) : Prop := ∀ k, k < 5 → (e k).length ≤ N ∧ EndsIn k (0 :: (topOf k + 1) :: e k) l
theorem Ends.at {N : Nat} {l : List Bx} (h : Ends N l) : ∃ e, EndsAt N e l := by
  have h2 : ∀ k, ∃ e : List Int, k < 5 → e.length ≤ N ∧ EndsIn k (0 :: (topOf k + 1) :: e) l := fun k => by
    by_cases hk : k < 5
    · obtain ⟨e, he⟩ := h k hk; exact ⟨e, fun _ => he⟩
    · exact ⟨[], fun h => absurd h hk⟩
  exact ⟨fun k => Classical.choose (h2 k), fun k hk => Classical.choose_spec (h2 k) hk⟩
theorem EndsAt.ends {N : Nat} {e : Nat → List Int} {l : List Bx} (h : EndsAt N e l) : Ends N l := fun k hk => ⟨e k, (h k hk).1, (h k hk).2⟩
theorem EndsAt.nil {N : Nat} {e : Nat → List Int} {l : List Bx} (h : EndsAt N e l) : EndsAt N e [] := fun k hk => ⟨(h k hk).1, fun b hb => by cases hb⟩
theorem EndsAt.one {N : Nat} {e : Nat → List Int} {l : List Bx} (h : EndsAt N e l) {b : Bx} (hb : b ∈ l) : EndsAt N e [b] := fun k hk => ⟨(h k hk).1, fun c hc => by rw [List.mem_singleton.1 hc]; exact (h k hk).2 b hb⟩
theorem EndsAt.canon {op : Bool → Bool → Bool} {N : Nat} {e : Nat → List Int} {a b : List Bx} (ha : EndsAt N e a) (hb : EndsAt N e b) : EndsAt N e (canonF op 0 5 a b) := fun k hk => ⟨(ha k hk).1, canonF_ends op hk (by simp) (by simp) 5 0 rfl (Nat.zero_le _) (ha k hk).2 (hb k hk).2⟩
theorem EndsAt.make {N : Nat} {e : Nat → List Int} : ∀ {l s r : List Bx}, EndsAt N e s → EndsAt N e l → makeGo s l = some r → EndsAt N e r
  | [], s, r, hs, _, h => by cases h; exact hs
  | b :: l, s, r, hs, hl, h => by
    rw [makeGo] at h
    cases hc : limF (canonF orB 0 5 s [b]) with
    | none => rw [hc] at h; cases h
    | some t =>
      rw [hc] at h
      obtain ⟨_, rfl⟩ := limF_some.1 hc
      exact EndsAt.make (hs.canon (hl.one (by simp))) (fun k hk => ⟨(hl k hk).1, fun c hc => (hl k hk).2 c (by simp [hc])⟩) h
/-- what setF gives has the ends of the list -/
theorem setF_ends {N : Nat} {l x : List Bx} (h : Ends N l) (hx : setF l = some x) : Ends N x := by
  obtain ⟨e, he⟩ := h.at
  unfold setF at hx
  split at hx
  · cases hx; exact h
  · exact (EndsAt.make he.nil (fun k hk => ⟨(he k hk).1, fun c hc => (he k hk).2 c (List.mem_filter.1 hc).1⟩) hx).ends
set_option maxHeartbeats 8000000 in
theorem rmakeE_any {vl : Value} {l : List Bx} {N : Nat} (w : World) (hv : IsBoxes w vl l) (kl : okL l) (hl : l.length ≤ 1000000000) (hN : Ends N l) (hN45 : N ≤ 45) :
    Calls Tryd.prog 63 #[vl] w (SetPost w (makeF l)) := by
  obtain ⟨e, he⟩ := hN.at
  have hO := own_arg hv
  obtain ⟨a, c, rfl, ha⟩ := hv.view
  have hcap : l.length ≤ c := hv.cap
  have HFl := Lib.hid hv.form
  clear hv
  unfold makeF
  go_enter Tryd.func63, Tryd.ntmps63
  go_wp2_with (first | ((with_reducible refine is_load ?_); refine own_ld (h := ?_)) | ((with_reducible refine is_store ?_); (first | refine own_stR (hO := hO) (h := ?_) | refine own_st1 (hO := hO) (h := ?_)); clear hO; intro wv hO))
  go_loopw [4, 5] (fun q4 q5 wr => ∃ (k : Nat) (s : List Bx), k ≤ l.length ∧ q5 = .int .i64 k ∧ Hid (makeGo [] (valF l) = makeGo s (valF (l.drop k))) ∧ Hid (vL s) ∧ Hid (EndsAt N e s) ∧ s.length ≤ 4096 ∧ Hid (FormB q4 s) ∧ Hid (NewFrom w q4) ∧ Own [] w [] [] (roS q4 (cellsB s) ++ roS (.slice a l.length c) (cellsB l)) wr) (fun _ q5 _ => l.length - (intOf q5).toNat)
  case atStart => exact ⟨0, [], by omega, rfl, Lib.hid (by rw [List.drop_zero]), Lib.hid (fun b hb => by cases hb), Lib.hid (he.nil), by simp, Lib.hid (.inl ⟨rfl, rfl⟩), Lib.hid (fun g hg => by cases hg), hO.sub (.refl _) (.refl _) (fun q hq => by simpa [roS] using hq)⟩
  case round =>
    clear hO
    obtain ⟨k, s, hk, rfl, HE, HV, HN2, hs, HFm, HNf, hO⟩ := hrel
    by_cases hlt : k < l.length
    · obtain ⟨g, o, rfl⟩ := ha (by omega)
      have hO2 := hO.sub (S' := ⟨g, o, cellsB l⟩ :: roS u4 (cellsB s)) (.refl _) (.refl _) (fun q hq => (List.mem_cons.1 hq).elim (fun h => List.mem_append_right _ (by rw [h]; exact List.mem_cons_self)) (fun h => List.mem_append_left _ h))
      replace hO := hO2
      clear hO2
      have HOne := Lib.hid (fun (w : World) (c' : Nat) (hc : 1 ≤ c') (h : IsBoxes w (.slice (some ⟨g, o, none⟩) l.length c) l) => h.one hlt c' hc)
      have hdr : l.drop k = l[k] :: l.drop (k + 1) := List.drop_eq_getElem_cons hlt
      have t1 := tk_box l hlt
      have hvv := fun w => rvalid_any l[k] w
      have hok := kl l[k] (List.getElem_mem hlt)
      have hbm := List.getElem_mem hlt
      generalize l[k] = b at *
      cases hb : vld b
      · rw [hb] at hvv
        have HE2 := Lib.hid (show makeGo [] (valF l) = makeGo s (valF (l.drop (k + 1))) by rw [HE.out, hdr]; unfold valF; rw [List.filter_cons, hb]; rfl)
        have HN3 := HN2
        clear hdr hb HE HN2
        go_wp2_with (first | ((with_reducible refine is_load ?_); refine own_ld (h := ?_)) | ((with_reducible refine is_store ?_); (first | refine own_stR (hO := hO) (h := ?_) | refine own_st1 (hO := hO) (h := ?_)); clear hO; intro wv hO) | (go_at_call 40; refine (hvv _).mono ?_; rintro e wv ⟨rfl, hb⟩; replace hO := hO.call hb; clear hb))
        go_roundw
        case rel => exact ⟨k + 1, s, by omega, by go_num, HE2, HV, HN3, hs, HFm, HNf, hO.sub (.refl _) (.refl _) (fun q hq => (List.mem_append.1 hq).elim (fun h => List.mem_cons_of_mem _ h) (fun h => by obtain rfl := List.mem_singleton.1 h; exact List.mem_cons_self))⟩
        case measure => simp [intOf]; omega
      · rw [hb] at hvv
        have hE2 : makeGo [] (valF l) = makeGo s (b :: valF (l.drop (k + 1))) := by
          rw [HE.out, hdr]; unfold valF; rw [List.filter_cons, hb]; rfl
        have hvb := vL_one (vB_of hok hb)
        have hcv := (canonF_cn orB 5 0 rfl HV.out hvb).valid rfl
        have heb : EndsAt N e [b] := he.one hbm
        have hen : EndsAt N e (canonF orB 0 5 s [b]) := HN2.out.canon heb
        have h1 : ∀ (v2 : Value) (w : World), IsBoxes w u4 s → IsBoxes w v2 [b] → Calls Tryd.prog 70 #[u4, v2, .int .i64 0, .int .i64 0] w (RetBoxes w (canonF orB 0 5 s [b])) := fun v2 w h1 h2 => rrests_any opr_or 5 0 rfl u4 v2 s [b] w h1 h2 HV.out hvb (by omega) (by simp) (Nat.le_trans (canon_small10 HN2.out.ends heb.ends (by omega)) (by omega))
        rw [makeGo] at hE2
        generalize canonF orB 0 5 s [b] = D at *
        have s3 : IntKind.i64.wrap ((k : Int) + 1) = (k : Int) + 1 := IntWalk.i64_in _ (by omega)
        have HC := Lib.hid hcv
        have HN3 := Lib.hid hen
        clear hdr hb HE HN2 hcv hen hvb
        by_cases hD : D.length ≤ 4096
        · have hlim : limF D = some D := if_pos hD
          rw [hlim] at hE2
          have HE2 := Lib.hid hE2
          clear hlim hE2
          go_wp2_with (first | ((with_reducible refine is_load ?_); refine own_ld (h := ?_)) | ((with_reducible refine is_store ?_); (first | refine own_stR (hO := hO) (h := ?_) | refine own_st1 (hO := hO) (h := ?_)); clear hO; intro wv hO) | (go_at_call 40; refine (hvv _).mono ?_; rintro e wv ⟨rfl, hb⟩; replace hO := hO.call hb; clear hb) | (go_at_call 70; (with_reducible refine (h1 _ _ (hO.isB HFm.out (fun q hq => List.mem_cons_of_mem _ hq)) (HOne.out _ _ (by omega) (hO.isB HFl.out (fun q hq => by obtain rfl := List.mem_singleton.1 hq; exact List.mem_cons_self)))).mono ?_); rintro e wv ⟨v3, rfl, ⟨hv9, hn9⟩, hb9⟩; have hf3 := hv9.form; have hs9 := hO.keep.size; replace hO := hO.gainB hb9 hv9 hn9; clear hb9 hv9) | (go_at_call 90; refine (limited_yes _ hf3 hD).mono ?_; rintro e _ ⟨rfl, rfl⟩))
          go_roundw
          case rel => exact ⟨k + 1, D, by omega, by go_num, HE2, HC, HN3, hD, Lib.hid hf3, Lib.hid (fun g hg => Nat.le_trans hs9 (hn9 g hg)), hO.sub (.refl _) (.refl _) (fun q hq => (List.mem_append.1 hq).elim (fun h => List.mem_append_left _ h) (fun h => List.mem_append_right _ (by obtain rfl := List.mem_singleton.1 h; exact List.mem_cons_self)))⟩
          case measure => simp [intOf]; omega
        · have hlim : limF D = none := if_neg hD
          rw [hlim] at hE2
          have HE2 := Lib.hid hE2
          clear hlim hE2
          go_wp2_with (first | ((with_reducible refine is_load ?_); refine own_ld (h := ?_)) | ((with_reducible refine is_store ?_); (first | refine own_stR (hO := hO) (h := ?_) | refine own_st1 (hO := hO) (h := ?_)); clear hO; intro wv hO) | (go_at_call 40; refine (hvv _).mono ?_; rintro e wv ⟨rfl, hb⟩; replace hO := hO.call hb; clear hb) | (go_at_call 70; (with_reducible refine (h1 _ _ (hO.isB HFm.out (fun q hq => List.mem_cons_of_mem _ hq)) (HOne.out _ _ (by omega) (hO.isB HFl.out (fun q hq => by obtain rfl := List.mem_singleton.1 hq; exact List.mem_cons_self)))).mono ?_); rintro e wv ⟨v3, rfl, ⟨hv9, hn9⟩, hb9⟩; have hf3 := hv9.form; replace hO := hO.gainB hb9 hv9 hn9; clear hb9 hv9) | (go_at_call 90; refine (limited_no _ hf3 hD).mono ?_; rintro e _ ⟨rfl, rfl⟩))
          go_ret2
          exact ⟨.slice none 0 0, hO.keep.below, .inr ⟨HE2.out, rfl⟩⟩
    · obtain rfl : k = l.length := by omega
      have HE2 := Lib.hid (show makeGo [] (valF l) = some s by rw [HE.out, List.drop_length]; rfl)
      clear HE
      go_wp2_with (first | ((with_reducible refine is_load ?_); refine own_ld (h := ?_)) | ((with_reducible refine is_store ?_); (first | refine own_stR (hO := hO) (h := ?_) | refine own_st1 (hO := hO) (h := ?_)); clear hO; intro wv hO))
      go_ret2
      exact ⟨_, hO.keep.below, .inl ⟨s, HE2.out, rfl, hO.isB HFm.out (fun q hq => List.mem_append_left _ hq), HNf.out⟩⟩
set_option maxHeartbeats 4000000 in
theorem rValid_any {vl : Value} {l : List Bx} (w : World) (hv : IsBoxes w vl l) (kl : okL l) (hl : l.length ≤ 1000000000000) :
    Calls Tryd.prog 106 #[vl] w fun e w' => e = .returned (.bool (validF l)) ∧ Below w.heap.size w w' := by
  have hO := own_start [] w
  have h0 := fun w hv => rvals_any (vl := vl) (l := l) w hv hl
  obtain ⟨a, c, rfl, ha⟩ := hv.view
  clear ha
  by_cases h1 : l.length ≤ 4096
  · have g1 : decide ((l.length : Int) ≤ 4096) = true := decide_eq_true (by omega)
    by_cases h2 : (valF l).length = l.length
    · have kv : vL l := by have := valF_vL kl; rwa [valF_all h2] at this
      have E := Lib.hid (show validF l = dvd 0 5 l by unfold validF; rw [decide_eq_true h1, decide_eq_true h2]; rfl)
      have h3 : ∀ w, IsBoxes w (.slice a l.length c) l → Calls Tryd.prog 115 #[.slice a l.length c, .int .i64 0] w fun e w' => e = .returned (.bool (dvd 0 5 l)) ∧ Below w.heap.size w w' := fun w hv => rcan_any 5 0 rfl _ l w hv (fun h => absurd h (by decide)) kv hl
      have g2 : ((l.length : Int) == (l.length : Int)) = true := by simp
      clear kv
      generalize dvd 0 5 l = D at *
      generalize hV : valF l = V at *
      clear hV
      go_enter Tryd.func106, Tryd.ntmps106
      go_wp2_with (first | ((with_reducible refine is_load ?_); refine own_ld (h := ?_)) | ((with_reducible refine is_store ?_); (first | refine own_stR (hO := hO) (h := ?_) | refine own_st1 (hO := hO) (h := ?_)); clear hO; intro wv hO) | (go_at_call 71; (with_reducible refine (h0 _ (hv.keep0 hO)).mono ?_); rintro e wv ⟨v9, rfl, ⟨hv9, hn9⟩, hb9⟩; have hof := hv9.form; replace hO := hO.call hb9; clear hb9 hv9 hn9 h0; obtain ⟨a9, c9, rfl, -⟩ := hof.view; rw [h2]) | (go_at_call 115; refine (h3 _ (hv.keep0 hO)).mono ?_; rintro e wv ⟨rfl, hb⟩; replace hO := hO.call hb; clear hb))
      go_ret
      exact ⟨ret_bool E.out.symm, hO.keep.below⟩
    · have E := Lib.hid (show validF l = false by unfold validF; rw [decide_eq_false h2, Bool.false_and, Bool.and_false])
      have g2 : (((valF l).length : Int) == (l.length : Int)) = false := by simp; omega
      generalize valF l = V at *
      go_enter Tryd.func106, Tryd.ntmps106
      go_wp2_with (first | ((with_reducible refine is_load ?_); refine own_ld (h := ?_)) | ((with_reducible refine is_store ?_); (first | refine own_stR (hO := hO) (h := ?_) | refine own_st1 (hO := hO) (h := ?_)); clear hO; intro wv hO) | (go_at_call 71; (with_reducible refine (h0 _ (hv.keep0 hO)).mono ?_); rintro e wv ⟨v9, rfl, ⟨hv9, hn9⟩, hb9⟩; have hof := hv9.form; replace hO := hO.call hb9; clear hb9 hv9 hn9 h0; obtain ⟨a9, c9, rfl, -⟩ := hof.view))
      go_ret
      exact ⟨ret_bool E.out.symm, hO.keep.below⟩
  · have g1 : decide ((l.length : Int) ≤ 4096) = false := decide_eq_false (by omega)
    have E := Lib.hid (show validF l = false by unfold validF; rw [decide_eq_false h1]; rfl)
    go_enter Tryd.func106, Tryd.ntmps106
    go_wp2_with (first | ((with_reducible refine is_load ?_); refine own_ld (h := ?_)) | ((with_reducible refine is_store ?_); (first | refine own_stR (hO := hO) (h := ?_) | refine own_st1 (hO := hO) (h := ?_)); clear hO; intro wv hO))
    go_ret
    exact ⟨ret_bool E.out.symm, hO.keep.below⟩
/-- a set that is new, or the list that came in -/
def SetPostV (w : World) (vl : Value) (l : List Bx) (r : Option (List Bx)) (e : Ending) (w' : World) : Prop := ∃ v, Below w.heap.size w w' ∧ ((∃ x, r = some x ∧ e = .returned (.tuple #[v, .int .i64 0]) ∧ IsBoxes w' v x ∧ (NewFrom w v ∨ v = vl ∧ x = l)) ∨ (r = none ∧ e = .returned (.tuple #[.slice none 0 0, .int .i64 3])))
theorem SetPostV.yes {w w' : World} {vl : Value} {l x : List Bx} {e : Ending} (h : SetPostV w vl l (some x) e w') : ∃ v, e = .returned (.tuple #[v, .int .i64 0]) ∧ IsBoxes w' v x ∧ (NewFrom w v ∨ v = vl ∧ x = l) ∧ Below w.heap.size w w' := by
  obtain ⟨v, hb, ⟨x', h1, h2, h3, h4⟩ | ⟨h1, _⟩⟩ := h
  · cases h1; exact ⟨v, h2, h3, h4, hb⟩
  · cases h1
theorem SetPostV.no {w w' : World} {vl : Value} {l : List Bx} {e : Ending} (h : SetPostV w vl l none e w') : e = .returned (.tuple #[.slice none 0 0, .int .i64 3]) ∧ Below w.heap.size w w' := by
  obtain ⟨v, hb, ⟨l', h1, _⟩ | ⟨_, h1⟩⟩ := h
  · cases h1
  · exact ⟨h1, hb⟩
theorem SetPostV.uni {w w' : World} {vl : Value} {l : List Bx} {r : Option (List Bx)} {e : Ending} (h : SetPostV w vl l r e w') : ∃ v, e = .returned (.tuple #[v, .int .i64 (ecd r)]) ∧ IsBoxes w' v (r.getD []) ∧ (NewFrom w v ∨ v = vl ∧ r.getD [] = l) ∧ Below w.heap.size w w' := by
  obtain ⟨v, hb, ⟨x, rfl, h2, h3, h4⟩ | ⟨rfl, h2⟩⟩ := h
  · exact ⟨v, h2, h3, h4, hb⟩
  · exact ⟨_, h2, .inl ⟨rfl, rfl⟩, .inl fun g hg => (by cases hg), hb⟩
set_option maxHeartbeats 2000000 in
theorem given_any {vl : Value} {l : List Bx} {N : Nat} (w : World) (hv : IsBoxes w vl l) (kl : okL l) (hl : l.length ≤ 1000000000) (hN : Ends N l) (hN45 : N ≤ 45) :
    Calls Tryd.prog 91 #[vl] w (SetPostV w vl l (setF l)) := by
  have hO := own_start [] w
  have h0 := fun w hv => rValid_any (vl := vl) (l := l) w hv kl (by omega)
  have h1 := fun w hv => rmakeE_any (vl := vl) (l := l) w hv kl hl hN hN45
  unfold setF
  cases hvd : validF l
  · rw [hvd] at h0
    rw [if_neg Bool.false_ne_true]
    cases hm : makeF l with
    | none =>
      rw [hm] at h1
      go_enter Tryd.func91, Tryd.ntmps91
      go_wp2_with (first | ((with_reducible refine is_load ?_); refine own_ld (h := ?_)) | ((with_reducible refine is_store ?_); (first | refine own_stR (hO := hO) (h := ?_) | refine own_st1 (hO := hO) (h := ?_)); clear hO; intro wv hO) | (go_at_call 106; refine (h0 _ (hv.keep0 hO)).mono ?_; rintro e wv ⟨rfl, hb⟩; replace hO := hO.call hb; clear hb) | (go_at_call 63; (with_reducible refine (h1 _ (hv.keep0 hO)).mono ?_); rintro e wv hpo; obtain ⟨rfl, hb9⟩ := hpo.no; replace hO := hO.call hb9; clear hb9 hpo))
      go_ret2
      exact ⟨.slice none 0 0, hO.keep.below, .inr ⟨rfl, rfl⟩⟩
    | some x =>
      rw [hm] at h1
      go_enter Tryd.func91, Tryd.ntmps91
      go_wp2_with (first | ((with_reducible refine is_load ?_); refine own_ld (h := ?_)) | ((with_reducible refine is_store ?_); (first | refine own_stR (hO := hO) (h := ?_) | refine own_st1 (hO := hO) (h := ?_)); clear hO; intro wv hO) | (go_at_call 106; refine (h0 _ (hv.keep0 hO)).mono ?_; rintro e wv ⟨rfl, hb⟩; replace hO := hO.call hb; clear hb) | (go_at_call 63; (with_reducible refine (h1 _ (hv.keep0 hO)).mono ?_); rintro e wv hpo; obtain ⟨v3, rfl, hv9, hn9, hb9⟩ := hpo.yes; have hof := hv9.form; have hs9 := hO.keep.size; replace hO := hO.gainB hb9 hv9 hn9; clear hb9 hv9 hpo))
      go_ret2
      exact ⟨v3, hO.keep.below, .inl ⟨x, rfl, rfl, hO.isB hof (fun q hq => List.mem_append_left _ hq), .inl fun g hg => Nat.le_trans hs9 (hn9 g hg)⟩⟩
  · rw [hvd] at h0
    rw [if_pos rfl]
    go_enter Tryd.func91, Tryd.ntmps91
    go_wp2_with (first | ((with_reducible refine is_load ?_); refine own_ld (h := ?_)) | ((with_reducible refine is_store ?_); (first | refine own_stR (hO := hO) (h := ?_) | refine own_st1 (hO := hO) (h := ?_)); clear hO; intro wv hO) | (go_at_call 106; refine (h0 _ (hv.keep0 hO)).mono ?_; rintro e wv ⟨rfl, hb⟩; replace hO := hO.call hb; clear hb))
    go_ret2
    exact ⟨vl, hO.keep.below, .inl ⟨l, rfl, rfl, hv.keep0 hO, .inr ⟨rfl, rfl⟩⟩⟩
end Go.Proofs.YtdfihajngmgigaaDoor

/- The reference of packet sets: Complement. -/
namespace Go.Proofs.YtdfihajngmgigaaDoor
open Go.RowKit
set_option maxRecDepth 100000
set_option maxHeartbeats 4000000 in
theorem rcompl_any {vl : Value} {l : List Bx} {N : Nat} (w : World) (hv : IsBoxes w vl l) (kl : okL l) (hl : l.length ≤ 1000000000) (hN : Ends N l) (hN45 : N ≤ 45) :
    Calls Tryd.prog 64 #[vl] w (SetPost w (ofF exB [fullBx] l)) := by
  have hO := own_start [] w
  have h0 := fun w hv => given_any (vl := vl) (l := l) w hv kl hl hN hN45
  have hfull := rfull_any
  unfold ofF
  rw [IsSet.full.setF]
  dsimp only
  cases hx : setF l with
  | none =>
    rw [hx] at h0
    go_enter Tryd.func64, Tryd.ntmps64
    go_wp2_with (first | ((with_reducible refine is_load ?_); refine own_ld (h := ?_)) | ((with_reducible refine is_store ?_); (first | refine own_stR (hO := hO) (h := ?_) | refine own_st1 (hO := hO) (h := ?_)); clear hO; intro wv hO) | ((with_reducible refine is_build ?_); (first | (refine' own_build1 (o := ⟨some 15, _, _, _, _, _⟩) hO (by rfl) rfl rfl ?hu ?hf ?_; (case hu => (first | exact Tryd.underlying29 | exact und_Set | exact und_Groups | exact und_Ranges)); (case hf => kernel_rfl); clear hO; intro n15 wv hO))) | (go_at_call 91; (with_reducible refine (h0 _ (hv.keep0 hO)).mono ?_); rintro e wv hpo; obtain ⟨rfl, hb9⟩ := hpo.no; replace hO := hO.call hb9; clear hb9 hpo))
    go_ret2
    exact ⟨.slice none 0 0, hO.keep.below, .inr ⟨rfl, rfl⟩⟩
  | some x =>
    rw [hx] at h0
    obtain ⟨x1, x2, _, _⟩ := setF_ok kl hx
    have xE := setF_ends hN hx
    have hD := canon_small10 (op := exB) (ends_len [fullBx]) xE (by simp; omega)
    have h1 : ∀ (v1 v2 : Value) (w : World), IsBoxes w v1 [fullBx] → IsBoxes w v2 x → Calls Tryd.prog 70 #[v1, v2, .int .i64 2, .int .i64 0] w (RetBoxes w (canonF exB 0 5 [fullBx] x)) := fun v1 v2 w h1 h2 => rrests_any opr_ex 5 0 rfl v1 v2 [fullBx] x w h1 h2 IsSet.full.1 x1 (by simp) (by omega) (by omega)
    dsimp only
    clear hx xE x1
    generalize canonF exB 0 5 [fullBx] x = D at *
    generalize fullBx = bF at *
    by_cases hlim : D.length ≤ 4096
    · have e : limF D = some D := if_pos hlim
      rw [e]
      go_enter Tryd.func64, Tryd.ntmps64
      go_wp2_with (first | ((with_reducible refine is_load ?_); refine own_ld (h := ?_)) | ((with_reducible refine is_store ?_); (first | refine own_stR (hO := hO) (h := ?_) | refine own_st1 (hO := hO) (h := ?_)); clear hO; intro wv hO) | ((with_reducible refine is_build ?_); (first | (refine' own_build1 (o := ⟨some 15, _, _, _, _, _⟩) hO (by rfl) rfl rfl ?hu ?hf ?_; (case hu => (first | exact Tryd.underlying29 | exact und_Set | exact und_Groups | exact und_Ranges)); (case hf => kernel_rfl); clear hO; intro n15 wv hO))) | (go_at_call 91; (with_reducible refine (h0 _ (hv.keep0 hO)).mono ?_); rintro e wv hpo; obtain ⟨v8, rfl, hv9, -, hb9⟩ := hpo.yes; have hf8 := hv9.form; replace hO := hO.gainAny hb9 hv9; clear hb9 hv9 hpo) | (go_at_call 39; refine (hfull _).mono ?_; rintro e wv ⟨rfl, hb⟩; replace hO := hO.call hb; clear hb) | (go_at_call 70; (with_reducible refine (h1 _ _ _ (one_boxesC hO List.mem_cons_self) (hO.isB hf8 (fun q hq => List.mem_append_left _ hq))).mono ?_); rintro e wv ⟨v3, rfl, ⟨hv9, hn9⟩, hb9⟩; have hf3 := hv9.form; have hs9 := hO.keep.size; replace hO := hO.gainB hb9 hv9 hn9; clear hb9 hv9) | (go_at_call 90; refine (limited_yes _ hf3 hlim).mono ?_; rintro e _ ⟨rfl, rfl⟩))
      go_ret2
      exact ⟨v3, hO.keep.below, .inl ⟨D, rfl, rfl, hO.isB hf3 (fun q hq => List.mem_append_left _ hq), fun g hg => Nat.le_trans hs9 (hn9 g hg)⟩⟩
    · have e : limF D = none := if_neg hlim
      rw [e]
      go_enter Tryd.func64, Tryd.ntmps64
      go_wp2_with (first | ((with_reducible refine is_load ?_); refine own_ld (h := ?_)) | ((with_reducible refine is_store ?_); (first | refine own_stR (hO := hO) (h := ?_) | refine own_st1 (hO := hO) (h := ?_)); clear hO; intro wv hO) | ((with_reducible refine is_build ?_); (first | (refine' own_build1 (o := ⟨some 15, _, _, _, _, _⟩) hO (by rfl) rfl rfl ?hu ?hf ?_; (case hu => (first | exact Tryd.underlying29 | exact und_Set | exact und_Groups | exact und_Ranges)); (case hf => kernel_rfl); clear hO; intro n15 wv hO))) | (go_at_call 91; (with_reducible refine (h0 _ (hv.keep0 hO)).mono ?_); rintro e wv hpo; obtain ⟨v8, rfl, hv9, -, hb9⟩ := hpo.yes; have hf8 := hv9.form; replace hO := hO.gainAny hb9 hv9; clear hb9 hv9 hpo) | (go_at_call 39; refine (hfull _).mono ?_; rintro e wv ⟨rfl, hb⟩; replace hO := hO.call hb; clear hb) | (go_at_call 70; (with_reducible refine (h1 _ _ _ (one_boxesC hO List.mem_cons_self) (hO.isB hf8 (fun q hq => List.mem_append_left _ hq))).mono ?_); rintro e wv ⟨v3, rfl, ⟨hv9, hn9⟩, hb9⟩; have hf3 := hv9.form; replace hO := hO.gainB hb9 hv9 hn9; clear hb9 hv9) | (go_at_call 90; refine (limited_no _ hf3 hlim).mono ?_; rintro e _ ⟨rfl, rfl⟩))
      go_ret2
      exact ⟨.slice none 0 0, hO.keep.below, .inr ⟨rfl, rfl⟩⟩
end Go.Proofs.YtdfihajngmgigaaDoor

/- The reference of packet sets: Free. -/
namespace Go.Proofs.YtdfihajngmgigaaDoor
open Go.RowKit
set_option maxRecDepth 100000
/-- a box whose field is free -/
def wideB (k : Nat) (b : Bx) : Bx := b.set k (fullBx.at k)
def freeF (l : List Bx) (f : Int) : Option (List Bx) := match setF l with
  | none => none
  | some x => if 0 ≤ f ∧ f < 5 then limF (canonF orB 0 5 (x.map (wideB f.toNat)) []) else some x
theorem full_at {k : Nat} (hk : k < 5) : fullBx.at k = ⟨0, topOf k⟩ := Bx.at_of _ hk
theorem wide_vL {k : Nat} (hk : k < 5) {x : List Bx} (h : vL x) : vL (x.map (wideB k)) := fun b hb j hj => by
  obtain ⟨c, hc, rfl⟩ := List.mem_map.1 hb
  unfold wideB
  rw [Bx.at_set _ _ _ hj]
  split
  · subst j; rw [full_at hk]; have := topPos k; dsimp only; omega
  · exact h c hc j hj
theorem wide_ends {k : Nat} (hk : k < 5) {N : Nat} {x : List Bx} (h : Ends N x) : Ends N (x.map (wideB k)) := fun j hj => by
  obtain ⟨e, h1, h2⟩ := h j hj
  refine ⟨e, h1, fun b hb => ?_⟩
  obtain ⟨c, hc, rfl⟩ := List.mem_map.1 hb
  unfold wideB
  rw [Bx.at_set _ _ _ hj]
  split
  · subst j; rw [full_at hk]; simp
  · exact h2 c hc
theorem idx_box (b : Bx) {k : Nat} (h : k < 5) (w : World) : Sem.run Tryd.prog (Instr.index 66 (.agg (bcs b).toArray) (.int .i64 k)) w = .ok (.agg #[.int .u32 (b.at k).lo, .int .u32 (b.at k).hi]) w := by
  rcases five h with rfl | rfl | rfl | rfl | rfl <;> rfl
set_option maxHeartbeats 8000000 in
theorem rfree_any {vl : Value} {l : List Bx} {N : Nat} (f : Int) (w : World) (hv : IsBoxes w vl l) (kl : okL l) (hl : l.length ≤ 1000000000) (hN : Ends N l) (hN45 : N ≤ 45) :
    Calls Tryd.prog 65 #[vl, .int .i64 f] w (SetPostV w vl l (freeF l f)) := by
  have hO := own_start [] w
  have h0 := fun w hv => given_any (vl := vl) (l := l) w hv kl hl hN hN45
  have hfull := rfull_any
  unfold freeF
  cases hx : setF l with
  | none =>
    rw [hx] at h0
    go_enter Tryd.func65, Tryd.ntmps65
    go_wp2_with (first | ((with_reducible refine is_load ?_); refine own_ld (h := ?_)) | ((with_reducible refine is_store ?_); (first | refine own_stR (hO := hO) (h := ?_) | refine own_st1 (hO := hO) (h := ?_)); clear hO; intro wv hO) | ((with_reducible refine is_alloc ?_); (first | (refine own_al (o := ⟨some 10, _, _, _, _, _⟩) (hO := hO) (h := ?_); clear hO; intro n10 wv hO))) | ((with_reducible refine is_build ?_); (first | (refine' own_build1 (o := ⟨some 45, _, _, _, _, _⟩) hO (by rfl) rfl rfl ?hu ?hf ?_; (case hu => (first | exact Tryd.underlying29 | exact und_Set | exact und_Groups | exact und_Ranges)); (case hf => kernel_rfl); clear hO; intro n45 wv hO))) | ((with_reducible refine is_append ?_); (first | (refine own_ap (o := ⟨some 46, _, _, _, _, _⟩) (hO := hO) (h := ?_); clear hO; intro g46 c46 wv hO))) | (go_at_call 91; (with_reducible refine (h0 _ (hv.keep0 hO)).mono ?_); rintro e wv hpo; obtain ⟨rfl, hb9⟩ := hpo.no; replace hO := hO.call hb9; clear hb9 hpo))
    go_ret2
    exact ⟨.slice none 0 0, hO.keep.below, .inr ⟨rfl, rfl⟩⟩
  | some x =>
    rw [hx] at h0
    obtain ⟨x1, x2, _, _⟩ := setF_ok kl hx
    have xE := setF_ends hN hx
    dsimp only
    by_cases hr : 0 ≤ f ∧ f < 5
    · rw [if_pos hr]
      obtain ⟨k, rfl, hk⟩ := nat_of hr.1 hr.2
      rw [Int.toNat_natCast]
      have hD := canon_small10 (op := orB) (wide_ends hk xE) (ends_len []) (by simp; omega)
      have hw := wide_vL hk x1
      have hcan := fun v w hv => rcanonG_any (vl := v) (l := x.map (wideB k)) w hv hw.okL (by simp; omega) (by rw [valF_id hw]; omega)
      rw [valF_id hw] at hcan
      have y1 : (0 : Int) ≤ (k : Int) := by omega
      have y2 : (k : Int) < 5 := by omega
      have g1 : decide ((k : Int) < 0) = false := decide_eq_false (by omega)
      have g2 : decide (5 ≤ (k : Int)) = false := decide_eq_false (by omega)
      have hix := idx_box fullBx hk
      have hW : ∀ b : Bx, wideB k b = b.set k ⟨(fullBx.at k).lo, (fullBx.at k).hi⟩ := fun _ => rfl
      have HW := Lib.hid hW
      have HL := Lib.hid (fun (i : Nat) (h : i < x.length) => show (x.take (i + 1)).map (wideB k) = (x.take i).map (wideB k) ++ [x[i].set k ⟨(fullBx.at k).lo, (fullBx.at k).hi⟩] by rw [List.take_succ_eq_append_getElem h, List.map_append]; rfl)
      clear hx xE x1 hw hW hr
      generalize canonF orB 0 5 (x.map (wideB k)) [] = D at *
      generalize fullBx = bF at *
      go_enter Tryd.func65, Tryd.ntmps65
      go_wp2_with (first | ((with_reducible refine is_load ?_); refine own_ld (h := ?_)) | ((with_reducible refine is_store ?_); (first | refine own_stR (hO := hO) (h := ?_) | refine own_st1 (hO := hO) (h := ?_)); clear hO; intro wv hO) | ((with_reducible refine is_alloc ?_); (first | (refine own_al (o := ⟨some 10, _, _, _, _, _⟩) (hO := hO) (h := ?_); clear hO; intro n10 wv hO))) | ((with_reducible refine is_build ?_); (first | (refine' own_build1 (o := ⟨some 45, _, _, _, _, _⟩) hO (by rfl) rfl rfl ?hu ?hf ?_; (case hu => (first | exact Tryd.underlying29 | exact und_Set | exact und_Groups | exact und_Ranges)); (case hf => kernel_rfl); clear hO; intro n45 wv hO))) | ((with_reducible refine is_append ?_); (first | (refine own_ap (o := ⟨some 46, _, _, _, _, _⟩) (hO := hO) (h := ?_); clear hO; intro g46 c46 wv hO))) | (go_at_call 91; (with_reducible refine (h0 _ (hv.keep0 hO)).mono ?_); rintro e wv hpo; obtain ⟨v8, rfl, hv9, -, hb9⟩ := hpo.yes; have hf8 := hv9.form; replace hO := hO.gainAny hb9 hv9; clear hb9 hv9 hpo; obtain ⟨a8, c8, rfl, ha8⟩ := hf8.view))
      replace hO := hO.nilRow 66 10
      go_loopw [8, 9] (fun r q wr => ∃ i : Nat, i ≤ x.length ∧ q = .int .i64 i ∧ Own [] w [] [⟨r, i, cellsB ((x.take i).map (wideB k)), 66, 10⟩] (roS (.slice a8 x.length c8) (cellsB x)) wr) (fun _ q _ => x.length - (intOf q).toNat)
      case atStart => exact ⟨0, by omega, rfl, hO.sub (.refl _) (.refl _) (fun q hq => List.mem_append_left _ hq)⟩
      case round =>
        clear hO
        obtain ⟨i, hi, rfl, hO⟩ := hrel
        by_cases hlt : i < x.length
        · obtain ⟨g, o, rfl⟩ := ha8 (by omega)
          simp only [roS] at hO
          have HT := Lib.hid (HL.out i hlt)
          have t1 := tk_box x hlt
          generalize (x.take i).map (wideB k) = m at *
          go_wp2_with (first | ((with_reducible refine is_load ?_); refine own_ld (h := ?_)) | ((with_reducible refine is_store ?_); (first | refine own_stR (hO := hO) (h := ?_) | refine own_st1 (hO := hO) (h := ?_)); clear hO; intro wv hO) | ((with_reducible refine is_alloc ?_); (first | (refine own_al (o := ⟨some 10, _, _, _, _, _⟩) (hO := hO) (h := ?_); clear hO; intro n10 wv hO))) | ((with_reducible refine is_build ?_); (first | (refine' own_build1 (o := ⟨some 45, _, _, _, _, _⟩) hO (by rfl) rfl rfl ?hu ?hf ?_; (case hu => (first | exact Tryd.underlying29 | exact und_Set | exact und_Groups | exact und_Ranges)); (case hf => kernel_rfl); clear hO; intro n45 wv hO))) | ((with_reducible refine is_append ?_); (first | (refine own_ap (o := ⟨some 46, _, _, _, _, _⟩) (hO := hO) (h := ?_); clear hO; intro g46 c46 wv hO))) | (go_at_call 39; refine (hfull _).mono ?_; rintro e wv ⟨rfl, hb⟩; replace hO := hO.call hb; clear hb))
          go_roundw
          case rel =>
            refine ⟨i + 1, by omega, by go_num, ?_⟩
            rw [HT.out, cellsB_append, cellsB_one]
            exact hO.sub (.cons _ (.cons _ (.refl _))) (.refl _) (fun _ h => h)
          case measure => simp [intOf]; omega
        · obtain rfl : i = x.length := by omega
          rw [List.take_length] at hO
          by_cases hlim : D.length ≤ 4096
          · have HE := Lib.hid (show limF D = some D from if_pos hlim)
            go_wp2_with (first | ((with_reducible refine is_load ?_); refine own_ld (h := ?_)) | ((with_reducible refine is_store ?_); (first | refine own_stR (hO := hO) (h := ?_) | refine own_st1 (hO := hO) (h := ?_)); clear hO; intro wv hO) | ((with_reducible refine is_alloc ?_); (first | (refine own_al (o := ⟨some 10, _, _, _, _, _⟩) (hO := hO) (h := ?_); clear hO; intro n10 wv hO))) | ((with_reducible refine is_build ?_); (first | (refine' own_build1 (o := ⟨some 45, _, _, _, _, _⟩) hO (by rfl) rfl rfl ?hu ?hf ?_; (case hu => (first | exact Tryd.underlying29 | exact und_Set | exact und_Groups | exact und_Ranges)); (case hf => kernel_rfl); clear hO; intro n45 wv hO))) | ((with_reducible refine is_append ?_); (first | (refine own_ap (o := ⟨some 46, _, _, _, _, _⟩) (hO := hO) (h := ?_); clear hO; intro g46 c46 wv hO))) | (go_at_call 50; (with_reducible refine (hcan _ _ (own_boxes hO List.mem_cons_self)).mono ?_); rintro e wv ⟨v3, rfl, ⟨hv9, hn9⟩, hb9⟩; have hf3 := hv9.form; have hs9 := hO.keep.size; replace hO := hO.gainB hb9 hv9 hn9; clear hb9 hv9) | (go_at_call 90; refine (limited_yes _ hf3 hlim).mono ?_; rintro e _ ⟨rfl, rfl⟩))
            go_ret2
            exact ⟨v3, hO.keep.below, .inl ⟨D, HE.out, rfl, hO.isB hf3 (fun q hq => List.mem_append_left _ hq), .inl fun g hg => Nat.le_trans hs9 (hn9 g hg)⟩⟩
          · have HE := Lib.hid (show limF D = none from if_neg hlim)
            go_wp2_with (first | ((with_reducible refine is_load ?_); refine own_ld (h := ?_)) | ((with_reducible refine is_store ?_); (first | refine own_stR (hO := hO) (h := ?_) | refine own_st1 (hO := hO) (h := ?_)); clear hO; intro wv hO) | ((with_reducible refine is_alloc ?_); (first | (refine own_al (o := ⟨some 10, _, _, _, _, _⟩) (hO := hO) (h := ?_); clear hO; intro n10 wv hO))) | ((with_reducible refine is_build ?_); (first | (refine' own_build1 (o := ⟨some 45, _, _, _, _, _⟩) hO (by rfl) rfl rfl ?hu ?hf ?_; (case hu => (first | exact Tryd.underlying29 | exact und_Set | exact und_Groups | exact und_Ranges)); (case hf => kernel_rfl); clear hO; intro n45 wv hO))) | ((with_reducible refine is_append ?_); (first | (refine own_ap (o := ⟨some 46, _, _, _, _, _⟩) (hO := hO) (h := ?_); clear hO; intro g46 c46 wv hO))) | (go_at_call 50; (with_reducible refine (hcan _ _ (own_boxes hO List.mem_cons_self)).mono ?_); rintro e wv ⟨v3, rfl, ⟨hv9, hn9⟩, hb9⟩; have hf3 := hv9.form; replace hO := hO.gainB hb9 hv9 hn9; clear hb9 hv9) | (go_at_call 90; refine (limited_no _ hf3 hlim).mono ?_; rintro e _ ⟨rfl, rfl⟩))
            go_ret2
            exact ⟨.slice none 0 0, hO.keep.below, .inr ⟨HE.out, rfl⟩⟩
    · rw [if_neg hr]
      have hcs : (decide (f < 0) = true) ∨ (decide (f < 0) = false ∧ decide (5 ≤ f) = true) := by
        by_cases h : f < 0
        · exact .inl (decide_eq_true h)
        · exact .inr ⟨decide_eq_false h, decide_eq_true (by omega)⟩
      clear hr
      rcases hcs with g1 | ⟨g1, g2⟩
      all_goals
        go_enter Tryd.func65, Tryd.ntmps65
        go_wp2_with (first | ((with_reducible refine is_load ?_); refine own_ld (h := ?_)) | ((with_reducible refine is_store ?_); (first | refine own_stR (hO := hO) (h := ?_) | refine own_st1 (hO := hO) (h := ?_)); clear hO; intro wv hO) | ((with_reducible refine is_alloc ?_); (first | (refine own_al (o := ⟨some 10, _, _, _, _, _⟩) (hO := hO) (h := ?_); clear hO; intro n10 wv hO))) | ((with_reducible refine is_build ?_); (first | (refine' own_build1 (o := ⟨some 45, _, _, _, _, _⟩) hO (by rfl) rfl rfl ?hu ?hf ?_; (case hu => (first | exact Tryd.underlying29 | exact und_Set | exact und_Groups | exact und_Ranges)); (case hf => kernel_rfl); clear hO; intro n45 wv hO))) | ((with_reducible refine is_append ?_); (first | (refine own_ap (o := ⟨some 46, _, _, _, _, _⟩) (hO := hO) (h := ?_); clear hO; intro g46 c46 wv hO))) | (go_at_call 91; (with_reducible refine (h0 _ (hv.keep0 hO)).mono ?_); rintro e wv hpo; obtain ⟨v8, rfl, hv9, hn8, hb9⟩ := hpo.yes; have hf8 := hv9.form; have hs9 := hO.keep.size; replace hO := hO.gainAny hb9 hv9; clear hb9 hv9 hpo))
        go_ret2
        exact ⟨v8, hO.keep.below, .inl ⟨x, rfl, rfl, hO.isB hf8 (fun q hq => List.mem_append_left _ hq), hn8.imp (fun h g hg => Nat.le_trans hs9 (h g hg)) id⟩⟩
end Go.Proofs.YtdfihajngmgigaaDoor
