/- Walks of the law functions over the package box alone: sane. -/
import Derived.Test.YtnhjcbmlplfpmaaDoorBoxD
import Derived.Test.YtnhjcbmlplfpmaaDoorLooseW
namespace Go.Proofs.YtnhjcbmlplfpmaaDoor
open Go.RowKit
set_option maxRecDepth 100000

theorem IsBoxes.keep {w w' : World} {v : Value} {l : List Bx} (h : IsBoxes w v l) (hk : Keep [] w w') : IsBoxes w' v l := by
  rcases h with h | ⟨g, o, c, h1, h2, h3⟩
  · exact .inl h
  · refine .inr ⟨g, o, c, h1, h2, fun j u hj => ?_⟩
    have h4 := h3 j u hj
    rw [World.cell?_of_block (w := w) (hk.block _ (World.block_lt_of_cell? w _ h4) (by simp))]; exact h4
/-- boxes outside some blocks -/
def IsOff (L : List Nat) (w : World) (v : Value) (l : List Bx) : Prop := IsBoxes w v l ∧ ∀ g, v.ownBlock = some g → g ∉ L
theorem IsOff.keep {L : List Nat} {w w' : World} {v : Value} {l : List Bx} (h : IsOff L w v l) (hk : Keep [] w w') : IsOff L w' v l := ⟨h.1.keep hk, h.2⟩
theorem off_of_new {M : List Nat} {w0 w : World} {X : List Chunk} {R : List Row} {S : List Ro} (hO : Own M w0 X R S w) {v : Value} (h : NewFrom w v) : ∀ g, v.ownBlock = some g → g ∉ excl X R := fun g hg hm => by
  have h1 := h g hg
  have h2 := hO.lt g hm
  omega
theorem own_off {M : List Nat} {w0 w : World} {X : List Chunk} {R : List Row} {S : List Ro} (hO : Own M w0 X R S w) {v : Value} {l : List Bx} (h : IsOff (excl X R) w v l) :
    (v = .slice none 0 0 ∧ l = []) ∨ ∃ g o c, v = .slice (some ⟨g, o, none⟩) l.length c ∧ Own M w0 X R (⟨g, o, cellsB l⟩ :: S) w := by
  obtain ⟨h1 | ⟨g, o, c, rfl, h2, h3⟩, h4⟩ := h
  · exact .inl h1
  · exact .inr ⟨g, o, c, rfl, hO.addRo ⟨g, o, cellsB l⟩ h3 fun _ => h4 g rfl⟩
abbrev hcs (h : Hd) : List Value := [.int .u32 h.src, .int .u32 h.dst, .int .u8 h.proto, .int .u16 h.sport, .int .u16 h.dport]
def hd0 : Hd := ⟨1, 2, 6, 3, 4⟩
def webB : Bx := fullBx.set 4 ⟨80, 80⟩

theorem fullBx_ok : fullBx.ok := fun k hk => by rcases five hk with rfl | rfl | rfl | rfl | rfl <;> decide
theorem webB_ok : webB.ok := fun k hk => by rcases five hk with rfl | rfl | rfl | rfl | rfl <;> decide
set_option maxHeartbeats 2000000 in
theorem sane_any (w : World) (ht : Tops w) : Calls Tryd.prog 15 #[] w fun e w' => e = .returned (.bool true) ∧ Below w.heap.size w w' := by
  have hO := own_tops ht
  have hh : hd0.ok := by unfold Hd.ok hd0; decide
  have hz : Hd.ok ⟨0, 0, 0, 0, 0⟩ := by unfold Hd.ok; decide
  have hsub := fun w ht => subtract_any fullBx webB w ht fullBx_ok webB_ok
  have hp : putAt (bcs fullBx) 8 [.int .u32 80, .int .u32 80] = bcs webB := rfl
  have hfull := full_any
  obtain ⟨l, hl, h2, h3⟩ : ∃ l, subtrB fullBx webB = l ∧ l.length = 2 ∧ ∀ h : 1 < l.length, l[1].r4 = ⟨81, 65535⟩ := ⟨_, rfl, by decide, fun h => by decide +revert⟩
  rw [hl] at hsub
  clear hl
  have e1 : vld (ofHd hd0) = true := by decide
  have e2 : hasB (ofHd hd0) hd0 = true := by decide
  have e3 : hasB (ofHd hd0) ⟨0, 0, 0, 0, 0⟩ = false := by decide
  have hof := fun w => of_any hd0 w hh
  generalize ofHd hd0 = b0 at *
  simp only [hd0] at *
  generalize fullBx = bF at *
  generalize webB = bW at *
  go_enter Tryd.func15, Tryd.ntmps15
  go_wp2_with (first | ((with_reducible refine is_load ?_); (first | (refine own_ld (h := ?_)))) | ((with_reducible refine is_store ?_); (first | (refine own_stR (hO := hO) (h := ?_); clear hO; intro wv hO) | (refine own_st1 (hO := hO) (h := ?_); clear hO; intro wv hO))) | ((with_reducible refine is_alloc ?_); (first | (refine own_al (o := ⟨some 1, _, _, _, _, _⟩) (hO := hO) (h := ?_); clear hO; intro n1 wv hO) | (refine own_al (o := ⟨some 2, _, _, _, _, _⟩) (hO := hO) (h := ?_); clear hO; intro n2 wv hO) | (refine own_al (o := ⟨some 3, _, _, _, _, _⟩) (hO := hO) (h := ?_); clear hO; intro n3 wv hO))) | (go_at_call 34; refine (hof _).mono ?_; rintro e wv ⟨rfl, hb⟩; replace hO := hO.call hb; clear hb) | (go_at_call 35; refine (hfull _ (hO.tops ht (by simp))).mono ?_; rintro e wv ⟨rfl, hb⟩; replace hO := hO.call hb; clear hb))
  rw [hp] at hO
  (try simp only [Act.put]); (try simp only [List.setIfInBounds_toArray, List.set_cons_zero, List.set_cons_succ]); (refine own_loose 4 [(11, fun v _ => v = bv bF), (13, fun v w => IsOff [n3, n2, n1] w v l)] hO (by kernel_rfl) (by kernel_rfl) (by rfl) (by repeat (first | exact Split.zero _ | apply Split.succ)) ?_ ?_); (focus (repeat (first | exact lasts_nil | (refine lasts_cons (fun v w w' _ _ hk h => ?_) ?_; focus (first | exact h | exact h.keep hk | (obtain ⟨h1, h2⟩ := h; exact ⟨h1, h2.keep hk⟩)))))); clear hO; (repeat (first | (refine loose_plain (by (intro _ hd; cases hd; rfl)) (by rfl) (fun _ h => h) ?_; (first | go_big_quiet_skip | (go_big_quiet_want; (first | ((with_reducible refine is_loadQ ?_); (first | (refine q_ld (h := ?_))); (try simp only [Act.put]); (try simp only [List.setIfInBounds_toArray, List.set_cons_zero, List.set_cons_succ]); go_big_quiet_on) | (go_big_quiet_op; (first | go_big_quiet_on | ((refine ⟨_, fun _ _ => rfl, ?_⟩); go_big_quiet_on)))))); refine wpQuiet_nil ?_; (try simp only [Act.put]); (try simp only [List.setIfInBounds_toArray, List.set_cons_zero, List.set_cons_succ])) | (refine loose_fact (by rfl) rfl (by rfl) ?_ ?_ (Nat.le_of_ble_eq_true rfl); (focus (intro w1 hO hF; (first | (go_simp; (first | (go_at_call 35; refine (hfull _ (hO.tops ht (by simp))).mono ?_; rintro e w3 ⟨rfl, hb⟩; exact ⟨_, rfl, keep_of_below hb _, hO.call hb, rfl⟩) | (go_at_call 12; refine (hsub _ (hO.tops ht (by simp))).mono ?_; rintro e w3 ⟨v, rfl, ⟨hv, hn⟩, hb⟩; exact ⟨v, rfl, keep_of_below hb _, hO.call hb, hv, off_of_new hO hn⟩)))))); (intro u w1 hO hu; (try subst hu); (try simp only [Act.put]); (try simp only [List.setIfInBounds_toArray, List.set_cons_zero, List.set_cons_succ]))) | (refine loose_skip (by rfl) ?_; (try simp only [Act.put]); (try simp only [List.setIfInBounds_toArray, List.set_cons_zero, List.set_cons_succ])))); (refine wpLoose_nil ?_); intro wv hI; have hO := hI.1; (try refine wpList_done ?_)
  have hs := hI.2 13 (by simp [insF]) _ rfl
  clear hI
  obtain ⟨_, h⟩ | ⟨g, o, c, hv, hO⟩ := own_off hO hs
  · rw [h] at h2; cases h2
  change u = _ at hv
  subst hv
  clear hs
  match l, h2 with
  | [x, y], _ =>
    have h4 := h3 (by simp)
    simp only [List.getElem_cons_succ, List.getElem_cons_zero] at h4
    obtain ⟨y0, y1, y2, y3, y4⟩ := y
    simp only at h4
    subst h4
    clear h3
    have htk : ((cellsB [x, ⟨y0, y1, y2, y3, ⟨81, 65535⟩⟩]).drop (10 + 8)).take 2 = [.int .u32 81, .int .u32 65535] := rfl
    generalize cellsB [x, ⟨y0, y1, y2, y3, ⟨81, 65535⟩⟩] = cs at *
    go_wp2_with (first | ((with_reducible refine is_load ?_); (first | (refine own_ld (h := ?_)))) | ((with_reducible refine is_store ?_); (first | (refine own_stR (hO := hO) (h := ?_); clear hO; intro wv hO) | (refine own_st1 (hO := hO) (h := ?_); clear hO; intro wv hO))) | (go_at_call 13; refine (valid_any _ _ (hO.tops ht (by simp))).mono ?_; rintro e wv ⟨rfl, hb⟩; replace hO := hO.call hb; clear hb) | (go_at_call 10; refine (contains_any _ ⟨_, _, _, _, _⟩ _ (hO.tops ht (by simp)) (by first | exact hh | exact hz)).mono ?_; rintro e wv ⟨rfl, hb⟩; replace hO := hO.call hb; clear hb) | (go_at_call 25; refine (value_any ⟨_, _, _, _, _⟩ 1 _ hh (by decide)).mono ?_; rintro e wv ⟨rfl, hb⟩; replace hO := hO.call hb; clear hb) | (refine' own_loadRR (vs := [.int .u32 81, .int .u32 65535]) hO (by rfl) rfl rfl row_Range List.mem_cons_self htk rfl ?_))
    go_ret
    exact ⟨rfl, hO.keep.below⟩
end Go.Proofs.YtnhjcbmlplfpmaaDoor
