/- Package packetset (twelfth part): Union, Intersect, Subtract, Complement. -/
import Derived.Test.YtbdfblgdmappeaaGreatDoorMR
import Derived.Test.YtbdfblgdmappeaaGreatDoorMB
namespace Go.Proofs.YtbdfblgdmappeaaGreatDoor
open Go.RowKit
set_option maxRecDepth 100000
set_option maxHeartbeats 2000000 in
theorem psUnion_any {va vb : Value} {la lb : List Bx} (w : World) (ht : Tops w) (hva : IsBoxes w va la) (hvb : IsBoxes w vb lb) (ka : okL la) (kb : okL lb) (na : la.length ≤ 1000000000000) (nb : lb.length ≤ 1000000000000) :
  Calls Tryz.prog 74 #[va, vb] w (SetPost w (ofF orB la lb)) := by
 have hO := own_start [] w
 have h1 := fun w ht hva hvb => of_any2 op_either (va := va) (vb := vb) (la := la) (lb := lb) w ht hva hvb ka kb na nb
 cases hr : ofF orB la lb with
 | none =>
  rw [hr] at h1
  go_enter Tryz.func74, Tryz.ntmps74
  go_wp2_with (go_at_call 136; (with_reducible refine (h1 _ (hO.tops ht (by simp)) (hva.keep0 hO) (hvb.keep0 hO)).mono ?_); rintro e wv hpo; obtain ⟨rfl, hb9⟩ := hpo.no; replace hO := hO.call hb9; clear hb9 hpo)
  go_ret2
  exact ⟨.slice none 0 0, hO.keep.below, .inr ⟨rfl, rfl⟩⟩
 | some x =>
  rw [hr] at h1
  go_enter Tryz.func74, Tryz.ntmps74
  go_wp2_with (go_at_call 136; (with_reducible refine (h1 _ (hO.tops ht (by simp)) (hva.keep0 hO) (hvb.keep0 hO)).mono ?_); rintro e wv hpo; obtain ⟨v3, rfl, hv9, hn9, hb9⟩ := hpo.yes; have hs9 := hO.keep.size; have hof := hv9.form; replace hO := hO.gainB hb9 hv9 hn9; clear hb9 hv9 hpo)
  go_ret2
  exact ⟨v3, hO.keep.below, .inl ⟨x, rfl, rfl, hO.isB hof (fun q hq => List.mem_append_left _ hq), fun g hg => Nat.le_trans hs9 (hn9 g hg)⟩⟩
set_option maxHeartbeats 2000000 in
theorem psIntersect_any {va vb : Value} {la lb : List Bx} (w : World) (ht : Tops w) (hva : IsBoxes w va la) (hvb : IsBoxes w vb lb) (ka : okL la) (kb : okL lb) (na : la.length ≤ 1000000000000) (nb : lb.length ≤ 1000000000000) :
  Calls Tryz.prog 76 #[va, vb] w (SetPost w (ofF andB la lb)) := by
 have hO := own_start [] w
 have h1 := fun w ht hva hvb => of_any2 op_both (va := va) (vb := vb) (la := la) (lb := lb) w ht hva hvb ka kb na nb
 cases hr : ofF andB la lb with
 | none =>
  rw [hr] at h1
  go_enter Tryz.func76, Tryz.ntmps76
  go_wp2_with (go_at_call 136; (with_reducible refine (h1 _ (hO.tops ht (by simp)) (hva.keep0 hO) (hvb.keep0 hO)).mono ?_); rintro e wv hpo; obtain ⟨rfl, hb9⟩ := hpo.no; replace hO := hO.call hb9; clear hb9 hpo)
  go_ret2
  exact ⟨.slice none 0 0, hO.keep.below, .inr ⟨rfl, rfl⟩⟩
 | some x =>
  rw [hr] at h1
  go_enter Tryz.func76, Tryz.ntmps76
  go_wp2_with (go_at_call 136; (with_reducible refine (h1 _ (hO.tops ht (by simp)) (hva.keep0 hO) (hvb.keep0 hO)).mono ?_); rintro e wv hpo; obtain ⟨v3, rfl, hv9, hn9, hb9⟩ := hpo.yes; have hs9 := hO.keep.size; have hof := hv9.form; replace hO := hO.gainB hb9 hv9 hn9; clear hb9 hv9 hpo)
  go_ret2
  exact ⟨v3, hO.keep.below, .inl ⟨x, rfl, rfl, hO.isB hof (fun q hq => List.mem_append_left _ hq), fun g hg => Nat.le_trans hs9 (hn9 g hg)⟩⟩
set_option maxHeartbeats 2000000 in
theorem psSubtract_any {va vb : Value} {la lb : List Bx} (w : World) (ht : Tops w) (hva : IsBoxes w va la) (hvb : IsBoxes w vb lb) (ka : okL la) (kb : okL lb) (na : la.length ≤ 1000000000000) (nb : lb.length ≤ 1000000000000) :
  Calls Tryz.prog 78 #[va, vb] w (SetPost w (ofF exB la lb)) := by
 have hO := own_start [] w
 have h1 := fun w ht hva hvb => of_any2 op_without (va := va) (vb := vb) (la := la) (lb := lb) w ht hva hvb ka kb na nb
 cases hr : ofF exB la lb with
 | none =>
  rw [hr] at h1
  go_enter Tryz.func78, Tryz.ntmps78
  go_wp2_with (go_at_call 136; (with_reducible refine (h1 _ (hO.tops ht (by simp)) (hva.keep0 hO) (hvb.keep0 hO)).mono ?_); rintro e wv hpo; obtain ⟨rfl, hb9⟩ := hpo.no; replace hO := hO.call hb9; clear hb9 hpo)
  go_ret2
  exact ⟨.slice none 0 0, hO.keep.below, .inr ⟨rfl, rfl⟩⟩
 | some x =>
  rw [hr] at h1
  go_enter Tryz.func78, Tryz.ntmps78
  go_wp2_with (go_at_call 136; (with_reducible refine (h1 _ (hO.tops ht (by simp)) (hva.keep0 hO) (hvb.keep0 hO)).mono ?_); rintro e wv hpo; obtain ⟨v3, rfl, hv9, hn9, hb9⟩ := hpo.yes; have hs9 := hO.keep.size; have hof := hv9.form; replace hO := hO.gainB hb9 hv9 hn9; clear hb9 hv9 hpo)
  go_ret2
  exact ⟨v3, hO.keep.below, .inl ⟨x, rfl, rfl, hO.isB hof (fun q hq => List.mem_append_left _ hq), fun g hg => Nat.le_trans hs9 (hn9 g hg)⟩⟩
theorem okL_full : okL [fullBx] := fun b hb => by rw [List.mem_singleton.1 hb]; exact fullBx_ok
def sanA : Bx := fullBx.set 4 ⟨0, 79⟩
def sanB : Bx := fullBx.set 4 ⟨80, 443⟩
def sanC : Bx := fullBx.set 4 ⟨0, 443⟩
theorem okL_san : okL [sanA, sanB] := fun b hb k hk => by
 rcases List.mem_cons.1 hb with rfl | hb
 ·rcases five hk with rfl | rfl | rfl | rfl | rfl <;> decide
 ·rw [List.mem_singleton.1 hb]
  rcases five hk with rfl | rfl | rfl | rfl | rfl <;> decide
theorem okL_sanC : okL [sanC] := fun b hb k hk => by
 rw [List.mem_singleton.1 hb]
 rcases five hk with rfl | rfl | rfl | rfl | rfl <;> decide
theorem make_san : makeF [sanA, sanB] = some [sanC] := by decide +kernel
theorem valid_san : validF [sanC] = true := by decide +kernel
theorem has_san : [sanC].any (hasH ⟨0, 0, 0, 0, 80⟩) = true := by decide +kernel
theorem two_boxesC {M : List Nat} {w0 w : World} {X : List Chunk} {R : List Row} {S : List Ro} (hO : Own M w0 X R S w) {n : Nat} {a b : Bx} {t : TypeId} (hm : (⟨n, flat [bv a, bv b], t⟩ : Chunk) ∈ X) : IsBoxes w (.slice (some ⟨n, 0, none⟩) 2 2) [a, b] :=
 own_boxesC hO (l := [a, b]) hm (by simp [flat, cellsB, Value.cells]) (by simp)
set_option maxHeartbeats 4000000 in
theorem sane4_any (w : World) (ht : Tops w) : Calls Tryz.prog 38 #[] w fun e w' => e = .returned (.bool true) ∧ Below w.heap.size w w' := by
 have hO := own_tops ht
 have ea : (bcs fullBx).set 9 (.int .u32 79) = bcs sanA := rfl
 have eb : putAt (bcs fullBx) 8 [.int .u32 80, .int .u32 443] = bcs sanB := rfl
 have ec : cellsB [sanC] = bcs sanC := by rw [cellsB_one]
 have c9 : (bcs sanC)[8 + 1]? = some (.int .u32 443) := rfl
 have c9' : (bcs sanC)[9]? = some (.int .u32 443) := rfl
 have h1 := fun v w ht hv => make_any (vl := v) (l := [sanA, sanB]) w ht hv okL_san (by simp)
 rw [make_san] at h1
 have h2 := fun v w ht hv => psContains_any (vl := v) (l := [sanC]) ⟨0, 0, 0, 0, 80⟩ w ht (by unfold Hd.ok; decide) hv (by simp)
 rw [has_san] at h2
 have h3 := fun v w ht hv => psValid_any (vl := v) (l := [sanC]) w ht hv okL_sanC (by simp)
 rw [valid_san] at h3
 have hfull := rfull_any
 generalize sanA = A at *
 generalize sanB = B at *
 go_enter Tryz.func38, Tryz.ntmps38
 go_upto_region 3 with (first | ((first | refine stN hO ?_ | refine st1N hO ?_); clear hO; intro wv hO) | (refine al9 1 hO ?_; clear hO; intro n1 wv hO) | (refine al9 2 hO ?_; clear hO; intro n2 wv hO) | (go_at_call 85; refine (hfull _).mono ?_; rintro e wv ⟨rfl, hb⟩; replace hO := hO.call hb; clear hb))
 rw [ea, eb] at hO
 clear ea eb
 generalize fullBx = bF at *
 have h4 := initial_any
 have hi8 : iniL.length = 8 := rfl
 have hl1 : [sanC].length = 1 := rfl
 go_wp2_with (first | refine ldN ?_ | ((with_reducible refine is_build ?_); (refine' own_buildN (o := ⟨some 14, _, _, _, _, _⟩) [bv A, bv B] hO (by rfl) rfl slice_Boxes rfl rfl (by rfl) (by decide) (by decide) ?_); clear hO; intro n14 wv hO) | (go_at_call 86; (with_reducible refine (h1 _ _ (hO.tops ht (by simp)) (two_boxesC hO List.mem_cons_self)).mono ?_); rintro e wv hpo; obtain ⟨v3, rfl, hv9, hn9, hb9⟩ := hpo.yes; have hof := hv9.form; replace hO := hO.gainB hb9 hv9 hn9; clear hb9 hn9 hpo hv9 h1; obtain ⟨a9, c9b, rfl, ha9⟩ := hof.view; obtain ⟨g9, o9, rfl⟩ := ha9 (by simp); simp only [roS, List.cons_append, List.nil_append] at hO; have hvC := fun (wq : World) (S' : List Ro) (X' : List Chunk) (R' : List Row) (h : Own [] w X' R' (⟨g9, o9, cellsB [sanC]⟩ :: S') wq) => h.isB hof (fun q hq => List.mem_cons.2 (.inl (List.mem_singleton.1 hq))); rw [hl1, ec] at hvC; rw [ec] at hO; rw [hl1]) | (go_at_call 87; (with_reducible refine (h2 _ _ (hO.tops ht (by simp)) (hvC _ _ _ _ hO)).mono ?_); rintro e wv ⟨rfl, hb9⟩; replace hO := hO.call hb9; clear hb9) | (go_at_call 88; (with_reducible refine (h3 _ _ (hO.tops ht (by simp)) (hvC _ _ _ _ hO)).mono ?_); rintro e wv ⟨rfl, hb9⟩; replace hO := hO.call hb9; clear hb9) | (go_at_call 89; (with_reducible refine (h4 _ (hO.tops ht (by simp))).mono ?_); rintro e wv ⟨v8, rfl, hv8, hn8, hb8⟩; replace hO := hO.gainB hb8 hv8 hn8; have hf8 := hv8.form; clear hb8 hn8 hv8; obtain ⟨a8, c8, rfl, -⟩ := hf8.view; rw [hi8]))
 go_ret
 exact ⟨rfl, hO.keep.below⟩
theorem any_inq {l : List Bx} {h : Hd} : l.any (hasH h) = inq (valF l) h.at := by
 rw [Bool.eq_iff_iff, inq_iff, List.any_eq_true]
 unfold inL valF
 constructor
 ·rintro ⟨b, hb, hh⟩
  unfold hasH hasB at hh
  simp only [Bool.and_eq_true, decide_eq_true_eq] at hh
  exact ⟨b, List.mem_filter.2 ⟨hb, hh.1⟩, fun k _ hk => hh.2 k hk⟩
 ·rintro ⟨b, hb, hh⟩
  obtain ⟨h1, h2⟩ := List.mem_filter.1 hb
  refine ⟨b, h1, ?_⟩
  unfold hasH hasB
  simp only [Bool.and_eq_true, decide_eq_true_eq]
  exact ⟨h2, fun k hk => hh k (Nat.zero_le _) hk⟩
theorem okP_of {h : Hd} (ho : h.ok) : okP h.at := fun k hk => by
 obtain ⟨h0, h1, h2, h3, h4⟩ := ho
 rcases five hk with rfl | rfl | rfl | rfl | rfl
 ·exact h0
 ·exact h1
 ·exact h2
 ·exact h3
 ·exact h4
theorem valF_id {l : List Bx} (h : vL l) : valF l = l := List.filter_eq_self.2 fun b hb => vld_of (h b hb)
theorem of_members {op : Bool → Bool → Bool} {la lb z : List Bx} {h : Hd} (ka : okL la) (kb : okL lb) (ho : h.ok) (hz : ofF op la lb = some z) : vL z ∧ z.length ≤ 4096 ∧ z.any (hasH h) = op (la.any (hasH h)) (lb.any (hasH h)) := by
 unfold ofF at hz
 cases hx : setF la with
 | none => rw [hx] at hz; cases hz
 | some x =>
  cases hy : setF lb with
  | none => rw [hx, hy] at hz; cases hz
  | some y =>
   rw [hx, hy] at hz
   obtain ⟨h1, rfl⟩ := limF_some.1 hz
   obtain ⟨x1, _, _, x4⟩ := setF_ok ka hx
   obtain ⟨y1, _, _, y4⟩ := setF_ok kb hy
   have hv := (canonF_cn op 5 0 rfl x1 y1).valid rfl
   refine ⟨hv, h1, ?_⟩
   rw [any_inq, any_inq, any_inq, valF_id hv, inq_canon (okP_of ho) x1 y1, x4 _ (okP_of ho), y4 _ (okP_of ho)]
def ecd (r : Option (List Bx)) : Int := match r with
 | none => 3
 | some _ => 0
theorem SetPost.uni {w w' : World} {r : Option (List Bx)} {e : Ending} (h : SetPost w r e w') : ∃ v, e = .returned (.tuple #[v, .int .i64 (ecd r)]) ∧ IsBoxes w' v (r.getD []) ∧ NewFrom w v ∧ Below w.heap.size w w' := by
 obtain ⟨v, hb, ⟨l, rfl, h2, h3, h4⟩ | ⟨rfl, h2⟩⟩ := h
 ·exact ⟨v, h2, h3, h4, hb⟩
 ·exact ⟨_, h2, .inl ⟨rfl, rfl⟩, fun g hg => (by cases hg), hb⟩
end Go.Proofs.YtbdfblgdmappeaaGreatDoor
