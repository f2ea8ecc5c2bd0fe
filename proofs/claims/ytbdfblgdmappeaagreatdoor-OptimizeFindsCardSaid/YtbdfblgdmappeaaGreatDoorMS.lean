/- Package packetset (twelfth part): Union, Intersect, Subtract, Complement. -/
import Derived.Test.YtbdfblgdmappeaaGreatDoorMR
import Derived.Test.YtbdfblgdmappeaaGreatDoorMB
namespace Go.Proofs.YtbdfblgdmappeaaGreatDoor
open Go.RowKit
set_option maxRecDepth 100000
set_option maxHeartbeats 2000000 in
theorem psUnion_any {va vb : Value} {la lb : List Bx} (w : World) (ht : Tops w) (hva : IsBoxes w va la) (hvb : IsBoxes w vb lb) (ka : okL la) (kb : okL lb) (na : la.length ≤ 1000000000000) (nb : lb.length ≤ 1000000000000) :
  Calls Tryz.prog 74 #[va, vb] w (SetPost w (ofF orB la lb)) := by
 have hO := own_start [] w
 have h1 := fun w ht hva hvb => of_any2 op_either (va := va) (vb := vb) (la := la) (lb := lb) w ht hva hvb ka kb na nb
 cases hr : ofF orB la lb with
 | none =>
  rw [hr] at h1
  go_enter Tryz.func74, Tryz.ntmps74
  go_wp2_with (go_at_call 136; (with_reducible refine (h1 _ (hO.tops ht (by simp)) (hva.keep0 hO) (hvb.keep0 hO)).mono ?_); rintro e wv hpo; obtain ⟨rfl, hb9⟩ := hpo.no; replace hO := hO.call hb9; clear hb9 hpo)
  go_ret2
  exact ⟨.slice none 0 0, hO.keep.below, .inr ⟨rfl, rfl⟩⟩
 | some x =>
  rw [hr] at h1
  go_enter Tryz.func74, Tryz.ntmps74
  go_wp2_with (go_at_call 136; (with_reducible refine (h1 _ (hO.tops ht (by simp)) (hva.keep0 hO) (hvb.keep0 hO)).mono ?_); rintro e wv hpo; obtain ⟨v3, rfl, hv9, hn9, hb9⟩ := hpo.yes; have hs9 := hO.keep.size; have hof := hv9.form; replace hO := hO.gainB hb9 hv9 hn9; clear hb9 hv9 hpo)
  go_ret2
  exact ⟨v3, hO.keep.below, .inl ⟨x, rfl, rfl, hO.isB hof (fun q hq => List.mem_append_left _ hq), fun g hg => Nat.le_trans hs9 (hn9 g hg)⟩⟩
set_option maxHeartbeats 2000000 in
theorem psSubtract_any {va vb : Value} {la lb : List Bx} (w : World) (ht : Tops w) (hva : IsBoxes w va la) (hvb : IsBoxes w vb lb) (ka : okL la) (kb : okL lb) (na : la.length ≤ 1000000000000) (nb : lb.length ≤ 1000000000000) :
  Calls Tryz.prog 78 #[va, vb] w (SetPost w (ofF exB la lb)) := by
 have hO := own_start [] w
 have h1 := fun w ht hva hvb => of_any2 op_without (va := va) (vb := vb) (la := la) (lb := lb) w ht hva hvb ka kb na nb
 cases hr : ofF exB la lb with
 | none =>
  rw [hr] at h1
  go_enter Tryz.func78, Tryz.ntmps78
  go_wp2_with (go_at_call 136; (with_reducible refine (h1 _ (hO.tops ht (by simp)) (hva.keep0 hO) (hvb.keep0 hO)).mono ?_); rintro e wv hpo; obtain ⟨rfl, hb9⟩ := hpo.no; replace hO := hO.call hb9; clear hb9 hpo)
  go_ret2
  exact ⟨.slice none 0 0, hO.keep.below, .inr ⟨rfl, rfl⟩⟩
 | some x =>
  rw [hr] at h1
  go_enter Tryz.func78, Tryz.ntmps78
  go_wp2_with (go_at_call 136; (with_reducible refine (h1 _ (hO.tops ht (by simp)) (hva.keep0 hO) (hvb.keep0 hO)).mono ?_); rintro e wv hpo; obtain ⟨v3, rfl, hv9, hn9, hb9⟩ := hpo.yes; have hs9 := hO.keep.size; have hof := hv9.form; replace hO := hO.gainB hb9 hv9 hn9; clear hb9 hv9 hpo)
  go_ret2
  exact ⟨v3, hO.keep.below, .inl ⟨x, rfl, rfl, hO.isB hof (fun q hq => List.mem_append_left _ hq), fun g hg => Nat.le_trans hs9 (hn9 g hg)⟩⟩
theorem okL_full : okL [fullBx] := fun b hb => by rw [List.mem_singleton.1 hb]; exact fullBx_ok
theorem two_boxesC {M : List Nat} {w0 w : World} {X : List Chunk} {R : List Row} {S : List Ro} (hO : Own M w0 X R S w) {n : Nat} {a b : Bx} {t : TypeId} (hm : (⟨n, flat [bv a, bv b], t⟩ : Chunk) ∈ X) : IsBoxes w (.slice (some ⟨n, 0, none⟩) 2 2) [a, b] :=
 own_boxesC hO (l := [a, b]) hm (by simp [flat, cellsB, Value.cells]) (by simp)
theorem any_inq {l : List Bx} {h : Hd} : l.any (hasH h) = inq (valF l) h.at := by
 rw [Bool.eq_iff_iff, inq_iff, List.any_eq_true]
 unfold inL valF
 constructor
 ·rintro ⟨b, hb, hh⟩
  unfold hasH hasB at hh
  simp only [Bool.and_eq_true, decide_eq_true_eq] at hh
  exact ⟨b, List.mem_filter.2 ⟨hb, hh.1⟩, fun k _ hk => hh.2 k hk⟩
 ·rintro ⟨b, hb, hh⟩
  obtain ⟨h1, h2⟩ := List.mem_filter.1 hb
  refine ⟨b, h1, ?_⟩
  unfold hasH hasB
  simp only [Bool.and_eq_true, decide_eq_true_eq]
  exact ⟨h2, fun k hk => hh k (Nat.zero_le _) hk⟩
theorem okP_of {h : Hd} (ho : h.ok) : okP h.at := fun k hk => by
 obtain ⟨h0, h1, h2, h3, h4⟩ := ho
 rcases five hk with rfl | rfl | rfl | rfl | rfl
 ·exact h0
 ·exact h1
 ·exact h2
 ·exact h3
 ·exact h4
theorem valF_id {l : List Bx} (h : vL l) : valF l = l := List.filter_eq_self.2 fun b hb => vld_of (h b hb)
theorem of_members {op : Bool → Bool → Bool} {la lb z : List Bx} {h : Hd} (ka : okL la) (kb : okL lb) (ho : h.ok) (hz : ofF op la lb = some z) : vL z ∧ z.length ≤ 4096 ∧ z.any (hasH h) = op (la.any (hasH h)) (lb.any (hasH h)) := by
 unfold ofF at hz
 cases hx : setF la with
 | none => rw [hx] at hz; cases hz
 | some x =>
  cases hy : setF lb with
  | none => rw [hx, hy] at hz; cases hz
  | some y =>
   rw [hx, hy] at hz
   obtain ⟨h1, rfl⟩ := limF_some.1 hz
   obtain ⟨x1, _, _, x4⟩ := setF_ok ka hx
   obtain ⟨y1, _, _, y4⟩ := setF_ok kb hy
   have hv := (canonF_cn op 5 0 rfl x1 y1).valid rfl
   refine ⟨hv, h1, ?_⟩
   rw [any_inq, any_inq, any_inq, valF_id hv, inq_canon (okP_of ho) x1 y1, x4 _ (okP_of ho), y4 _ (okP_of ho)]
def ecd (r : Option (List Bx)) : Int := match r with
 | none => 3
 | some _ => 0
theorem SetPost.uni {w w' : World} {r : Option (List Bx)} {e : Ending} (h : SetPost w r e w') : ∃ v, e = .returned (.tuple #[v, .int .i64 (ecd r)]) ∧ IsBoxes w' v (r.getD []) ∧ NewFrom w v ∧ Below w.heap.size w w' := by
 obtain ⟨v, hb, ⟨l, rfl, h2, h3, h4⟩ | ⟨rfl, h2⟩⟩ := h
 ·exact ⟨v, h2, h3, h4, hb⟩
 ·exact ⟨_, h2, .inl ⟨rfl, rfl⟩, fun g hg => (by cases hg), hb⟩
end Go.Proofs.YtbdfblgdmappeaaGreatDoor
