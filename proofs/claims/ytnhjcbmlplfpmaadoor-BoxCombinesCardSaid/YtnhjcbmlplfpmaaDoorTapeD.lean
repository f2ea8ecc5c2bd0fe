/- The tape's generators: spoilt boxes, lists of boxes, headers. -/
import Derived.Test.YtnhjcbmlplfpmaaDoorTapeC
import Derived.Test.YtnhjcbmlplfpmaaDoorFloat
namespace Go.Proofs.YtnhjcbmlplfpmaaDoor
open Go.RowKit
set_option maxRecDepth 100000

def IsBx : Value → World → Prop := fun v _ => ∃ b, v = bv b ∧ b.ok
theorem ok_set {b : Bx} (h : b.ok) (k : Nat) {lo hi : Int} (h0 : 0 ≤ lo) (h1 : lo ≤ 4294967295) (h2 : 0 ≤ hi) (h3 : hi ≤ 4294967295) : (b.set k ⟨lo, hi⟩).ok := fun i hi' => by
  rw [Bx.at_set _ _ _ hi']
  split
  · exact ⟨⟨h0, h1⟩, h2, h3⟩
  · exact h i hi'
theorem set_at {b : Bx} {k : Nat} (hk : k < 5) (r : Rg) : (b.set k r).at k = r := by rw [Bx.at_set _ _ _ hk, if_pos rfl]
theorem set_set {b : Bx} {k : Nat} (r s : Rg) : (b.set k r).set k s = b.set k s := Bx.of_congr fun i hi => by
  rw [Bx.at_set _ _ _ hi]; split <;> rfl
set_option maxHeartbeats 2000000 in
theorem spoil_any {w : World} {n : Nat} {sl : Value} {zs : List Int} {i : Nat} (b : Bx) (hZ : ZsOk sl zs) (hT : TapeIn w n sl zs i) (hb : b.ok) :
    Calls Tryd.prog 22 #[.pointer (some ⟨n, 0, none⟩), bv b] w (TPost w n sl zs IsBx) := by
  have hO := own_tape hT
  go_enter Tryd.func22, Tryd.ntmps22
  go_wp2_with (first | ((with_reducible refine is_load ?_); (first | (refine own_ld (h := ?_)))) | ((with_reducible refine is_store ?_); (first | (refine own_stR (hO := hO) (h := ?_); clear hO; intro wv hO) | (refine own_st1 (hO := hO) (h := ?_); clear hO; intro wv hO))) | ((with_reducible refine is_box ?_); (first | (refine own_bx (o := ⟨some 3, _, _, _, _, _⟩) (hO := hO) (h := ?_); clear hO; intro n3 wv hO))) | ((with_reducible refine is_alloc ?_); (first | (refine own_al (o := ⟨some 4, _, _, _, _, _⟩) (hO := hO) (h := ?_); clear hO; intro n4 wv hO))) | (go_at_call 18; (with_reducible refine (next_pos 5 hZ (hO.tapeIn (by (repeat (first | exact List.mem_cons_self | refine List.mem_cons_of_mem _ ?_))) (by (intro s hs; repeat (first | exact hs | exact List.mem_append_left _ hs | apply List.mem_append_right | apply List.mem_cons_of_mem))) hT.le) (by omega) (by omega)).mono ?_); rintro e wv ⟨v, i1, rfl, hv, hk, hT1⟩; replace hO := hO.after (by repeat (first | exact Upd.here | apply Upd.there)) hk hT1.blk; replace hT := hT1; clear hT1 hk; obtain ⟨r, rfl, hr0, hr1⟩ := hv; obtain ⟨f, rfl⟩ : ∃ f : Nat, r = f := ⟨r.toNat, by omega⟩; have hf5 : f < 5 := by omega) | (go_at_call 18; (with_reducible refine (next_pos 3 hZ (hO.tapeIn (by (repeat (first | exact List.mem_cons_self | refine List.mem_cons_of_mem _ ?_))) (by (intro s hs; repeat (first | exact hs | exact List.mem_append_left _ hs | apply List.mem_append_right | apply List.mem_cons_of_mem))) hT.le) (by omega) (by omega)).mono ?_); rintro e wv ⟨v, i1, rfl, hv, hk, hT1⟩; replace hO := hO.after (by (repeat (first | exact Upd.here | apply Upd.there))) hk hT1.blk; replace hT := hT1; clear hT1 hk; obtain ⟨r, rfl, hr0, hr1⟩ := hv))
  · (try simp only [Act.put]); (try simp only [List.setIfInBounds_toArray, List.set_cons_zero, List.set_cons_succ]); (refine own_float 10 [1] [0, 2, 3, 4, 5, 6, 7, 8, 9] [] hO (by kernel_rfl) (by kernel_rfl) (by rfl) ?_ (by intro d v c a w h; cases d <;> exact h) ?_); (focus (repeat (first | exact lasts_nil | (refine lasts_cons (fun v w w' _ _ hk h => ?_) ?_; focus (first | exact h | exact h.keep hk | (obtain ⟨h1, h2⟩ := h; exact ⟨h1, h2.keep hk⟩)))))); (clear hO; simp only [pickK, floatAct, List.filterMap_cons, List.filterMap_nil, List.getElem?_toArray, List.getElem?_cons_succ, List.getElem?_cons_zero, List.drop_succ_cons, List.drop_zero, Act.put, Act.eval, List.setIfInBounds_toArray, List.set_cons_zero, List.set_cons_succ, Array.getD_eq_getD_getElem?, Option.getD_some]); (repeat (first | (refine loose_plain (by (intro _ hd; cases hd; rfl)) (by rfl) (fun _ h => h) ?_; (first | go_big_quiet_skip | (go_big_quiet_want; (first | ((with_reducible refine is_loadQ ?_); (first | (refine q_ld (h := ?_))); (try simp only [Act.put]); (try simp only [List.setIfInBounds_toArray, List.set_cons_zero, List.set_cons_succ]); go_big_quiet_on) | (go_big_quiet_op; (first | go_big_quiet_on | ((refine ⟨_, fun _ _ => rfl, ?_⟩); go_big_quiet_on)))))); refine wpQuiet_nil ?_; (try simp only [Act.put]); (try simp only [List.setIfInBounds_toArray, List.set_cons_zero, List.set_cons_succ])) | (refine loose_fact (by rfl) rfl (by rfl) ?_ ?_ (Nat.le_of_ble_eq_true rfl); (focus (intro w1 hO hF; (first | (go_simp; (first | fail))))); (intro u w1 hO hu; (try subst hu); (try simp only [Act.put]); (try simp only [List.setIfInBounds_toArray, List.set_cons_zero, List.set_cons_succ]))) | (refine loose_skip (by rfl) ?_; (try simp only [Act.put]); (try simp only [List.setIfInBounds_toArray, List.set_cons_zero, List.set_cons_succ])))); (refine wpLoose_nil ?_); intro wv hI; have hO := hI.1; (try refine wpList_done ?_)
    go_wp2_with (first | ((with_reducible refine is_load ?_); (first | (refine own_ld (h := ?_)))) | ((with_reducible refine is_store ?_); (first | (refine own_stR (hO := hO) (h := ?_); clear hO; intro wv hO) | (refine own_st1 (hO := hO) (h := ?_); clear hO; intro wv hO))))
    simp only [set_at hf5, set_set] at hO
    refine bodyPost_ret (own_res_cell hO Tryd.results22 rfl (by (repeat (first | exact List.mem_cons_self | refine List.mem_cons_of_mem _ ?_))) (by (exact row_len (by (with_reducible (first | exact row_Box | exact row_Range | exact row_Header | exact row_Five | exact row_Tape | exact row_Prefix | exact row_Truths | exact row_Packet))) (by rfl))) rfl) rfl (tpost hO (by (repeat (first | exact List.mem_cons_self | refine List.mem_cons_of_mem _ ?_))) (by (intro s hs; repeat (first | exact hs | exact List.mem_append_left _ hs | apply List.mem_append_right | apply List.mem_cons_of_mem))) hT.le ⟨_, rfl, ok_set hb _ (hb _ hf5).2.1 (hb _ hf5).2.2 (hb _ hf5).1.1 (hb _ hf5).1.2⟩)
  · refine bodyPost_ret (own_res_cell hO Tryd.results22 rfl (by (repeat (first | exact List.mem_cons_self | refine List.mem_cons_of_mem _ ?_))) (by (exact row_len (by (with_reducible (first | exact row_Box | exact row_Range | exact row_Header | exact row_Five | exact row_Tape | exact row_Prefix | exact row_Truths | exact row_Packet))) (by rfl))) rfl) rfl (tpost hO (by (repeat (first | exact List.mem_cons_self | refine List.mem_cons_of_mem _ ?_))) (by (intro s hs; repeat (first | exact hs | exact List.mem_append_left _ hs | apply List.mem_append_right | apply List.mem_cons_of_mem))) hT.le ⟨_, rfl, ok_set hb _ (hb _ hf5).1.1 (hb _ hf5).1.2 (by omega) (by omega)⟩)
  · refine bodyPost_ret (own_res_cell hO Tryd.results22 rfl (by (repeat (first | exact List.mem_cons_self | refine List.mem_cons_of_mem _ ?_))) (by (exact row_len (by (with_reducible (first | exact row_Box | exact row_Range | exact row_Header | exact row_Five | exact row_Tape | exact row_Prefix | exact row_Truths | exact row_Packet))) (by rfl))) rfl) rfl (tpost hO (by (repeat (first | exact List.mem_cons_self | refine List.mem_cons_of_mem _ ?_))) (by (intro s hs; repeat (first | exact hs | exact List.mem_append_left _ hs | apply List.mem_append_right | apply List.mem_cons_of_mem))) hT.le ⟨_, rfl, ok_set hb _ (by omega) (by omega) (by omega) (by omega)⟩)

/-- a row of ours is new, or it is what the call was given -/
theorem own_newT {n : Nat} {w0 w : World} {X : List Chunk} {R : List Row} {S : List Ro} (hO : Own [n] w0 X R S w) {v : Value} {k e size : Nat} {xs : List Value} (hm : (⟨v, k, xs, e, size⟩ : Row) ∈ R) (hn : v.ownBlock ≠ some n) : NewFrom w0 v := fun g hg => by
  have := hO.free g (List.mem_append.2 (.inr (List.mem_filterMap.2 ⟨_, hm, hg⟩)))
  rcases this with h | h
  · obtain rfl : g = n := by simpa using h
    exact absurd hg hn
  · exact h
theorem nodup_cons_row {c : Chunk} {r : Row} (h : (excl [c] [r]).Nodup) : r.v.ownBlock ≠ some c.n := fun e => by
  simp [excl, e] at h
set_option maxHeartbeats 2000000 in
theorem tboxesR_any {w : World} {n : Nat} {sl : Value} {zs : List Int} {i : Nat} (m : Int) (wild : Bool) (hZ : ZsOk sl zs) (hT : TapeIn w n sl zs i) (h0 : 0 ≤ m) (hm : m ≤ 100) :
    Calls Tryd.prog 27 #[.pointer (some ⟨n, 0, none⟩), .int .i64 m, .bool wild] w (TPost w n sl zs (fun v w' => ∃ l : List Bx, IsBoxes w' v l ∧ NewFrom w v ∧ (∀ b ∈ l, b.ok) ∧ l.length ≤ m ∧ (wild = false → ∀ b ∈ l, Good b) ∧ w'.ownsRow 0 26 10 v l.length (cellsB l))) := by
  have hO := own_tape hT
  go_enter Tryd.func27, Tryd.ntmps27
  go_wp2_with (first | ((with_reducible refine is_load ?_); (first | (refine own_ld (h := ?_)))) | ((with_reducible refine is_store ?_); (first | (refine own_stR (hO := hO) (h := ?_); clear hO; intro wv hO) | (refine own_st1 (hO := hO) (h := ?_); clear hO; intro wv hO))) | (go_at_call 18; (with_reducible refine (next_pos _ hZ (hO.tapeIn (by (repeat (first | exact List.mem_cons_self | refine List.mem_cons_of_mem _ ?_))) (by (intro s hs; repeat (first | exact hs | exact List.mem_append_left _ hs | apply List.mem_append_right | apply List.mem_cons_of_mem))) hT.le) (by omega) (by omega)).mono ?_); rintro e wv ⟨v, i1, rfl, hv, hk, hT1⟩; replace hO := hO.after (by (repeat (first | exact Upd.here | apply Upd.there))) hk hT1.blk; replace hT := hT1; clear hT1 hk; obtain ⟨r, rfl, hr0, hr1⟩ := hv))
  replace hO := hO.nilRow 26 10
  have hr := hr1
  obtain ⟨c, rfl⟩ : ∃ c : Nat, r = c := ⟨r.toNat, by omega⟩
  go_loopw [7, 8] (fun v q wr => ∃ (k : Nat) (l : List Bx) (i : Nat), k + l.length ≤ c ∧ q = .int .i64 k ∧ (∀ b ∈ l, b.ok) ∧ (wild = false → ∀ b ∈ l, Good b) ∧ TapeIn wr n sl zs i ∧ Own [n] w [⟨n, tcs sl i, 66⟩] [⟨v, l.length, cellsB l, 26, 10⟩] (roS sl (ints zs)) wr) (fun _ q _ => (intOf q).toNat)
  case atStart => exact ⟨c, [], i1, by simp, rfl, by simp, by simp, (hO.tapeIn (by (repeat (first | exact List.mem_cons_self | refine List.mem_cons_of_mem _ ?_))) (by (intro s hs; repeat (first | exact hs | exact List.mem_append_left _ hs | apply List.mem_append_right | apply List.mem_cons_of_mem))) hT.le), hO⟩
  case round =>
    clear hO hT
    obtain ⟨k, l, i, hk, rfl, hl, hg, hT, hO⟩ := hrel
    by_cases hlt : 0 < k
    · cases wild
      · go_wp2_with (first | ((with_reducible refine is_load ?_); (first | (refine own_ld (h := ?_)))) | ((with_reducible refine is_store ?_); (first | (refine own_stR (hO := hO) (h := ?_); clear hO; intro wv hO) | (refine own_st1 (hO := hO) (h := ?_); clear hO; intro wv hO))) | ((with_reducible refine is_alloc ?_); (first | (refine own_al (o := ⟨some 9, _, _, _, _, _⟩) (hO := hO) (h := ?_); clear hO; intro n9 wv hO))) | ((with_reducible refine is_build ?_); (first | (refine' own_build1 (o := ⟨some 31, _, _, _, _, _⟩) hO (by rfl) rfl rfl ?hu ?hf ?_; (case hu => (first | exact Tryd.underlying33 | exact und_Set)); (case hf => kernel_rfl); clear hO; intro n31 wv hO))) | ((with_reducible refine is_append ?_); (first | (refine own_ap (o := ⟨some 32, _, _, _, _, _⟩) (hO := hO) (h := ?_); clear hO; intro g32 c32 wv hO))) | (go_at_call 17; (with_reducible refine (tbox_any hZ (hO.tapeIn (by (repeat (first | exact List.mem_cons_self | refine List.mem_cons_of_mem _ ?_))) (by (intro s hs; repeat (first | exact hs | exact List.mem_append_left _ hs | apply List.mem_append_right | apply List.mem_cons_of_mem))) hT.le)).mono ?_); rintro e wv ⟨v, i1, rfl, hv, hk, hT1⟩; replace hO := hO.after (by (repeat (first | exact Upd.here | apply Upd.there))) hk hT1.blk; replace hT := hT1; clear hT1 hk; obtain ⟨b, rfl, hgb⟩ := hv))
        go_roundw
        case rel =>
          refine ⟨k - 1, l ++ [b], i1, by simp; omega, by congr 1; omega, fun x hx => ?_, fun _ x hx => ?_, (hO.tapeIn (by (repeat (first | exact List.mem_cons_self | refine List.mem_cons_of_mem _ ?_))) (by (intro s hs; repeat (first | exact hs | exact List.mem_append_left _ hs | apply List.mem_append_right | apply List.mem_cons_of_mem))) hT.le), ?_⟩
          · rcases List.mem_append.1 hx with hx | hx
            · exact hl x hx
            · obtain rfl := List.mem_singleton.1 hx; exact hgb.ok
          · rcases List.mem_append.1 hx with hx | hx
            · exact hg trivial x hx
            · obtain rfl := List.mem_singleton.1 hx; exact hgb
          · simp only [cellsB_append, cellsB_one, List.length_append, List.length_cons, List.length_nil]
            exact hO.sub (.cons _ (.cons _ (.refl _))) (.refl _) (fun _ h => h)
        case measure => simp [intOf]; omega
      · go_wp2_with (first | ((with_reducible refine is_load ?_); (first | (refine own_ld (h := ?_)))) | ((with_reducible refine is_store ?_); (first | (refine own_stR (hO := hO) (h := ?_); clear hO; intro wv hO) | (refine own_st1 (hO := hO) (h := ?_); clear hO; intro wv hO))) | ((with_reducible refine is_alloc ?_); (first | (refine own_al (o := ⟨some 9, _, _, _, _, _⟩) (hO := hO) (h := ?_); clear hO; intro n9 wv hO))) | ((with_reducible refine is_build ?_); (first | (refine' own_build1 (o := ⟨some 31, _, _, _, _, _⟩) hO (by rfl) rfl rfl ?hu ?hf ?_; (case hu => (first | exact Tryd.underlying33 | exact und_Set)); (case hf => kernel_rfl); clear hO; intro n31 wv hO))) | ((with_reducible refine is_append ?_); (first | (refine own_ap (o := ⟨some 32, _, _, _, _, _⟩) (hO := hO) (h := ?_); clear hO; intro g32 c32 wv hO))) | (go_at_call 17; (with_reducible refine (tbox_any hZ (hO.tapeIn (by (repeat (first | exact List.mem_cons_self | refine List.mem_cons_of_mem _ ?_))) (by (intro s hs; repeat (first | exact hs | exact List.mem_append_left _ hs | apply List.mem_append_right | apply List.mem_cons_of_mem))) hT.le)).mono ?_); rintro e wv ⟨v, i1, rfl, hv, hk, hT1⟩; replace hO := hO.after (by (repeat (first | exact Upd.here | apply Upd.there))) hk hT1.blk; replace hT := hT1; clear hT1 hk; obtain ⟨b, rfl, hgb⟩ := hv) | (go_at_call 18; (with_reducible refine (next_pos _ hZ (hO.tapeIn (by (repeat (first | exact List.mem_cons_self | refine List.mem_cons_of_mem _ ?_))) (by (intro s hs; repeat (first | exact hs | exact List.mem_append_left _ hs | apply List.mem_append_right | apply List.mem_cons_of_mem))) hT.le) (by omega) (by omega)).mono ?_); rintro e wv ⟨v, i1, rfl, hv, hk, hT1⟩; replace hO := hO.after (by (repeat (first | exact Upd.here | apply Upd.there))) hk hT1.blk; replace hT := hT1; clear hT1 hk; obtain ⟨r, rfl, hr0, hr1⟩ := hv) | (go_at_call 22; (with_reducible refine (spoil_any b hZ (hO.tapeIn (by (repeat (first | exact List.mem_cons_self | refine List.mem_cons_of_mem _ ?_))) (by (intro s hs; repeat (first | exact hs | exact List.mem_append_left _ hs | apply List.mem_append_right | apply List.mem_cons_of_mem))) hT.le) hgb.ok).mono ?_); rintro e wv ⟨v, i1, rfl, hv, hk, hT1⟩; replace hO := hO.after (by (repeat (first | exact Upd.here | apply Upd.there))) hk hT1.blk; replace hT := hT1; clear hT1 hk; obtain ⟨b', rfl, hgb'⟩ := hv))
        · go_roundw
          case rel =>
            refine ⟨k - 1, l ++ [b'], i1, by simp; omega, by congr 1; omega, fun x hx => ?_, (fun h => (by cases h)), (hO.tapeIn (by (repeat (first | exact List.mem_cons_self | refine List.mem_cons_of_mem _ ?_))) (by (intro s hs; repeat (first | exact hs | exact List.mem_append_left _ hs | apply List.mem_append_right | apply List.mem_cons_of_mem))) hT.le), ?_⟩
            · rcases List.mem_append.1 hx with hx | hx
              · exact hl x hx
              · obtain rfl := List.mem_singleton.1 hx; exact hgb'
            · simp only [cellsB_append, cellsB_one, List.length_append, List.length_cons, List.length_nil]
              exact hO.sub (.cons _ (.cons _ (.refl _))) (.refl _) (fun _ h => h)
          case measure => simp [intOf]; omega
        · go_roundw
          case rel =>
            refine ⟨k - 1, l ++ [b], i1, by simp; omega, by congr 1; omega, fun x hx => ?_, (fun h => (by cases h)), (hO.tapeIn (by (repeat (first | exact List.mem_cons_self | refine List.mem_cons_of_mem _ ?_))) (by (intro s hs; repeat (first | exact hs | exact List.mem_append_left _ hs | apply List.mem_append_right | apply List.mem_cons_of_mem))) hT.le), ?_⟩
            · rcases List.mem_append.1 hx with hx | hx
              · exact hl x hx
              · obtain rfl := List.mem_singleton.1 hx; exact hgb.ok
            · simp only [cellsB_append, cellsB_one, List.length_append, List.length_cons, List.length_nil]
              exact hO.sub (.cons _ (.cons _ (.refl _))) (.refl _) (fun _ h => h)
          case measure => simp [intOf]; omega
    · obtain rfl : k = 0 := by omega
      go_wp2_with (first | ((with_reducible refine is_load ?_); (first | (refine own_ld (h := ?_)))) | ((with_reducible refine is_store ?_); (first | (refine own_stR (hO := hO) (h := ?_); clear hO; intro wv hO) | (refine own_st1 (hO := hO) (h := ?_); clear hO; intro wv hO))))
      go_ret
      exact tpost hO (by (repeat (first | exact List.mem_cons_self | refine List.mem_cons_of_mem _ ?_))) (by (intro s hs; repeat (first | exact hs | exact List.mem_append_left _ hs | apply List.mem_append_right | apply List.mem_cons_of_mem))) hT.le ⟨l, own_boxes hO List.mem_cons_self, own_newT hO List.mem_cons_self (nodup_cons_row hO.nd), hl, by omega, hg, hO.row _ List.mem_cons_self⟩
theorem tboxes_any {w : World} {n : Nat} {sl : Value} {zs : List Int} {i : Nat} (m : Int) (wild : Bool) (hZ : ZsOk sl zs) (hT : TapeIn w n sl zs i) (h0 : 0 ≤ m) (hm : m ≤ 100) :
    Calls Tryd.prog 27 #[.pointer (some ⟨n, 0, none⟩), .int .i64 m, .bool wild] w (TPost w n sl zs (fun v w' => ∃ l : List Bx, IsBoxes w' v l ∧ NewFrom w v ∧ (∀ b ∈ l, b.ok) ∧ l.length ≤ m ∧ (wild = false → ∀ b ∈ l, Good b))) :=
  (tboxesR_any m wild hZ hT h0 hm).mono fun _ _ h => h.mono fun _ _ ⟨l, h1, h2, h3, h4, h5, _⟩ => ⟨l, h1, h2, h3, h4, h5⟩
end Go.Proofs.YtnhjcbmlplfpmaaDoor
