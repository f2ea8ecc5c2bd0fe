/- BoxReads: the walk. -/
import Derived.Test.YtnhjcbmlplfpmaaDoorLawT
namespace Go.Proofs.YtnhjcbmlplfpmaaDoor
open Go.RowKit
set_option maxRecDepth 100000

set_option maxHeartbeats 8000000 in
theorem reads_any (b : Bx) (h : Hd) (f v : Int) (w : World) (ht : Tops w) (ho : h.ok) (h0 : 0 ≤ v) :
    Calls Tryd.prog 19 #[bv b, hv h, .int .i64 f, .int .u32 v] w fun e w' => e = .returned (.bool true) ∧ Below w.heap.size w w' := by
  have hO := own_start [] w
  have e1 : (topI f == topI f) = true := by simp
  have e2 : decide (fullBx = fullBx) = true := by simp
  have e3 : decide (ofHd h = ofHd h) = true := by simp
  have e4 : (valI h f == valI h f) = true := by simp
  have e5 : decide (withHd h f v = withHd h f v) = true := by simp
  go_enter Tryd.func19, Tryd.ntmps19
  go_wp2_with (first | ((with_reducible refine is_load ?_); (first | (refine own_ld (hO := hO) (h := ?_)))) | ((with_reducible refine is_store ?_); (first | (refine own_stR (hO := hO) (h := ?_); clear hO; intro wv hO) | (refine own_st1 (hO := hO) (h := ?_); clear hO; intro wv hO))) | ((with_reducible refine is_box ?_); (first | (refine own_bx (o := ⟨some 4, _, _, _, _, _⟩) (hO := hO) (h := ?_); clear hO; intro n4 wv hO) | (refine own_bx (o := ⟨some 5, _, _, _, _, _⟩) (hO := hO) (h := ?_); clear hO; intro n5 wv hO))))
  (try simp only [Act.put]); (refine own_quiet hO (by kernel_rfl) (by kernel_rfl) ?_; clear hO; (repeat (first | go_big_quiet_skip | (go_big_quiet_want; (first | ((with_reducible refine is_loadQ ?_); (first | (refine q_ld (h := ?_))); (try simp only [Act.put, List.setIfInBounds_toArray, List.set_cons_zero, List.set_cons_succ]); go_big_quiet_on) | (go_big_quiet_op; (first | go_big_quiet_on | ((refine ⟨_, fun _ _ => rfl, ?_⟩); go_big_quiet_on) | go_big_quiet_call ((first | (intro hq; go_at_call 26; exact q_same (top_all _ _ (hq.tops ht (by simp))) hq) | (intro hq; go_at_call 39; exact q_same (rtop_all _ _) hq) | (intro hq; go_at_call 35; exact q_call (full_any _ (hq.tops ht (by simp))) hq) | (intro hq; go_at_call 36; exact q_call (rfull_any _) hq) | (intro hq; go_at_call 34; exact q_call (of_any _ _ ho) hq) | (intro hq; go_at_call 40; exact q_call (rof_any _ _ ho) hq) | (intro hq; go_at_call 25; exact q_call (value_all _ _ _ ho) hq) | (intro hq; go_at_call 41; exact q_call (rvalue_all _ _ _ ho) hq) | (intro hq; go_at_call 24; exact q_call (with_all _ _ _ _ (hq.tops ht (by simp)) ho h0) hq) | (intro hq; go_at_call 42; exact q_call (rwith_all _ _ _ _ ho h0) hq) | (intro hq; go_at_call 13; exact q_call (valid_any _ _ (hq.tops ht (by simp))) hq) | (intro hq; go_at_call 43; exact q_call (rvalid_any _ _) hq) | (intro hq; go_at_call 10; exact q_call (contains_any _ _ _ (hq.tops ht (by simp)) ho) hq) | (intro hq; go_at_call 44; exact q_call (rcontains_any _ _ _ ho) hq))))))))); (refine wpQuiet_nil ?_); intro wv hO)
  go_wp2_with (first | ((with_reducible refine is_load ?_); (first | (refine own_ld (hO := hO) (h := ?_)))) | ((with_reducible refine is_store ?_); (first | (refine own_stR (hO := hO) (h := ?_); clear hO; intro wv hO) | (refine own_st1 (hO := hO) (h := ?_); clear hO; intro wv hO))))
  go_ret
  exact ⟨rfl, hO.keep.below⟩

theorem loose_litF {P : Program} {o : Oper} {a : Act} {M : List Nat} {w0 w : World} {X : List Chunk} {R : List Row} {S : List Ro} {n : Nat} {sl : Value} {len : Nat} {bytes s : Nat} {t e len' : TypeId} {parts : Array (Nat × Operand)} {vals : List Value} {L : List Nat} (hC : TC M w0 n sl len X R S w) (ho : o.op = .buildSlice t len' parts) (ht : SliceT P t e s bytes) (hx : parts.toList.map (fun p => a.eval p.2) = vals) (hi : parts.toList.map (·.1) = List.range len')
    (hv : vals.all (fun v => v.cells.size == s) = true) (h0 : 0 < len') (h24 : len' * s ≤ 16777216) (hLn : L = n :: excl X R) : looseUpon P (TC M w0 n sl len X R S) [n] (IsLit L len' (flat vals)) w ((execOp a.eval o).run P w) := by
  rw [rx_buildN ho ht hx hi hv h0 h24]
  refine ⟨keep_alloc _ _ _, hC.alloc _ _, w.heap.size, rfl, ?_, ?_, by simp⟩
  · intro j v hj
    rw [cell_of_row _ _ (0 + j) (flat vals).toArray e (0, 0) (heap_alloc_new w _)]
    simpa using hj
  · obtain ⟨i, _, hO⟩ := hC
    subst hLn
    intro hm
    have := hO.lt w.heap.size (by simpa [excl] using hm)
    omega
theorem isBoxes_lit {L : List Nat} {x : Bx} {v : Value} {w : World} (h : IsLit L 1 (flat [bv x]) v w) : IsBoxes w v [x] := by
  obtain ⟨b, rfl, h2, _, _⟩ := h
  exact .inr ⟨b, 0, 1, rfl, Nat.le_refl _, h2⟩
theorem lit_off {L : List Nat} {len n : Nat} {cs : List Value} {v : Value} {w : World} (h : IsLit L len cs v w) (hn : n ∈ L) : v.ownBlock ≠ some n := by
  obtain ⟨b, rfl, _, h3, _⟩ := h
  intro e
  cases e
  exact h3 hn
set_option maxHeartbeats 8000000 in
theorem boxreads_law (sl : Value) (zs : List Int) (b : Bx) (h : Hd) (f v : Int) (w : World) (ht : Tops w) (hZ : ZsOk sl zs) (hr : ∀ s ∈ roS sl (ints zs), w.rangeAt s.g s.o s.xs) (ho : h.ok) (h0 : 0 ≤ v) :
    Calls Tryd.prog 5 #[sl, bv b, hv h, .int .i64 f, .int .u32 v] w fun e w' => e = .returned (.bool true) ∧ Below w.heap.size w w' := by
  have hO := own_law hr
  obtain ⟨sa, sc, rfl, -⟩ := hZ.view
  have HO := Lib.hid ho
  clear ho
  go_enter Tryd.func5, Tryd.ntmps5
  go_wp2_with (first | ((with_reducible refine is_load ?_); (first | (refine own_ld (hO := hO) (h := ?_)))) | ((with_reducible refine is_store ?_); (first | (refine own_stR (hO := hO) (h := ?_); clear hO; intro wv hO) | (refine own_st1 (hO := hO) (h := ?_); clear hO; intro wv hO))) | ((with_reducible refine is_box ?_); (first | (refine own_bx (o := ⟨some 6, _, _, _, _, _⟩) (hO := hO) (h := ?_); clear hO; intro n6 wv hO) | (refine own_bx (o := ⟨some 7, _, _, _, _, _⟩) (hO := hO) (h := ?_); clear hO; intro n7 wv hO))) | (go_at_call 16; (with_reducible refine (new_any _ _ _).mono ?_); rintro e wv ⟨n, rfl, hB, hn, hb⟩; replace hO := hO.gain hb hB hn; have hT := hO.tapeIn List.mem_cons_self (by (intro s hs; repeat (first | exact hs | exact List.mem_append_left _ hs | apply List.mem_append_right | apply List.mem_cons_of_mem))) (Nat.zero_le _); clear hb hB hn))
  go_loopw [12] (fun q wr => ∃ (k i : Nat), k ≤ 5 ∧ q = .int .i64 k ∧ TapeIn wr n (.slice sa zs.length sc) zs i ∧ Own [] w [⟨n, tcs (.slice sa zs.length sc) i, 66⟩, ⟨n7, hcs h, 29⟩, ⟨n6, bcs b, 26⟩] [] (roS (.slice sa zs.length sc) (ints zs)) wr) (fun q _ => 5 - (intOf q).toNat)
  case atStart => exact ⟨0, 0, by omega, rfl, hT, hO⟩
  case round =>
    clear hO hT
    obtain ⟨k, i, hk, rfl, hT, hO⟩ := hrel
    by_cases hlt : k < 5
    · go_wp2_with (first | ((with_reducible refine is_load ?_); (first | (refine own_ld (hO := hO) (h := ?_)))) | ((with_reducible refine is_store ?_); (first | (refine own_stR (hO := hO) (h := ?_); clear hO; intro wv hO) | (refine own_st1 (hO := hO) (h := ?_); clear hO; intro wv hO))) | ((with_reducible refine is_alloc ?_); (first | (refine own_al (o := ⟨some 13, _, _, _, _, _⟩) (hO := hO) (h := ?_); clear hO; intro n13 wv hO))) | (go_at_call 17; (with_reducible refine (tbox_any hZ (hO.tapeIn (by (repeat (first | exact List.mem_cons_self | refine List.mem_cons_of_mem _ ?_))) (by (intro s hs; repeat (first | exact hs | exact List.mem_append_left _ hs | apply List.mem_append_right | apply List.mem_cons_of_mem))) hT.le)).mono ?_); rintro e wv ⟨v, i1, rfl, hv, hk, hT1⟩; replace hO := hO.after (by (repeat (first | exact Upd.here | apply Upd.there))) hk hT1.blk; replace hT := hT1; clear hT1 hk; obtain ⟨x, rfl, hx⟩ := hv))
      have hxok := hx.ok
      (try simp only [Act.put, List.setIfInBounds_toArray, List.set_cons_zero, List.set_cons_succ]); (refine own_tloose 26 [(25, IsLit [n, n13, n7, n6] 1 (flat [bv x])), (26, IsHd), (28, fun v _ => ∃ r, v = .int .i64 r ∧ 0 ≤ r ∧ r < 7), (31, U32 4294967295), (32, fun v _ => v = .bool true), (37, IsBx), (40, IsLit [n, n13, n7, n6] 1 (flat [bv x])), (41, IsHd), (44, U32 65536), (45, fun v _ => v = .bool true)] hO hT (by repeat (first | exact Pick.here | apply Pick.there)) (by kernel_rfl) (by kernel_rfl) (by rfl) ?hl ?_); (case hl => (repeat (first | exact lasts_nil | (refine lasts_cons (fun v w w' _ _ hk h => ?_) ?_; focus (first | exact h | exact IsLit.keep h hk (by simp) | exact IsElt.keep h hk (by simp)))))); (clear hO; simp only [List.take_succ_cons, List.take_zero, List.drop_succ_cons, List.drop_zero, List.take_nil, List.drop_nil]); (repeat (first | (refine loose_plain (by (intro _ hd; cases hd; rfl)) (by rfl) (fun _ h => TC.own h) ?_; (first | go_big_quiet_skip | (go_big_quiet_want; (first | ((with_reducible refine is_loadQ ?_); (first | (refine q_ld (h := ?_))); (try simp only [Act.put, List.setIfInBounds_toArray, List.set_cons_zero, List.set_cons_succ]); go_big_quiet_on) | (go_big_quiet_op; (first | go_big_quiet_on | ((refine ⟨_, fun _ _ => rfl, ?_⟩); go_big_quiet_on)))))); refine wpQuiet_nil ?_; (try simp only [Act.put, List.setIfInBounds_toArray, List.set_cons_zero, List.set_cons_succ])) | (refine loose_fact (by rfl) rfl (by rfl) ?_ ?_ (Nat.le_of_ble_eq_true rfl); (focus (intro w1 hC hF; (first | (exact loose_lit hC rfl (by first | exact slice_u32 | exact slice_u8) rfl rfl (by rfl) (by decide) (by decide) (by simp [excl])) | (exact loose_litF hC rfl slice_Boxes rfl rfl (by rfl) (by decide) (by decide) (by simp [excl])) | (obtain ⟨i1, hi1, hO⟩ := hC; go_simp; (first | (have hl := hF 40 (by simp [insF]) (List.mem_cons_of_mem _ List.mem_cons_self) _ rfl; go_at_call 20; refine (near_any _ [x] hZ (hO.tapeIn List.mem_cons_self (by (intro s hs; repeat (first | exact hs | exact List.mem_append_left _ hs | apply List.mem_append_right | apply List.mem_cons_of_mem))) hi1) (isBoxes_lit hl) (lit_off hl (by simp)) (by simpa using hxok) (by simp)).mono ?_; rintro e w3 ⟨v, i2, rfl, hv, hk, hT1⟩; exact ⟨_, rfl, hk, TC.next hO hk hT1, hv⟩) | (have hl := hF 25 (by simp [insF]) (List.mem_cons_of_mem _ List.mem_cons_self) _ rfl; go_at_call 20; refine (near_any _ [x] hZ (hO.tapeIn List.mem_cons_self (by (intro s hs; repeat (first | exact hs | exact List.mem_append_left _ hs | apply List.mem_append_right | apply List.mem_cons_of_mem))) hi1) (isBoxes_lit hl) (lit_off hl (by simp)) (by simpa using hxok) (by simp)).mono ?_; rintro e w3 ⟨v, i2, rfl, hv, hk, hT1⟩; exact ⟨_, rfl, hk, TC.next hO hk hT1, hv⟩) | (go_at_call 18; (with_reducible refine (next_pos _ hZ (hO.tapeIn List.mem_cons_self (by (intro s hs; repeat (first | exact hs | exact List.mem_append_left _ hs | apply List.mem_append_right | apply List.mem_cons_of_mem))) hi1) (by omega) (by omega)).mono ?_); rintro e w3 ⟨v, i2, rfl, hv, hk, hT1⟩; exact ⟨_, rfl, hk, TC.next hO hk hT1, hv⟩) | (go_at_call 21; (with_reducible refine (number_any _ hZ (hO.tapeIn List.mem_cons_self (by (intro s hs; repeat (first | exact hs | exact List.mem_append_left _ hs | apply List.mem_append_right | apply List.mem_cons_of_mem))) hi1) (by omega) (by omega)).mono ?_); rintro e w3 ⟨v, i2, rfl, hv, hk, hT1⟩; exact ⟨_, rfl, hk, TC.next hO hk hT1, hv⟩) | (go_at_call 22; (with_reducible refine (spoil_any x hZ (hO.tapeIn List.mem_cons_self (by (intro s hs; repeat (first | exact hs | exact List.mem_append_left _ hs | apply List.mem_append_right | apply List.mem_cons_of_mem))) hi1) hxok).mono ?_); rintro e w3 ⟨v, i2, rfl, hv, hk, hT1⟩; exact ⟨_, rfl, hk, TC.next hO hk hT1, hv⟩) | (go_at_call 19; (with_reducible refine (reads_any _ _ _ _ _ (hO.tops ht (by simp)) (by assumption) (by omega)).mono ?_); rintro e w3 ⟨rfl, hb⟩; exact ⟨_, rfl, keep_of_below hb _, TC.call ⟨i1, hi1, hO⟩ hb, rfl⟩)))))); (intro u w1 hC hu; (first | (obtain ⟨h, rfl, hh⟩ : IsHd u w1 := hu) | (obtain ⟨b, rfl, hb⟩ : IsBx u w1 := hu) | (obtain ⟨b, rfl, hb⟩ : IsBox u w1 := hu) | obtain ⟨r, rfl, hr0, hr1⟩ := hu | (try subst hu)); (try simp only [Act.put, List.setIfInBounds_toArray, List.set_cons_zero, List.set_cons_succ]))) | (refine loose_skip (by rfl) ?_; (try simp only [Act.put, List.setIfInBounds_toArray, List.set_cons_zero, List.set_cons_succ])))); (refine wpLoose_nil ?_); intro wv hI; obtain ⟨⟨i1, hi1, hO⟩, hF⟩ := hI; have hT := hO.tapeIn List.mem_cons_self (by (intro s hs; repeat (first | exact hs | exact List.mem_append_left _ hs | apply List.mem_append_right | apply List.mem_cons_of_mem))) hi1; (try refine wpList_done ?_)
      go_wp2_with (first | ((with_reducible refine is_load ?_); (first | (refine own_ld (hO := hO) (h := ?_)))) | ((with_reducible refine is_store ?_); (first | (refine own_stR (hO := hO) (h := ?_); clear hO; intro wv hO) | (refine own_st1 (hO := hO) (h := ?_); clear hO; intro wv hO))))
      go_roundw
      case rel => exact ⟨k + 1, i1, by omega, by go_num, hT, hO.sub (.cons_cons _ (.cons _ (.refl _))) (.refl _) (fun _ h => h)⟩
      case measure => simp [intOf]; omega
    · have ho := HO.out
      go_wp2_with (first | ((with_reducible refine is_load ?_); (first | (refine own_ld (hO := hO) (h := ?_)))) | ((with_reducible refine is_store ?_); (first | (refine own_stR (hO := hO) (h := ?_); clear hO; intro wv hO) | (refine own_st1 (hO := hO) (h := ?_); clear hO; intro wv hO))))
      (try simp only [Act.put]); (refine own_quiet hO (by kernel_rfl) (by kernel_rfl) ?_; clear hO; (repeat (first | go_big_quiet_skip | (go_big_quiet_want; (first | ((with_reducible refine is_loadQ ?_); (first | (refine q_ld (h := ?_))); (try simp only [Act.put, List.setIfInBounds_toArray, List.set_cons_zero, List.set_cons_succ]); go_big_quiet_on) | (go_big_quiet_op; (first | go_big_quiet_on | ((refine ⟨_, fun _ _ => rfl, ?_⟩); go_big_quiet_on) | go_big_quiet_call ((first | (intro hq; go_at_call 19; exact q_call (reads_any _ _ _ _ _ (hq.tops ht (by simp)) ho h0) hq) | (intro hq; go_at_call 23; exact q_same (mod_is _ _ _ (by omega) (by omega)) hq) | (intro hq; go_at_call 15; exact q_call (sane_any _ (hq.tops ht (by simp))) hq))))))))); (refine wpQuiet_nil ?_); intro wv hO)
      go_wp2_with (first | ((with_reducible refine is_load ?_); (first | (refine own_ld (hO := hO) (h := ?_)))) | ((with_reducible refine is_store ?_); (first | (refine own_stR (hO := hO) (h := ?_); clear hO; intro wv hO) | (refine own_st1 (hO := hO) (h := ?_); clear hO; intro wv hO))))
      go_ret
      exact ⟨rfl, hO.keep.below⟩
end Go.Proofs.YtnhjcbmlplfpmaaDoor
