/- The tape's generators: numbers, ranges, addresses. -/
import Derived.Test.YtnhjcbmlplfpmaaDoorTape
namespace Go.Proofs.YtnhjcbmlplfpmaaDoor
open Go.RowKit
set_option maxRecDepth 100000

theorem slice_u32 : SliceT Tryd.prog 68 22 1 4 := ⟨Tryd.underlying68, by omega, by
  obtain ⟨i, h1, h2, h3, h4⟩ := info_parts (show (Tryd.prog.info? 22).map (fun i => (i.zero, i.size, i.bytes)) = some (some (.int .u32 0), 1, 4) by kernel_rfl)
  exact ⟨i, _, h1, h2, h3, h4, rfl⟩⟩
def U32 (hi : Int) : Value → World → Prop := fun v _ => ∃ x, v = .int .u32 x ∧ 0 ≤ x ∧ x ≤ hi
theorem number_any {w : World} {n : Nat} {sl : Value} {zs : List Int} {i : Nat} (top : Int) (hZ : ZsOk sl zs) (hT : TapeIn w n sl zs i) (h0 : 0 ≤ top) (h1 : top ≤ 4294967295) :
    Calls Tryd.prog 21 #[.pointer (some ⟨n, 0, none⟩), .int .u32 top] w (TPost w n sl zs (U32 top)) := by
  have hO := own_tape hT
  have hP : ∀ v ∈ [Value.int .u32 0, .int .u32 1, .int .u32 2, .int .u32 5, .int .u32 7, .int .u32 8, .int .u32 9, .int .u32 15, .int .u32 16, .int .u32 80, .int .u32 255, .int .u32 256, .int .u32 1024, .int .u32 65535, .int .u32 (top / 2), .int .u32 ((top - 1) % 4294967296), .int .u32 top], ∃ x, v = .int .u32 x ∧ 0 ≤ x ∧ x ≤ 4294967295 := (by repeat (first | exact all_nil | refine all_cons ⟨_, rfl, by omega, by omega⟩ ?_))
  go_enter Tryd.func21, Tryd.ntmps21
  go_wp2_with (first | ((with_reducible refine is_load ?_); (first | (refine own_ld (h := ?_)))) | ((with_reducible refine is_store ?_); (first | (refine own_stR (hO := hO) (h := ?_); clear hO; intro wv hO) | (refine own_st1 (hO := hO) (h := ?_); clear hO; intro wv hO))) | ((with_reducible refine is_build ?_); (refine' own_buildP (o := ⟨some 11, _, _, _, _, _⟩) [.int .u32 0, .int .u32 1, .int .u32 2, .int .u32 5, .int .u32 7, .int .u32 8, .int .u32 9, .int .u32 15, .int .u32 16, .int .u32 80, .int .u32 255, .int .u32 256, .int .u32 1024, .int .u32 65535, .int .u32 (top / 2), .int .u32 ((top - 1) % 4294967296), .int .u32 top] hO (by rfl) rfl slice_u32 rfl rfl (by rfl) (by decide) (by decide) ?_); clear hO; intro n11 wv hO) | (go_at_call 18; (with_reducible refine (next_pos _ hZ (hO.tapeIn (by (repeat (first | exact List.mem_cons_self | refine List.mem_cons_of_mem _ ?_))) (by (intro s hs; repeat (first | exact hs | exact List.mem_append_left _ hs | apply List.mem_append_right | apply List.mem_cons_of_mem))) hT.le) (by omega) (by omega)).mono ?_); rintro e wv ⟨v, i1, rfl, hv, hk, hT1⟩; replace hO := hO.after (by (repeat (first | exact Upd.here | apply Upd.there))) hk hT1.blk; replace hT := hT1; clear hT1 hk; obtain ⟨r, rfl, hr0, hr1⟩ := hv) | ((with_reducible refine is_load ?_); (refine' own_loadE (o := ⟨some 15, _, _, _, _, _⟩) hO (by rfl) rfl rfl ?ht ?hm ?hl ?_); (case ht => (with_reducible (first | exact one_u32 | exact one_int | exact one_u16 | exact one_u8 | exact one_ints | exact one_bool | exact one_bytes | exact one_u64 | exact one_set))); (case hm => (repeat (first | exact List.mem_cons_self | refine List.mem_cons_of_mem _ ?_))); (case hl => (first | (simp; done) | (simp; omega))); intro v hv; obtain ⟨x, rfl, hx, kx⟩ := hP v hv; clear hv))
  go_ret
  exact tpost hO (by (repeat (first | exact List.mem_cons_self | refine List.mem_cons_of_mem _ ?_))) (by (intro s hs; repeat (first | exact hs | exact List.mem_append_left _ hs | apply List.mem_append_right | apply List.mem_cons_of_mem))) hT.le ⟨_, rfl, by omega, by omega⟩

def IsRg (hi : Int) : Value → World → Prop := fun v _ => ∃ a b, v = .agg #[.int .u32 a, .int .u32 b] ∧ 0 ≤ a ∧ a ≤ b ∧ b ≤ hi
theorem range_any {w : World} {n : Nat} {sl : Value} {zs : List Int} {i : Nat} (top : Int) (hZ : ZsOk sl zs) (hT : TapeIn w n sl zs i) (h0 : 0 ≤ top) (h1 : top ≤ 4294967295) :
    Calls Tryd.prog 38 #[.pointer (some ⟨n, 0, none⟩), .int .u32 top] w (TPost w n sl zs (IsRg top)) := by
  have hO := own_tape hT
  go_enter Tryd.func38, Tryd.ntmps38
  go_wp2_with (first | ((with_reducible refine is_load ?_); (first | (refine own_ld (h := ?_)))) | ((with_reducible refine is_store ?_); (first | (refine own_stR (hO := hO) (h := ?_); clear hO; intro wv hO) | (refine own_st1 (hO := hO) (h := ?_); clear hO; intro wv hO))) | ((with_reducible refine is_alloc ?_); (first | (refine own_al (o := ⟨some 4, _, _, _, _, _⟩) (hO := hO) (h := ?_); clear hO; intro n4 wv hO))) | (go_at_call 21; (with_reducible refine (number_any _ hZ (hO.tapeIn (by (repeat (first | exact List.mem_cons_self | refine List.mem_cons_of_mem _ ?_))) (by (intro s hs; repeat (first | exact hs | exact List.mem_append_left _ hs | apply List.mem_append_right | apply List.mem_cons_of_mem))) hT.le) h0 h1).mono ?_); rintro e wv ⟨v, i1, rfl, hv, hk, hT1⟩; replace hO := hO.after (by (repeat (first | exact Upd.here | apply Upd.there))) hk hT1.blk; replace hT := hT1; clear hT1 hk; obtain ⟨r, rfl, hr0, hr1⟩ := hv))
  exact bodyPost_ret (own_res_cell hO Tryd.results38 rfl (by (repeat (first | exact List.mem_cons_self | refine List.mem_cons_of_mem _ ?_))) (by (exact row_len (by (with_reducible (first | exact row_Box | exact row_Range | exact row_Header | exact row_Five | exact row_Tape | exact row_Prefix | exact row_Truths | exact row_Packet))) (by rfl))) rfl) rfl (tpost hO (by (repeat (first | exact List.mem_cons_self | refine List.mem_cons_of_mem _ ?_))) (by (intro s hs; repeat (first | exact hs | exact List.mem_append_left _ hs | apply List.mem_append_right | apply List.mem_cons_of_mem))) hT.le ⟨_, _, rfl, by omega, by omega, by omega⟩)

/-! ### the six subnets -/
theorem row_Prefix : RowT Tryd.prog 79 2 := ⟨_, Tryd.underlying79, rfl, by kernel_rfl⟩
theorem zero_Prefix : ZeroT Tryd.prog 79 [.int .u32 0, .int .i64 0] := by unfold ZeroT; kernel_rfl
theorem slice_Prefix : SliceT Tryd.prog 87 79 2 16 := ⟨Tryd.underlying87, by omega, by
  obtain ⟨i, h1, h2, h3, h4⟩ := info_parts (show (Tryd.prog.info? 79).map (fun i => (i.zero, i.size, i.bytes)) = some (some (.agg #[.int .u32 0, .int .i64 0]), 2, 16) by kernel_rfl)
  exact ⟨i, _, h1, h2, h3, h4, rfl⟩⟩
/-- an address and its bits, of a subnet; where it begins and ends -/
def Subn (a b lo hi : Int) : Prop := (a = 167772160 ∧ b = 24 ∧ lo = 167772160 ∧ hi = 167772415) ∨ (a = 167772416 ∧ b = 24 ∧ lo = 167772416 ∧ hi = 167772671) ∨ (a = 167772672 ∧ b = 25 ∧ lo = 167772672 ∧ hi = 167772799) ∨ (a = 167772800 ∧ b = 26 ∧ lo = 167772800 ∧ hi = 167772863) ∨ (a = 2886729728 ∧ b = 16 ∧ lo = 2886729728 ∧ hi = 2886795263) ∨ (a = 3232237321 ∧ b = 32 ∧ lo = 3232237321 ∧ hi = 3232237321)
theorem size_sub (b s : Int) (w : World) (h : (b = 16 ∧ s = 65536) ∨ (b = 24 ∧ s = 256) ∨ (b = 25 ∧ s = 128) ∨ (b = 26 ∧ s = 64) ∨ (b = 32 ∧ s = 1)) : Calls Tryd.prog 61 #[.int .i64 b] w fun e w' => e = .returned (.int .u64 s) ∧ w = w' := by
  rcases h with ⟨rfl, rfl⟩ | ⟨rfl, rfl⟩ | ⟨rfl, rfl⟩ | ⟨rfl, rfl⟩ | ⟨rfl, rfl⟩
  all_goals
    go_enter Tryd.func61, Tryd.ntmps61
    go_wp2
    go_ret
    exact ⟨rfl, rfl⟩
set_option maxHeartbeats 1000000 in
theorem pvalid_sub (a b lo hi : Int) (w : World) (h : Subn a b lo hi) : Calls Tryd.prog 60 #[.agg #[.int .u32 a, .int .i64 b]] w fun e w' => e = .returned (.bool true) ∧ Below w.heap.size w w' := by
  have hO := own_start [] w
  rcases h with ⟨rfl, rfl, rfl, rfl⟩ | ⟨rfl, rfl, rfl, rfl⟩ | ⟨rfl, rfl, rfl, rfl⟩ | ⟨rfl, rfl, rfl, rfl⟩ | ⟨rfl, rfl, rfl, rfl⟩ | ⟨rfl, rfl, rfl, rfl⟩
  all_goals
    go_enter Tryd.func60, Tryd.ntmps60
    go_wp2_with (first | ((with_reducible refine is_load ?_); (first | (refine own_ld (h := ?_)))) | ((with_reducible refine is_store ?_); (first | (refine own_stR (hO := hO) (h := ?_); clear hO; intro wv hO) | (refine own_st1 (hO := hO) (h := ?_); clear hO; intro wv hO))) | ((with_reducible refine is_box ?_); (first | (refine own_bx (o := ⟨some 1, _, _, _, _, _⟩) (hO := hO) (h := ?_); clear hO; intro n1 wv hO))))
    (try simp only [Act.put]); (refine own_quiet hO (by kernel_rfl) (by kernel_rfl) ?_; clear hO; (repeat (first | go_big_quiet_skip | (go_big_quiet_want; (first | ((with_reducible refine is_loadQ ?_); (first | (refine q_ld (h := ?_))); (try simp only [Act.put]); (try simp only [List.setIfInBounds_toArray, List.set_cons_zero, List.set_cons_succ]); go_big_quiet_on) | (go_big_quiet_op; (first | go_big_quiet_on | ((refine ⟨_, fun _ _ => rfl, ?_⟩); go_big_quiet_on) | go_big_quiet_call ((intro hq; go_at_call 61; exact q_same (size_sub _ _ _ (by first | exact .inl ⟨rfl, rfl⟩ | exact .inr (.inl ⟨rfl, rfl⟩) | exact .inr (.inr (.inl ⟨rfl, rfl⟩)) | exact .inr (.inr (.inr (.inl ⟨rfl, rfl⟩))) | exact .inr (.inr (.inr (.inr ⟨rfl, rfl⟩))))) hq)))))))); (refine wpQuiet_nil ?_); intro wv hO)
    go_wp2_with (first | ((with_reducible refine is_load ?_); (first | (refine own_ld (h := ?_)))) | ((with_reducible refine is_store ?_); (first | (refine own_stR (hO := hO) (h := ?_); clear hO; intro wv hO) | (refine own_st1 (hO := hO) (h := ?_); clear hO; intro wv hO))))
    go_ret
    exact ⟨rfl, hO.keep.below⟩
set_option maxHeartbeats 1000000 in
theorem pof_sub (a b lo hi : Int) (w : World) (h : Subn a b lo hi) : Calls Tryd.prog 54 #[.agg #[.int .u32 a, .int .i64 b]] w fun e w' => e = .returned (.tuple #[.agg #[.int .u32 lo, .int .u32 hi], .bool true]) ∧ Below w.heap.size w w' := by
  have hO := own_start [] w
  have hV := fun w => pvalid_sub a b lo hi w h
  rcases h with ⟨rfl, rfl, rfl, rfl⟩ | ⟨rfl, rfl, rfl, rfl⟩ | ⟨rfl, rfl, rfl, rfl⟩ | ⟨rfl, rfl, rfl, rfl⟩ | ⟨rfl, rfl, rfl, rfl⟩ | ⟨rfl, rfl, rfl, rfl⟩
  all_goals
    go_enter Tryd.func54, Tryd.ntmps54
    go_wp2_with (first | ((with_reducible refine is_load ?_); (first | (refine own_ld (h := ?_)))) | ((with_reducible refine is_store ?_); (first | (refine own_stR (hO := hO) (h := ?_); clear hO; intro wv hO) | (refine own_st1 (hO := hO) (h := ?_); clear hO; intro wv hO))) | ((with_reducible refine is_box ?_); (first | (refine own_bx (o := ⟨some 1, _, _, _, _, _⟩) (hO := hO) (h := ?_); clear hO; intro n1 wv hO))) | ((with_reducible refine is_alloc ?_); (first | (refine own_al (o := ⟨some 2, _, _, _, _, _⟩) (hO := hO) (h := ?_); clear hO; intro n2 wv hO))) | (go_at_call 60; refine (hV _).mono ?_; rintro e wv ⟨rfl, hb⟩; replace hO := hO.call hb; clear hb))
    (try simp only [Act.put]); (refine own_tail 12 hO (by kernel_rfl) (by kernel_rfl) (by repeat (first | exact Split.zero _ | apply Split.succ)) ?_; clear hO; intro wv hO; (repeat ((refine wpStill_step (fun K hK => ?_)); (first | ((rw [if_pos (by rfl)]); (with_reducible refine is_loadS ?_); (first | (refine s_ld (h := ?_))); (try simp only [Act.put]); (try simp only [List.setIfInBounds_toArray, List.set_cons_zero, List.set_cons_succ]); (refine hK _ ?_); clear hK K) | (go_simp; (refine hK _ ?_); clear hK K) | (go_simp; apply Exists.intro; (refine ⟨?_, hK _ ?_⟩); (focus ((go_at_call 61; exact (size_sub _ _ _ (by first | exact .inl ⟨rfl, rfl⟩ | exact .inr (.inl ⟨rfl, rfl⟩) | exact .inr (.inr (.inl ⟨rfl, rfl⟩)) | exact .inr (.inr (.inr (.inl ⟨rfl, rfl⟩))) | exact .inr (.inr (.inr (.inr ⟨rfl, rfl⟩))))).mono fun _ _ h => ⟨h.1, h.2.symm⟩))); clear hK K)))); (refine wpStill_nil ?_))
    go_wp2_with (first | ((with_reducible refine is_load ?_); (first | (refine own_ld (h := ?_)))) | ((with_reducible refine is_store ?_); (first | (refine own_stR (hO := hO) (h := ?_); clear hO; intro wv hO) | (refine own_st1 (hO := hO) (h := ?_); clear hO; intro wv hO))))
    exact bodyPost_ret (own_res_cell_tmp hO Tryd.results54 rfl (by (repeat (first | exact List.mem_cons_self | refine List.mem_cons_of_mem _ ?_))) (by (exact row_len (by (with_reducible (first | exact row_Box | exact row_Range | exact row_Header | exact row_Five | exact row_Tape | exact row_Prefix | exact row_Truths | exact row_Packet))) (by rfl))) rfl rfl) rfl ⟨rfl, hO.keep.below⟩
def IsSub : Value → World → Prop := fun v _ => ∃ a b, v = .agg #[.int .u32 a, .int .i64 b] ∧ ∃ lo hi, Subn a b lo hi
theorem subnet_any (m : Int) (w : World) : Calls Tryd.prog 55 #[.int .i64 m] w fun e w' => ∃ v, e = .returned v ∧ IsSub v w ∧ Below w.heap.size w w' := by
  have hO := own_start [] w
  have hb := modI_bd m (n := 6) (by omega)
  have hP : ∀ v ∈ [Value.agg #[.int .u32 167772160, .int .i64 24], .agg #[.int .u32 167772416, .int .i64 24], .agg #[.int .u32 167772672, .int .i64 25], .agg #[.int .u32 167772800, .int .i64 26], .agg #[.int .u32 2886729728, .int .i64 16], .agg #[.int .u32 3232237321, .int .i64 32]], IsSub v w := by
    unfold IsSub Subn
    repeat (first | exact all_nil | refine all_cons ⟨_, _, rfl, _, _, by first | exact .inl ⟨rfl, rfl, rfl, rfl⟩ | exact .inr (.inl ⟨rfl, rfl, rfl, rfl⟩) | exact .inr (.inr (.inl ⟨rfl, rfl, rfl, rfl⟩)) | exact .inr (.inr (.inr (.inl ⟨rfl, rfl, rfl, rfl⟩))) | exact .inr (.inr (.inr (.inr (.inl ⟨rfl, rfl, rfl, rfl⟩)))) | exact .inr (.inr (.inr (.inr (.inr ⟨rfl, rfl, rfl, rfl⟩))))⟩ ?_)
  go_enter Tryd.func55, Tryd.ntmps55
  go_wp2_with (first | ((with_reducible refine is_load ?_); (first | (refine own_ld (h := ?_)))) | ((with_reducible refine is_store ?_); (first | (refine own_stR (hO := hO) (h := ?_); clear hO; intro wv hO) | (refine own_st1 (hO := hO) (h := ?_); clear hO; intro wv hO))) | ((with_reducible refine is_alloc ?_); (first | (refine own_al (o := ⟨some 2, _, _, _, _, _⟩) (hO := hO) (h := ?_); clear hO; intro n2 wv hO))) | ((with_reducible refine is_build ?_); (refine' own_buildN (o := ⟨some 9, _, _, _, _, _⟩) [.agg #[.int .u32 167772160, .int .i64 24], .agg #[.int .u32 167772416, .int .i64 24], .agg #[.int .u32 167772672, .int .i64 25], .agg #[.int .u32 167772800, .int .i64 26], .agg #[.int .u32 2886729728, .int .i64 16], .agg #[.int .u32 3232237321, .int .i64 32]] hO (by rfl) rfl slice_Prefix rfl rfl (by rfl) (by decide) (by decide) ?_); clear hO; intro n9 wv hO) | (go_at_call 23; refine (mod_is _ _ _ (by omega) (by omega)).mono ?_; rintro e _ ⟨rfl, rfl⟩) | ((with_reducible refine is_load ?_); (refine' own_loadF (o := ⟨some 13, _, _, _, _, _⟩) hO (by rfl) rfl rfl row_Prefix (by repeat (first | exact List.mem_cons_self | refine List.mem_cons_of_mem _ ?_)) ?hl (by rfl) ?_); (case hl => (first | (simp; done) | (simp; omega))); intro v hv; obtain ⟨a, b, rfl, hsub⟩ := hP v hv; clear hv))
  exact bodyPost_ret (own_res_cell hO Tryd.results55 rfl (by (repeat (first | exact List.mem_cons_self | refine List.mem_cons_of_mem _ ?_))) (by (exact row_len (by (with_reducible (first | exact row_Box | exact row_Range | exact row_Header | exact row_Five | exact row_Tape | exact row_Prefix | exact row_Truths | exact row_Packet))) (by rfl))) rfl) rfl ⟨_, rfl, ⟨_, _, rfl, hsub⟩, hO.keep.below⟩
end Go.Proofs.YtnhjcbmlplfpmaaDoor
