/- Regions that draw their order and read a tape: the laws; addresses, boxes, headers of a tape. -/
import Derived.Test.YtnhjcbmlplfpmaaDoorTapeB
import Derived.Test.YtnhjcbmlplfpmaaDoorRefBoxB
namespace Go.Proofs.YtnhjcbmlplfpmaaDoor
open Go.RowKit
set_option maxRecDepth 100000

inductive Pick : List Chunk → Chunk → List Chunk → Prop
  | here {c : Chunk} {X : List Chunk} : Pick (c :: X) c X
  | there {c d : Chunk} {X X' : List Chunk} : Pick X c X' → Pick (d :: X) c (d :: X')
theorem Pick.perm {X X' : List Chunk} {c : Chunk} (h : Pick X c X') : X.Perm (c :: X') := by
  induction h with
  | here => exact .refl _
  | there _ ih => exact (List.Perm.cons _ ih).trans (List.Perm.swap _ _ _)
theorem Own.perm {M : List Nat} {w0 w : World} {X X' : List Chunk} {R : List Row} {S : List Ro} (hO : Own M w0 X R S w) (h : X.Perm X') : Own M w0 X' R S w := by
  have hp : (excl X R).Perm (excl X' R) := (h.map _).append_right _
  exact ⟨hO.keep, fun c hc => hO.chunk c (h.symm.subset hc), hO.row, hO.ro, hp.nodup_iff.1 hO.nd, fun n hn => hO.free n (hp.symm.subset hn), fun s hs hne hm => hO.apart s hs hne (hp.symm.subset hm)⟩
/-- worlds in which the tape stands anywhere -/
def TC (M : List Nat) (w0 : World) (n : Nat) (sl : Value) (len : Nat) (X : List Chunk) (R : List Row) (S : List Ro) : World → Prop := fun w => ∃ i, i ≤ len ∧ Own M w0 (⟨n, tcs sl i, 66⟩ :: X) R S w
section
variable {P : Program} {ops : Array Oper} {rest : List Oper} {o : Oper} {a : Act} {Q : Exit → Act → World → Prop} {M : List Nat} {w0 w w' : World} {X X' : List Chunk} {R : List Row} {S : List Ro} {n : Nat} {sl : Value} {len : Nat}
theorem TC.own (h : TC M w0 n sl len X R S w) : Own M w0 X R S w := by
  obtain ⟨i, _, h⟩ := h
  exact h.sub (.cons _ (.refl _)) (.refl _) (fun _ h => h)
theorem TC.call (h : TC M w0 n sl len X R S w) (hb : Below w.heap.size w w') : TC M w0 n sl len X R S w' := by
  obtain ⟨i, hi, h⟩ := h
  exact ⟨i, hi, h.call hb⟩
theorem TC.alloc (h : TC M w0 n sl len X R S w) (cs : List Value) (t : TypeId) : TC M w0 n sl len X R S (w.alloc (.cells cs.toArray t (0, 0))) := by
  obtain ⟨i, hi, h⟩ := h
  exact ⟨i, hi, (h.alloc cs t).sub (.cons _ (.refl _)) (.refl _) (fun _ h => h)⟩
theorem TC.next {sl : Value} {zs : List Int} {i : Nat} (hO : Own M w0 (⟨n, tcs sl i, 66⟩ :: X) R S w) (hk : Keep [n] w w') {i' : Nat} (hT : TapeIn w' n sl zs i') : TC M w0 n sl zs.length X R S w' :=
  ⟨i', hT.le, hO.after .here hk hT.blk⟩
theorem own_tloose {id : Nat} {l l1 l2 : List Oper} {i : Nat} (k : Nat) (T : Facts) (hO : Own M w0 X R S w) {zs : List Int} {w2 : World} (hT : TapeIn w2 n sl zs i) (hp : Pick X ⟨n, tcs sl i, 66⟩ X') (hm : P.follows .mixedOrders = true) (hB : headB .any l.toArray k = true) (hf : fitsB l.toArray a.tmps.size = true)
    (hs : Split k l l1 l2) (hL : Lasts [n] (TC M w0 n sl zs.length X' R S) T)
    (h : wpLoose P l.toArray (TC M w0 n sl zs.length X' R S) [n] T (fun F a' => ∀ w', Inv (TC M w0 n sl zs.length X' R S) T F a' w' → wpList P l.toArray Q l2 a' w') l1 (fun _ => False) a) : (Code.region id l.toArray true).wp P Q a w := by
  obtain ⟨rfl, rfl⟩ := hs.eq
  exact wp_region_loose k _ T _ [n] hm hB hf rfl hL ⟨i, hT.le, (hO.perm hp.perm).drew⟩ h
theorem loose_lit {bytes : Nat} {t e len' : TypeId} {parts : Array (Nat × Operand)} {vals : List Value} {L : List Nat} (hC : TC M w0 n sl len X R S w) (ho : o.op = .buildSlice t len' parts) (ht : SliceT P t e 1 bytes) (hx : parts.toList.map (fun p => a.eval p.2) = vals) (hi : parts.toList.map (·.1) = List.range len')
    (hv : vals.all (·.oneCell') = true) (h0 : 0 < len') (h24 : len' * 1 ≤ 16777216) (hLn : L = n :: excl X R) : looseUpon P (TC M w0 n sl len X R S) [n] (IsLit L len' vals) w ((execOp a.eval o).run P w) := by
  obtain ⟨e1, e2⟩ := flat_one hv
  rw [rx_buildN ho ht hx hi e2 h0 h24, e1]
  refine ⟨keep_alloc _ _ _, hC.alloc _ _, w.heap.size, rfl, ?_, ?_, by simp⟩
  · intro j v hj
    rw [cell_of_row _ _ (0 + j) vals.toArray e (0, 0) (heap_alloc_new w _)]
    simpa using hj
  · obtain ⟨i, _, hO⟩ := hC
    subst hLn
    intro hm
    have := hO.lt w.heap.size (by simpa [excl] using hm)
    omega
theorem own_lit' {len : Nat} {cs : List Value} {v : Value} {L : List Nat} (hO : Own M w0 X R S w) (h : IsLit L len cs v w) (hL : ∀ x ∈ excl X R, x ∈ L) : ∃ b, v = .slice (some ⟨b, 0, none⟩) len len ∧ Own M w0 X R (⟨b, 0, cs⟩ :: S) w := by
  obtain ⟨b, h1, h2, h3, _⟩ := h
  exact ⟨b, h1, hO.addRo ⟨b, 0, cs⟩ h2 fun _ hm => h3 (hL _ hm)⟩
end

theorem subn_bd {a b lo hi : Int} (h : Subn a b lo hi) : 167772160 ≤ lo ∧ lo ≤ hi ∧ hi ≤ 3232237321 := by unfold Subn at h; omega
set_option maxHeartbeats 2000000 in
theorem addr_any {w : World} {n : Nat} {sl : Value} {zs : List Int} {i : Nat} (hZ : ZsOk sl zs) (hT : TapeIn w n sl zs i) :
    Calls Tryd.prog 56 #[.pointer (some ⟨n, 0, none⟩)] w (TPost w n sl zs (U32 4294967295)) := by
  have hO := own_tape hT
  have hP : ∀ v ∈ [Value.int .u32 0, .int .u32 4294967295, .int .u32 3405803781, .int .u32 3325256705, .int .u32 168296448, .int .u32 2130706433], ∃ x, v = .int .u32 x ∧ 0 ≤ x ∧ x ≤ 4294967295 := (by repeat (first | exact all_nil | refine all_cons ⟨_, rfl, by omega, by omega⟩ ?_))
  go_enter Tryd.func56, Tryd.ntmps56
  go_wp2_with (first | ((with_reducible refine is_load ?_); (first | (refine own_ld (h := ?_)))) | ((with_reducible refine is_store ?_); (first | (refine own_stR (hO := hO) (h := ?_); clear hO; intro wv hO) | (refine own_st1 (hO := hO) (h := ?_); clear hO; intro wv hO))) | ((with_reducible refine is_alloc ?_); (first | (refine own_al (o := ⟨some 3, _, _, _, _, _⟩) (hO := hO) (h := ?_); clear hO; intro n3 wv hO) | (refine own_al (o := ⟨some 4, _, _, _, _, _⟩) (hO := hO) (h := ?_); clear hO; intro n4 wv hO))) | ((with_reducible refine is_build ?_); (refine' own_buildP (o := ⟨some 9, _, _, _, _, _⟩) [.int .u32 0, .int .u32 4294967295, .int .u32 3405803781, .int .u32 3325256705, .int .u32 168296448, .int .u32 2130706433] hO (by rfl) rfl slice_u32 rfl rfl (by rfl) (by decide) (by decide) ?_); clear hO; intro n9 wv hO) | (go_at_call 18; (with_reducible refine (next_pos _ hZ (hO.tapeIn (by (repeat (first | exact List.mem_cons_self | refine List.mem_cons_of_mem _ ?_))) (by (intro s hs; repeat (first | exact hs | exact List.mem_append_left _ hs | apply List.mem_append_right | apply List.mem_cons_of_mem))) hT.le) (by omega) (by omega)).mono ?_); rintro e wv ⟨v, i1, rfl, hv, hk, hT1⟩; replace hO := hO.after (by (repeat (first | exact Upd.here | apply Upd.there))) hk hT1.blk; replace hT := hT1; clear hT1 hk; obtain ⟨r, rfl, hr0, hr1⟩ := hv) | ((with_reducible refine is_load ?_); (refine' own_loadE (o := ⟨some 13, _, _, _, _, _⟩) hO (by rfl) rfl rfl ?ht ?hm ?hl ?_); (case ht => (with_reducible (first | exact one_u32 | exact one_int | exact one_u16 | exact one_u8 | exact one_ints | exact one_bool | exact one_bytes | exact one_u64 | exact one_set))); (case hm => (repeat (first | exact List.mem_cons_self | refine List.mem_cons_of_mem _ ?_))); (case hl => (first | (simp; done) | (simp; omega))); intro v hv; obtain ⟨x, rfl, hx, kx⟩ := hP v hv; clear hv) | (go_at_call 55; (with_reducible refine (subnet_any _ _).mono ?_); rintro e wv ⟨v, rfl, ⟨a, b, rfl, lo, hi, hsub⟩, hb⟩; replace hO := hO.call hb; clear hb; have hB := subn_bd hsub) | (go_at_call 54; (with_reducible refine (pof_sub _ _ _ _ _ hsub).mono ?_); rintro e wv ⟨rfl, hb⟩; replace hO := hO.call hb; clear hb))
  · go_ret
    exact tpost hO (by (repeat (first | exact List.mem_cons_self | refine List.mem_cons_of_mem _ ?_))) (by (intro s hs; repeat (first | exact hs | exact List.mem_append_left _ hs | apply List.mem_append_right | apply List.mem_cons_of_mem))) hT.le ⟨_, rfl, by omega, by omega⟩
  · obtain ⟨hB0, hB1, hB2⟩ := hB
    have hQ : ∀ v ∈ [Value.int .u32 lo, .int .u32 hi, .int .u32 (lo + 5), .int .u32 (hi + 1), .int .u32 (lo - 1)], ∃ x, v = .int .u32 x ∧ 0 ≤ x ∧ x ≤ 4294967295 := (by repeat (first | exact all_nil | refine all_cons ⟨_, rfl, by omega, by omega⟩ ?_))
    (try simp only [Act.put]); (try simp only [List.setIfInBounds_toArray, List.set_cons_zero, List.set_cons_succ]); (refine own_tloose 16 [(35, IsLit [n, n4, n3] 5 [.int .u32 lo, .int .u32 hi, .int .u32 (lo + 5), .int .u32 (hi + 1), .int .u32 (lo - 1)]), (37, fun v _ => ∃ r, v = .int .i64 r ∧ 0 ≤ r ∧ r < 5)] hO hT (by repeat (first | exact Pick.here | apply Pick.there)) (by kernel_rfl) (by kernel_rfl) (by rfl) (by repeat (first | exact Split.zero _ | apply Split.succ)) ?_ ?_); (focus (repeat (first | exact lasts_nil | (refine lasts_cons (fun v w w' _ _ hk h => ?_) ?_; focus (first | exact h | exact IsLit.keep h hk (by simp) | exact IsElt.keep h hk (by simp)))))); clear hO; (repeat (first | (refine loose_plain (by (intro _ hd; cases hd; rfl)) (by rfl) (fun _ h => TC.own h) ?_; (first | go_big_quiet_skip | (go_big_quiet_want; (first | ((with_reducible refine is_loadQ ?_); (first | (refine q_ld (h := ?_))); (try simp only [Act.put]); (try simp only [List.setIfInBounds_toArray, List.set_cons_zero, List.set_cons_succ]); go_big_quiet_on) | (go_big_quiet_op; (first | go_big_quiet_on | ((refine ⟨_, fun _ _ => rfl, ?_⟩); go_big_quiet_on)))))); refine wpQuiet_nil ?_; (try simp only [Act.put]); (try simp only [List.setIfInBounds_toArray, List.set_cons_zero, List.set_cons_succ])) | (refine loose_fact (by rfl) rfl (by rfl) ?_ ?_ (Nat.le_of_ble_eq_true rfl); (focus (intro w1 hC hF; (first | (exact loose_lit hC rfl (by first | exact slice_u32 | exact slice_u8) rfl rfl (by rfl) (by decide) (by decide) (by simp [excl])) | (obtain ⟨i1, hi1, hO⟩ := hC; go_simp; (first | (go_at_call 18; (with_reducible refine (next_pos _ hZ (hO.tapeIn List.mem_cons_self (by (intro s hs; repeat (first | exact hs | exact List.mem_append_left _ hs | apply List.mem_append_right | apply List.mem_cons_of_mem))) hi1) (by omega) (by omega)).mono ?_); rintro e w3 ⟨v, i2, rfl, hv, hk, hT1⟩; exact ⟨_, rfl, hk, TC.next hO hk hT1, hv⟩)))))); (intro u w1 hC hu; (first | (obtain ⟨h, rfl, hh⟩ : IsHd u w1 := hu) | (obtain ⟨b, rfl, hb⟩ : IsBx u w1 := hu) | (obtain ⟨b, rfl, hb⟩ : IsBox u w1 := hu) | obtain ⟨r, rfl, hr0, hr1⟩ := hu | (try subst hu)); (try simp only [Act.put]); (try simp only [List.setIfInBounds_toArray, List.set_cons_zero, List.set_cons_succ]))) | (refine loose_skip (by rfl) ?_; (try simp only [Act.put]); (try simp only [List.setIfInBounds_toArray, List.set_cons_zero, List.set_cons_succ])))); (refine wpLoose_nil ?_); intro wv hI; obtain ⟨⟨i1, hi1, hO⟩, hF⟩ := hI; have hT := hO.tapeIn List.mem_cons_self (by (intro s hs; repeat (first | exact hs | exact List.mem_append_left _ hs | apply List.mem_append_right | apply List.mem_cons_of_mem))) hi1; (try refine wpList_done ?_)
    obtain ⟨b', hb', hO⟩ := own_lit' hO (hF 35 (by simp [insF]) _ rfl) (by simp [excl]); cases hb'; clear hF
    go_wp2_with (first | ((with_reducible refine is_load ?_); (first | (refine own_ld (h := ?_)))) | ((with_reducible refine is_store ?_); (first | (refine own_stR (hO := hO) (h := ?_); clear hO; intro wv hO) | (refine own_st1 (hO := hO) (h := ?_); clear hO; intro wv hO))) | ((with_reducible refine is_load ?_); (refine' own_loadRE (o := ⟨some 39, _, _, _, _, _⟩) hO (by rfl) rfl rfl ?ht ?hm ?hl ?_); (case ht => (with_reducible (first | exact one_u32 | exact one_int | exact one_u16 | exact one_u8 | exact one_ints | exact one_bool | exact one_bytes | exact one_u64 | exact one_set))); (case hm => (repeat (first | exact List.mem_cons_self | refine List.mem_cons_of_mem _ ?_))); (case hl => (first | (simp; done) | (simp; omega))); intro v hv; obtain ⟨x, rfl, hx, kx⟩ := hQ v hv; clear hv))
    go_ret
    exact tpost hO (by (repeat (first | exact List.mem_cons_self | refine List.mem_cons_of_mem _ ?_))) (by (intro s hs; repeat (first | exact hs | exact List.mem_append_left _ hs | apply List.mem_append_right | apply List.mem_cons_of_mem))) hT.le ⟨_, rfl, by omega, by omega⟩

set_option maxHeartbeats 2000000 in
theorem addresses_any {w : World} {n : Nat} {sl : Value} {zs : List Int} {i : Nat} (hZ : ZsOk sl zs) (hT : TapeIn w n sl zs i) :
    Calls Tryd.prog 37 #[.pointer (some ⟨n, 0, none⟩)] w (TPost w n sl zs (IsRg 4294967295)) := by
  have hO := own_tape hT
  go_enter Tryd.func37, Tryd.ntmps37
  go_wp2_with (first | ((with_reducible refine is_load ?_); (first | (refine own_ld (h := ?_)))) | ((with_reducible refine is_store ?_); (first | (refine own_stR (hO := hO) (h := ?_); clear hO; intro wv hO) | (refine own_st1 (hO := hO) (h := ?_); clear hO; intro wv hO))) | ((with_reducible refine is_alloc ?_); (first | (refine own_al (o := ⟨some 2, _, _, _, _, _⟩) (hO := hO) (h := ?_); clear hO; intro n2 wv hO) | (refine own_al (o := ⟨some 3, _, _, _, _, _⟩) (hO := hO) (h := ?_); clear hO; intro n3 wv hO))) | (go_at_call 18; (with_reducible refine (next_pos _ hZ (hO.tapeIn (by (repeat (first | exact List.mem_cons_self | refine List.mem_cons_of_mem _ ?_))) (by (intro s hs; repeat (first | exact hs | exact List.mem_append_left _ hs | apply List.mem_append_right | apply List.mem_cons_of_mem))) hT.le) (by omega) (by omega)).mono ?_); rintro e wv ⟨v, i1, rfl, hv, hk, hT1⟩; replace hO := hO.after (by (repeat (first | exact Upd.here | apply Upd.there))) hk hT1.blk; replace hT := hT1; clear hT1 hk; obtain ⟨r, rfl, hr0, hr1⟩ := hv) | (go_at_call 55; (with_reducible refine (subnet_any _ _).mono ?_); rintro e wv ⟨v, rfl, ⟨a, b, rfl, lo, hi, hsub⟩, hb⟩; replace hO := hO.call hb; clear hb; have hB := subn_bd hsub) | (go_at_call 54; (with_reducible refine (pof_sub _ _ _ _ _ hsub).mono ?_); rintro e wv ⟨rfl, hb⟩; replace hO := hO.call hb; clear hb) | (go_at_call 56; (with_reducible refine (addr_any hZ (hO.tapeIn (by (repeat (first | exact List.mem_cons_self | refine List.mem_cons_of_mem _ ?_))) (by (intro s hs; repeat (first | exact hs | exact List.mem_append_left _ hs | apply List.mem_append_right | apply List.mem_cons_of_mem))) hT.le)).mono ?_); rintro e wv ⟨v, i1, rfl, hv, hk, hT1⟩; replace hO := hO.after (by (repeat (first | exact Upd.here | apply Upd.there))) hk hT1.blk; replace hT := hT1; clear hT1 hk; obtain ⟨r, rfl, hr0, hr1⟩ := hv))
  · exact bodyPost_ret (own_res_cell hO Tryd.results37 rfl (by (repeat (first | exact List.mem_cons_self | refine List.mem_cons_of_mem _ ?_))) (by (exact row_len (by (with_reducible (first | exact row_Box | exact row_Range | exact row_Header | exact row_Five | exact row_Tape | exact row_Prefix | exact row_Truths | exact row_Packet))) (by rfl))) rfl) rfl (tpost hO (by (repeat (first | exact List.mem_cons_self | refine List.mem_cons_of_mem _ ?_))) (by (intro s hs; repeat (first | exact hs | exact List.mem_append_left _ hs | apply List.mem_append_right | apply List.mem_cons_of_mem))) hT.le ⟨_, _, rfl, by omega, by omega, by omega⟩)
  · exact bodyPost_ret (own_res_cell hO Tryd.results37 rfl (by (repeat (first | exact List.mem_cons_self | refine List.mem_cons_of_mem _ ?_))) (by (exact row_len (by (with_reducible (first | exact row_Box | exact row_Range | exact row_Header | exact row_Five | exact row_Tape | exact row_Prefix | exact row_Truths | exact row_Packet))) (by rfl))) rfl) rfl (tpost hO (by (repeat (first | exact List.mem_cons_self | refine List.mem_cons_of_mem _ ?_))) (by (intro s hs; repeat (first | exact hs | exact List.mem_append_left _ hs | apply List.mem_append_right | apply List.mem_cons_of_mem))) hT.le ⟨_, _, rfl, by omega, by omega, by omega⟩)
  · exact bodyPost_ret (own_res_cell hO Tryd.results37 rfl (by (repeat (first | exact List.mem_cons_self | refine List.mem_cons_of_mem _ ?_))) (by (exact row_len (by (with_reducible (first | exact row_Box | exact row_Range | exact row_Header | exact row_Five | exact row_Tape | exact row_Prefix | exact row_Truths | exact row_Packet))) (by rfl))) rfl) rfl (tpost hO (by (repeat (first | exact List.mem_cons_self | refine List.mem_cons_of_mem _ ?_))) (by (intro s hs; repeat (first | exact hs | exact List.mem_append_left _ hs | apply List.mem_append_right | apply List.mem_cons_of_mem))) hT.le ⟨_, _, rfl, by omega, by omega, by omega⟩)
  · exact bodyPost_ret (own_res_cell hO Tryd.results37 rfl (by (repeat (first | exact List.mem_cons_self | refine List.mem_cons_of_mem _ ?_))) (by (exact row_len (by (with_reducible (first | exact row_Box | exact row_Range | exact row_Header | exact row_Five | exact row_Tape | exact row_Prefix | exact row_Truths | exact row_Packet))) (by rfl))) rfl) rfl (tpost hO (by (repeat (first | exact List.mem_cons_self | refine List.mem_cons_of_mem _ ?_))) (by (intro s hs; repeat (first | exact hs | exact List.mem_append_left _ hs | apply List.mem_append_right | apply List.mem_cons_of_mem))) hT.le ⟨_, _, rfl, by omega, by omega, by omega⟩)

/-- a valid box -/
def VB : Value → World → Prop := fun v _ => ∃ b, v = bv b ∧ vldTo b 5 ∧ b.ok
theorem Bx.ok_of {b : Bx} (h : vldTo b 5) (h0 : ∀ k, k < 5 → 0 ≤ (b.at k).lo) : b.ok := fun k hk => by
  have h1 := h k hk
  have h2 := h0 k hk
  have h3 : topOf k ≤ 4294967295 := by rcases five hk with rfl | rfl | rfl | rfl | rfl <;> decide
  omega
/-- a box that is valid and not negative -/
def Good (b : Bx) : Prop := ∀ k, k < 5 → 0 ≤ (b.at k).lo ∧ (b.at k).lo ≤ (b.at k).hi ∧ (b.at k).hi ≤ topOf k
theorem Good.vld {b : Bx} (h : Good b) : vldTo b 5 := fun k hk => (h k hk).2
theorem Good.ok {b : Bx} (h : Good b) : b.ok := Bx.ok_of h.vld fun k hk => (h k hk).1
theorem Good.full : Good fullBx := fun k hk => by rcases five hk with rfl | rfl | rfl | rfl | rfl <;> decide
theorem Good.set {b : Bx} (h : Good b) (k : Nat) {lo hi : Int} (h0 : 0 ≤ lo) (h1 : lo ≤ hi) (h2 : k < 5 → hi ≤ topOf k) : Good (b.set k ⟨lo, hi⟩) := fun i hi => by
  rw [Bx.at_set _ _ _ hi]
  split
  · rename_i e; subst e; exact ⟨h0, h1, h2 hi⟩
  · exact h i hi
theorem bput0 {b : Bx} {l u : Int} : putAt (bcs b) 0 [.int .u32 l, .int .u32 u] = bcs (b.set 0 ⟨l, u⟩) := rfl
theorem bput1 {b : Bx} {l u : Int} : putAt (bcs b) 2 [.int .u32 l, .int .u32 u] = bcs (b.set 1 ⟨l, u⟩) := rfl
theorem bput2 {b : Bx} {l u : Int} : putAt (bcs b) 4 [.int .u32 l, .int .u32 u] = bcs (b.set 2 ⟨l, u⟩) := rfl
theorem bput3 {b : Bx} {l u : Int} : putAt (bcs b) 6 [.int .u32 l, .int .u32 u] = bcs (b.set 3 ⟨l, u⟩) := rfl
theorem bput4 {b : Bx} {l u : Int} : putAt (bcs b) 8 [.int .u32 l, .int .u32 u] = bcs (b.set 4 ⟨l, u⟩) := rfl
def IsBox : Value → World → Prop := fun v _ => ∃ b, v = bv b ∧ Good b
set_option maxHeartbeats 2000000 in
theorem tbox_any {w : World} {n : Nat} {sl : Value} {zs : List Int} {i : Nat} (hZ : ZsOk sl zs) (hT : TapeIn w n sl zs i) :
    Calls Tryd.prog 17 #[.pointer (some ⟨n, 0, none⟩)] w (TPost w n sl zs IsBox) := by
  have hO := own_tape hT
  have hP : ∀ v ∈ [Value.int .u32 6, .int .u32 17, .int .u32 1, .int .u32 0, .int .u32 7, .int .u32 255], ∃ x, v = .int .u32 x ∧ 0 ≤ x ∧ x ≤ 255 := (by repeat (first | exact all_nil | refine all_cons ⟨_, rfl, by omega, by omega⟩ ?_))
  go_enter Tryd.func17, Tryd.ntmps17
  go_wp2_with (first | ((with_reducible refine is_load ?_); (first | (refine own_ld (h := ?_)))) | ((with_reducible refine is_store ?_); (first | (refine own_stR (hO := hO) (h := ?_); clear hO; intro wv hO) | (refine own_st1 (hO := hO) (h := ?_); clear hO; intro wv hO))) | ((with_reducible refine is_alloc ?_); (first | (refine own_al (o := ⟨some 2, _, _, _, _, _⟩) (hO := hO) (h := ?_); clear hO; intro n2 wv hO) | (refine own_al (o := ⟨some 3, _, _, _, _, _⟩) (hO := hO) (h := ?_); clear hO; intro n3 wv hO))) | (go_at_call 36; refine (rfull_any _).mono ?_; rintro e wv ⟨rfl, hb⟩; replace hO := hO.call hb; clear hb) | (go_at_call 18; (with_reducible refine (next_pos _ hZ (hO.tapeIn (by (repeat (first | exact List.mem_cons_self | refine List.mem_cons_of_mem _ ?_))) (by (intro s hs; repeat (first | exact hs | exact List.mem_append_left _ hs | apply List.mem_append_right | apply List.mem_cons_of_mem))) hT.le) (by omega) (by omega)).mono ?_); rintro e wv ⟨v, i1, rfl, hv, hk, hT1⟩; replace hO := hO.after (by (repeat (first | exact Upd.here | apply Upd.there))) hk hT1.blk; replace hT := hT1; clear hT1 hk; obtain ⟨r, rfl, hr0, hr1⟩ := hv))
  go_loopw [4] (fun q wr => ∃ (k : Nat) (b : Bx) (i : Nat), k ≤ 3 ∧ q = .int .i64 k ∧ Good b ∧ TapeIn wr n sl zs i ∧ Own [n] w [⟨n3, bcs b, 26⟩, ⟨n2, bcs zeroBx, 26⟩, ⟨n, tcs sl i, 66⟩] [] (roS sl (ints zs)) wr) (fun q _ => (intOf q).toNat)
  case atStart => exact ⟨(1 + r).toNat, fullBx, i1, by omega, by congr 1; omega, Good.full, (hO.tapeIn (by (repeat (first | exact List.mem_cons_self | refine List.mem_cons_of_mem _ ?_))) (by (intro s hs; repeat (first | exact hs | exact List.mem_append_left _ hs | apply List.mem_append_right | apply List.mem_cons_of_mem))) hT.le), hO⟩
  case round =>
    clear hO hT
    obtain ⟨k, b, i, hk, rfl, hg, hT, hO⟩ := hrel
    by_cases hlt : 0 < k
    · go_wp2_with (first | ((with_reducible refine is_load ?_); (first | (refine own_ld (h := ?_)))) | ((with_reducible refine is_store ?_); (first | (refine own_stR (hO := hO) (h := ?_); clear hO; intro wv hO) | (refine own_st1 (hO := hO) (h := ?_); clear hO; intro wv hO))) | (go_at_call 18; (with_reducible refine (next_pos _ hZ (hO.tapeIn (by (repeat (first | exact List.mem_cons_self | refine List.mem_cons_of_mem _ ?_))) (by (intro s hs; repeat (first | exact hs | exact List.mem_append_left _ hs | apply List.mem_append_right | apply List.mem_cons_of_mem))) hT.le) (by omega) (by omega)).mono ?_); rintro e wv ⟨v, i1, rfl, hv, hk, hT1⟩; replace hO := hO.after (by (repeat (first | exact Upd.here | apply Upd.there))) hk hT1.blk; replace hT := hT1; clear hT1 hk; obtain ⟨r, rfl, hr0, hr1⟩ := hv) | (go_at_call 37; (with_reducible refine (addresses_any hZ (hO.tapeIn (by (repeat (first | exact List.mem_cons_self | refine List.mem_cons_of_mem _ ?_))) (by (intro s hs; repeat (first | exact hs | exact List.mem_append_left _ hs | apply List.mem_append_right | apply List.mem_cons_of_mem))) hT.le)).mono ?_); rintro e wv ⟨v, i1, rfl, hv, hk, hT1⟩; replace hO := hO.after (by (repeat (first | exact Upd.here | apply Upd.there))) hk hT1.blk; replace hT := hT1; clear hT1 hk; obtain ⟨r, s, rfl, hr0, hr1, hr2⟩ := hv) | (go_at_call 38; (with_reducible refine (range_any _ hZ (hO.tapeIn (by (repeat (first | exact List.mem_cons_self | refine List.mem_cons_of_mem _ ?_))) (by (intro s hs; repeat (first | exact hs | exact List.mem_append_left _ hs | apply List.mem_append_right | apply List.mem_cons_of_mem))) hT.le) (by omega) (by omega)).mono ?_); rintro e wv ⟨v, i1, rfl, hv, hk, hT1⟩; replace hO := hO.after (by (repeat (first | exact Upd.here | apply Upd.there))) hk hT1.blk; replace hT := hT1; clear hT1 hk; obtain ⟨r, s, rfl, hr0, hr1, hr2⟩ := hv) | ((with_reducible refine is_build ?_); (refine' own_buildP (o := ⟨some 31, _, _, _, _, _⟩) [.int .u32 6, .int .u32 17, .int .u32 1, .int .u32 0, .int .u32 7, .int .u32 255] hO (by rfl) rfl slice_u32 rfl rfl (by rfl) (by decide) (by decide) ?_); clear hO; intro n31 wv hO) | ((with_reducible refine is_load ?_); (refine' own_loadE (o := ⟨some 35, _, _, _, _, _⟩) hO (by rfl) rfl rfl ?ht ?hm ?hl ?_); (case ht => (with_reducible (first | exact one_u32 | exact one_int | exact one_u16 | exact one_u8 | exact one_ints | exact one_bool | exact one_bytes | exact one_u64 | exact one_set))); (case hm => (repeat (first | exact List.mem_cons_self | refine List.mem_cons_of_mem _ ?_))); (case hl => (first | (simp; done) | (simp; omega))); intro v hv; obtain ⟨x, rfl, hx, kx⟩ := hP v hv; clear hv))
      · go_roundw
        case rel => exact ⟨k - 1, b.set 0 ⟨r, s⟩, i1, by omega, by congr 1; omega, hg.set 0 (by omega) (by omega) (fun _ => by simp only [topOf]; omega), (hO.tapeIn (by (repeat (first | exact List.mem_cons_self | refine List.mem_cons_of_mem _ ?_))) (by (intro s hs; repeat (first | exact hs | exact List.mem_append_left _ hs | apply List.mem_append_right | apply List.mem_cons_of_mem))) hT.le), by rw [← bput0]; exact hO⟩
        case measure => simp [intOf]; omega
      · go_roundw
        case rel => exact ⟨k - 1, b.set 1 ⟨r, s⟩, i1, by omega, by congr 1; omega, hg.set 1 (by omega) (by omega) (fun _ => by simp only [topOf]; omega), (hO.tapeIn (by (repeat (first | exact List.mem_cons_self | refine List.mem_cons_of_mem _ ?_))) (by (intro s hs; repeat (first | exact hs | exact List.mem_append_left _ hs | apply List.mem_append_right | apply List.mem_cons_of_mem))) hT.le), by rw [← bput1]; exact hO⟩
        case measure => simp [intOf]; omega
      · go_roundw
        case rel => exact ⟨k - 1, b.set 2 ⟨x, x⟩, i1, by omega, by congr 1; omega, hg.set 2 (by omega) (by omega) (fun _ => by simp only [topOf]; omega), (hO.tapeIn (by (repeat (first | exact List.mem_cons_self | refine List.mem_cons_of_mem _ ?_))) (by (intro s hs; repeat (first | exact hs | exact List.mem_append_left _ hs | apply List.mem_append_right | apply List.mem_cons_of_mem))) hT.le), by rw [← bput2]; exact hO.sub (.cons _ (.refl _)) (.refl _) (fun _ h => h)⟩
        case measure => simp [intOf]; omega
      · go_roundw
        case rel => exact ⟨k - 1, b.set 3 ⟨r, s⟩, i1, by omega, by congr 1; omega, hg.set 3 (by omega) (by omega) (fun _ => by simp only [topOf]; omega), (hO.tapeIn (by (repeat (first | exact List.mem_cons_self | refine List.mem_cons_of_mem _ ?_))) (by (intro s hs; repeat (first | exact hs | exact List.mem_append_left _ hs | apply List.mem_append_right | apply List.mem_cons_of_mem))) hT.le), by rw [← bput3]; exact hO⟩
        case measure => simp [intOf]; omega
      · go_roundw
        case rel => exact ⟨k - 1, b.set 4 ⟨r, s⟩, i1, by omega, by congr 1; omega, hg.set 4 (by omega) (by omega) (fun _ => by simp only [topOf]; omega), (hO.tapeIn (by (repeat (first | exact List.mem_cons_self | refine List.mem_cons_of_mem _ ?_))) (by (intro s hs; repeat (first | exact hs | exact List.mem_append_left _ hs | apply List.mem_append_right | apply List.mem_cons_of_mem))) hT.le), by rw [← bput4]; exact hO⟩
        case measure => simp [intOf]; omega
    · obtain rfl : k = 0 := by omega
      go_wp2_with (first | ((with_reducible refine is_load ?_); (first | (refine own_ld (h := ?_)))) | ((with_reducible refine is_store ?_); (first | (refine own_stR (hO := hO) (h := ?_); clear hO; intro wv hO) | (refine own_st1 (hO := hO) (h := ?_); clear hO; intro wv hO))))
      exact bodyPost_ret (own_res_cell hO Tryd.results17 rfl (by (repeat (first | exact List.mem_cons_self | refine List.mem_cons_of_mem _ ?_))) (by (exact row_len (by (with_reducible (first | exact row_Box | exact row_Range | exact row_Header | exact row_Five | exact row_Tape | exact row_Prefix | exact row_Truths | exact row_Packet))) (by rfl))) rfl) rfl (tpost hO (by (repeat (first | exact List.mem_cons_self | refine List.mem_cons_of_mem _ ?_))) (by (intro s hs; repeat (first | exact hs | exact List.mem_append_left _ hs | apply List.mem_append_right | apply List.mem_cons_of_mem))) hT.le ⟨_, rfl, hg⟩)
end Go.Proofs.YtnhjcbmlplfpmaaDoor
