/- The tape's tables as rows of the caller's own; tables whose rules often overlap. -/
import Derived.Test.YtjoionnnpjajmaaDoorOF
import Derived.Test.YtjoionnnpjajmaaDoorOG
import Derived.Test.YtjoionnnpjajmaaDoorPC
namespace Go.Proofs.YtjoionnnpjajmaaDoor
open Go.RowKit
set_option maxRecDepth 100000
set_option maxHeartbeats 4000000 in
theorem ttableR_any {w : World} {n : Nat} {sl : Value} {zs : List Int} {i : Nat} (m : Int) (wild : Bool) (hZ : ZsOk sl zs) (hT : TapeIn w n sl zs i) (h0 : 0 ≤ m) (hm : m ≤ 50) :
  Calls Tryd.prog 20 #[.pointer (some ⟨n, 0, none⟩), .int .i64 m, .bool wild] w (TPost w n sl zs (fun v w' => ∃ t : List Rul, IsTable w' v t ∧ NewFrom w v ∧ okT t ∧ t.length ≤ m ∧ (wild = false → ∀ r ∈ t, Good r.1) ∧ w'.ownsRow 0 42 11 v t.length (cellsR t))) := by
 have hO := own_tape hT
 go_enter Tryd.func20, Tryd.ntmps20
 go_wp2_with (first | refine ldNT ?_ | ((first | refine stNT hO ?_ | refine st1NT hO ?_); clear hO; intro wv hO) | (refine bl9T 29 hO ?_; clear hO; intro n29 wv hO) | (refine ap9T 30 hO ?_; clear hO; intro g30 c30 wv hO) | (go_at_call 40; (with_reducible refine (tboxes_any m wild hZ (hO.tapeIn (by (repeat (first | exact List.mem_cons_self | refine List.mem_cons_of_mem _ ?_))) (by (intro s hs; repeat (first | exact hs | exact List.mem_append_left _ hs | apply List.mem_append_right | apply List.mem_cons_of_mem))) hT.le) h0 (by omega)).mono ?_); rintro e wv ⟨va, i1, rfl, ⟨la, hv9, hn9, ka, na, kg9⟩, hk9, hT1⟩; have hoff9 := off_of_new hO hn9; replace hO := hO.after (by (repeat (first | exact Upd.here | apply Upd.there))) hk9 hT1.blk; replace hT := hT1; clear hT1 hk9; obtain ⟨aa, ca, rfl, hla, hO⟩ := own_offS hO ⟨hv9, hoff9⟩; clear hv9 hn9 hoff9))
 have KG := Lib.hid kg9
 clear kg9
 replace hO := hO.nilRow 42 11
 go_loopw [7, 9] (fun v q wr => ∃ (k : Nat) (t : List Rul) (i : Nat), k ≤ la.length ∧ t.length = k ∧ q = .int .i64 k ∧ okT t ∧ Hid (wild = false → ∀ r ∈ t, Good r.1) ∧ i ≤ zs.length ∧ Own [n] w [⟨n, tcs sl i, 65⟩] [⟨v, t.length, cellsR t, 42, 11⟩] (roS (.slice aa la.length ca) (cellsB la) ++ roS sl (ints zs)) wr) (fun _ q _ => la.length - (intOf q).toNat)
 case atStart => exact ⟨0, [], i1, by simp, rfl, rfl, (fun r hr => by cases hr), Lib.hid (fun _ r hr => by cases hr), hT.le, hO⟩
 case round =>
  clear hO hT
  obtain ⟨k, t, i, hk, rfl, rfl, kt, KT, hi, hO⟩ := hrel
  by_cases hlt : t.length < la.length
  ·obtain ⟨g, o, rfl⟩ := hla (by omega)
   replace hO := hO.sub (S' := ⟨g, o, cellsB la⟩ :: roS sl (ints zs)) (.refl _) (.refl _) (fun q hq => hq)
   have hT := hO.tapeIn List.mem_cons_self (fun q hq => List.mem_cons_of_mem _ hq) hi
   have t1 := tk_box la hlt
   have kb := ka la[t.length] (List.getElem_mem hlt)
   have KB := Lib.hid (fun h => KG.out h la[t.length] (List.getElem_mem hlt))
   generalize la[t.length] = b at *
   replace t1 : List.take (([.int .u32 b.r0.lo, .int .u32 b.r0.hi, .int .u32 b.r1.lo, .int .u32 b.r1.hi, .int .u32 b.r2.lo, .int .u32 b.r2.hi, .int .u32 b.r3.lo, .int .u32 b.r3.hi, .int .u32 b.r4.lo, .int .u32 b.r4.hi] : List Value)).length (List.drop (t.length * 10) (cellsB la)) = ([.int .u32 b.r0.lo, .int .u32 b.r0.hi, .int .u32 b.r1.lo, .int .u32 b.r1.hi, .int .u32 b.r2.lo, .int .u32 b.r2.hi, .int .u32 b.r3.lo, .int .u32 b.r3.hi, .int .u32 b.r4.lo, .int .u32 b.r4.hi] : List Value) := t1
   go_wp2_with (first | refine ldNT ?_ | ((first | refine stNT hO ?_ | refine st1NT hO ?_); clear hO; intro wv hO) | (refine bl9T 29 hO ?_; clear hO; intro n29 wv hO) | (refine ap9T 30 hO ?_; clear hO; intro g30 c30 wv hO))
   (try simp only [Act.put]); (try simp only [sI9, sZ9, sS9])
   refine wp_region_any (by kernel_rfl) ?_
   replace hO := hO.drew
   have ix9 := Ix.mk [0, 1, 2, 3, 5]
   iterate 5 (refine wpAny_tk ix9 ?_; replace ix9 := ix9.tail; (first | go_big_quiet_skip | (go_big_quiet_want; (go_big_quiet_op; (first | go_big_quiet_on | ((refine ⟨_, fun _ _ => rfl, ?_⟩); go_big_quiet_on))))); (refine wpQuiet_nil ?_); (try simp only [Act.put]); (try simp only [sI9, sZ9, sS9]))
   clear ix9
   refine wpAny_all (rs := [4, 6]) (by kernel_rfl) (by simp) (ord_cons ?_ (ord_cons ?_ ord_nil))
   rotate_left 2
   all_goals
    refine wpOp_of_listL rfl ?_
    (first | refine ldNT ?_ | ((first | refine stNT hO ?_ | refine st1NT hO ?_); clear hO; intro wv hO) | (refine bl9T 29 hO ?_; clear hO; intro n29 wv hO) | (refine ap9T 30 hO ?_; clear hO; intro g30 c30 wv hO) | ((refine wpList_step (fun K hK => ?_)); go_simp; (first | ((refine hK _ _ ?_); clear hK K) | ((first | (go_at_call 21; (with_reducible refine (next_pos 3 hZ (hO.tapeIn (by (repeat (first | exact List.mem_cons_self | refine List.mem_cons_of_mem _ ?_))) (by (intro s hs; repeat (first | exact hs | exact List.mem_append_left _ hs | apply List.mem_append_right | apply List.mem_cons_of_mem))) hT.le) (by omega) (by omega)).mono ?_); rintro e wv ⟨v, i1, rfl, ⟨r9, rfl, hr0, hr1⟩, hk9, hT1⟩; replace hO := hO.after (by (repeat (first | exact Upd.here | apply Upd.there))) hk9 hT1.blk; replace hT := hT1; clear hT1 hk9)); (try simp only []); (refine hK _ _ ?_); clear hK K)))); (try simp only [Act.put]); (try simp only [sI9, sZ9, sS9])
    refine wpList_done (qk_intro ?_)
   refine wpAny_1 6 ?_
   rotate_left 1
   refine wpAny_tk (Ix.mk [7]) ?_
   (first | go_big_quiet_skip | (go_big_quiet_want; (go_big_quiet_op; (first | go_big_quiet_on | ((refine ⟨_, fun _ _ => rfl, ?_⟩); go_big_quiet_on))))); (refine wpQuiet_nil ?_); (try simp only [Act.put]); (try simp only [sI9, sZ9, sS9])
   refine wpAny_1 4 ?_
   rotate_left 1
   all_goals
    refine wpOp_of_listL rfl ?_
    (first | refine ldNT ?_ | ((first | refine stNT hO ?_ | refine st1NT hO ?_); clear hO; intro wv hO) | (refine bl9T 29 hO ?_; clear hO; intro n29 wv hO) | (refine ap9T 30 hO ?_; clear hO; intro g30 c30 wv hO) | ((refine wpList_step (fun K hK => ?_)); go_simp; (first | ((refine hK _ _ ?_); clear hK K) | ((first | (go_at_call 21; (with_reducible refine (next_pos 3 hZ (hO.tapeIn (by (repeat (first | exact List.mem_cons_self | refine List.mem_cons_of_mem _ ?_))) (by (intro s hs; repeat (first | exact hs | exact List.mem_append_left _ hs | apply List.mem_append_right | apply List.mem_cons_of_mem))) hT.le) (by omega) (by omega)).mono ?_); rintro e wv ⟨v, i1, rfl, ⟨r9, rfl, hr0, hr1⟩, hk9, hT1⟩; replace hO := hO.after (by (repeat (first | exact Upd.here | apply Upd.there))) hk9 hT1.blk; replace hT := hT1; clear hT1 hk9)); (try simp only []); (refine hK _ _ ?_); clear hK K)))); (try simp only [Act.put]); (try simp only [sI9, sZ9, sS9])
    refine wpList_done (qk_intro ?_)
   have ix9 := Ix.mk [7, 8]
   iterate 2 (refine wpAny_tk ix9 ?_; replace ix9 := ix9.tail; (first | go_big_quiet_skip | (go_big_quiet_want; (go_big_quiet_op; (first | go_big_quiet_on | ((refine ⟨_, fun _ _ => rfl, ?_⟩); go_big_quiet_on))))); (refine wpQuiet_nil ?_); (try simp only [Act.put]); (try simp only [sI9, sZ9, sS9]))
   clear ix9
   refine wpAny_1 9 ?_
   rotate_left 1
   refine wpAny_tk (Ix.mk [8]) ?_
   (first | go_big_quiet_skip | (go_big_quiet_want; (go_big_quiet_op; (first | go_big_quiet_on | ((refine ⟨_, fun _ _ => rfl, ?_⟩); go_big_quiet_on))))); (refine wpQuiet_nil ?_); (try simp only [Act.put]); (try simp only [sI9, sZ9, sS9])
   refine wpAny_1 9 ?_
   rotate_left 1
   all_goals
    refine wpOp_of_listL rfl ?_
    (first | refine ldNT ?_ | ((first | refine stNT hO ?_ | refine st1NT hO ?_); clear hO; intro wv hO) | (refine bl9T 29 hO ?_; clear hO; intro n29 wv hO) | (refine ap9T 30 hO ?_; clear hO; intro g30 c30 wv hO) | ((refine wpList_step (fun K hK => ?_)); go_simp; (first | ((refine hK _ _ ?_); clear hK K) | ((first | (go_at_call 21; (with_reducible refine (next_pos 3 hZ (hO.tapeIn (by (repeat (first | exact List.mem_cons_self | refine List.mem_cons_of_mem _ ?_))) (by (intro s hs; repeat (first | exact hs | exact List.mem_append_left _ hs | apply List.mem_append_right | apply List.mem_cons_of_mem))) hT.le) (by omega) (by omega)).mono ?_); rintro e wv ⟨v, i1, rfl, ⟨r9, rfl, hr0, hr1⟩, hk9, hT1⟩; replace hO := hO.after (by (repeat (first | exact Upd.here | apply Upd.there))) hk9 hT1.blk; replace hT := hT1; clear hT1 hk9)); (try simp only []); (refine hK _ _ ?_); clear hK K)))); (try simp only [Act.put]); (try simp only [sI9, sZ9, sS9])
    refine wpList_done (qk_intro ?_)
   refine wpAny_1 10 ?_
   rotate_left 1
   refine wpAny_1 10 ?_
   rotate_left 1
   all_goals
    refine wpOp_of_listL rfl ?_
    (first | refine ldNT ?_ | ((first | refine stNT hO ?_ | refine st1NT hO ?_); clear hO; intro wv hO) | (refine bl9T 29 hO ?_; clear hO; intro n29 wv hO) | (refine ap9T 30 hO ?_; clear hO; intro g30 c30 wv hO) | ((refine wpList_step (fun K hK => ?_)); go_simp; (first | ((refine hK _ _ ?_); clear hK K) | ((first | (go_at_call 21; (with_reducible refine (next_pos 3 hZ (hO.tapeIn (by (repeat (first | exact List.mem_cons_self | refine List.mem_cons_of_mem _ ?_))) (by (intro s hs; repeat (first | exact hs | exact List.mem_append_left _ hs | apply List.mem_append_right | apply List.mem_cons_of_mem))) hT.le) (by omega) (by omega)).mono ?_); rintro e wv ⟨v, i1, rfl, ⟨r9, rfl, hr0, hr1⟩, hk9, hT1⟩; replace hO := hO.after (by (repeat (first | exact Upd.here | apply Upd.there))) hk9 hT1.blk; replace hT := hT1; clear hT1 hk9)); (try simp only []); (refine hK _ _ ?_); clear hK K)))); (try simp only [Act.put]); (try simp only [sI9, sZ9, sS9])
    refine wpList_done (qk_intro ?_)
   refine wpAny_1 11 ?_
   rotate_left 1
   refine wpAny_1 11 ?_
   rotate_left 1
   all_goals
    refine wpOp_of_listL rfl ?_
    (first | refine ldNT ?_ | ((first | refine stNT hO ?_ | refine st1NT hO ?_); clear hO; intro wv hO) | (refine bl9T 29 hO ?_; clear hO; intro n29 wv hO) | (refine ap9T 30 hO ?_; clear hO; intro g30 c30 wv hO) | ((refine wpList_step (fun K hK => ?_)); go_simp; (first | ((refine hK _ _ ?_); clear hK K) | ((first | (go_at_call 21; (with_reducible refine (next_pos 3 hZ (hO.tapeIn (by (repeat (first | exact List.mem_cons_self | refine List.mem_cons_of_mem _ ?_))) (by (intro s hs; repeat (first | exact hs | exact List.mem_append_left _ hs | apply List.mem_append_right | apply List.mem_cons_of_mem))) hT.le) (by omega) (by omega)).mono ?_); rintro e wv ⟨v, i1, rfl, ⟨r9, rfl, hr0, hr1⟩, hk9, hT1⟩; replace hO := hO.after (by (repeat (first | exact Upd.here | apply Upd.there))) hk9 hT1.blk; replace hT := hT1; clear hT1 hk9)); (try simp only []); (refine hK _ _ ?_); clear hK K)))); (try simp only [Act.put]); (try simp only [sI9, sZ9, sS9])
    refine wpList_done (qk_intro ?_)
   refine wpAny_done (by kernel_rfl) ?_ _
   rotate_left
   refine wpAny_done (by kernel_rfl) ?_ _
   rotate_left
   all_goals
    go_wp2_with fail
    go_roundw
    case rel =>
     refine ⟨t.length + 1, t ++ [(b, decide (0 < r9))], i1, by omega, by simp, by go_num, fun x hx => ?_, Lib.hid (fun hw x hx => ?_), hT.le, ?_⟩
     ·rcases List.mem_append.1 hx with hx | hx
      ·exact kt x hx
      ·obtain rfl := List.mem_singleton.1 hx; exact kb
     ·rcases List.mem_append.1 hx with hx | hx
      ·exact KT.out hw x hx
      ·obtain rfl := List.mem_singleton.1 hx; exact KB.out hw
     ·rw [List.length_append, cellsR_append, cellsR_one]
      exact hO.sub (.cons _ (.refl _)) (.refl _) (fun _ h => h)
    case measure => simp [intOf]; omega
  ·have hT := hO.tapeIn List.mem_cons_self (fun q hq => List.mem_append_right _ hq) hi
   go_wp2_with (first | refine ldNT ?_ | ((first | refine stNT hO ?_ | refine st1NT hO ?_); clear hO; intro wv hO) | (refine bl9T 29 hO ?_; clear hO; intro n29 wv hO) | (refine ap9T 30 hO ?_; clear hO; intro g30 c30 wv hO))
   go_ret
   exact tpost hO (by (repeat (first | exact List.mem_cons_self | refine List.mem_cons_of_mem _ ?_))) (by (intro s hs; repeat (first | exact hs | exact List.mem_append_left _ hs | apply List.mem_append_right | apply List.mem_cons_of_mem))) hT.le ⟨t, own_table hO List.mem_cons_self, own_newT hO List.mem_cons_self (nodup_cons_row hO.nd), kt, by omega, KT.out, hO.row _ List.mem_cons_self⟩
def portB (lo hi : Int) : Bx := fullBx.set 4 ⟨lo, hi⟩
theorem portB_good {lo hi : Int} (h0 : 0 ≤ lo) (h1 : lo ≤ hi) (h2 : hi ≤ 65535) : Good (portB lo hi) := Good.full.set 4 h0 h1 (fun _ => h2)
set_option maxHeartbeats 2000000 in
theorem ports32_any (lo hi : Int) (w : World) : Calls Tryd.prog 22 #[.int .u32 lo, .int .u32 hi] w fun e w' => e = .returned (bv (portB lo hi)) ∧ Below w.heap.size w w' := by
 have hO := own_start [] w
 have hfull := rfull_any
 have hp : putAt (bcs fullBx) 8 [.int .u32 lo, .int .u32 hi] = bcs (portB lo hi) := rfl
 generalize portB lo hi = bS at *
 go_enter Tryd.func22, Tryd.ntmps22
 go_wp2_with (first | refine ldNT ?_ | ((first | refine stNT hO ?_ | refine st1NT hO ?_); clear hO; intro wv hO) | (refine al9T 4 hO ?_; clear hO; intro n4 wv hO) | (refine al9T 5 hO ?_; clear hO; intro n5 wv hO) | (go_at_call 41; refine (hfull _).mono ?_; rintro e wv ⟨rfl, hb⟩; replace hO := hO.call hb; clear hb))
 rw [hp] at hO
 exact bodyPost_ret (own_res_cell hO Tryd.results22 rfl (by (repeat (first | exact List.mem_cons_self | refine List.mem_cons_of_mem _ ?_))) (by (exact row_len (by (with_reducible (first | exact row_Box | exact row_Range | exact row_Header | exact row_Five | exact row_Tape | exact row_Prefix | exact row_Truths | exact row_Packet | exact row_Group | exact row_Rule))) (by rfl))) rfl) rfl ⟨rfl, hO.keep.below⟩
theorem cellsR_setM {l : List Rul} {k : Nat} (h : k < l.length) (b : Bx) : putAt (cellsR l) (k * 11) (bcs b) = cellsR (l.set k (b, l[k].2)) := by
 induction l generalizing k with
 | nil => simp at h
 | cons c l ih =>
  cases k with
  | zero =>
   simp only [cellsR, List.set_cons_zero, Nat.zero_mul, List.getElem_cons_zero]
   rfl
  | succ k =>
   simp only [cellsR, List.set_cons_succ, List.getElem_cons_succ]
   rw [← ih (by simpa using h), show (k + 1) * 11 = (rlcs c).length + k * 11 by rw [rlcs_length]; omega, putAt_behind]
theorem okT_set {t : List Rul} (h : okT t) {k : Nat} {r : Rul} (hr : r.1.ok) : okT (t.set k r) := fun q hq => by
 rcases List.mem_or_eq_of_mem_set hq with hq | rfl
 ·exact h q hq
 ·exact hr
theorem goodT_set {t : List Rul} (h : ∀ r ∈ t, Good r.1) {k : Nat} {r : Rul} (hr : Good r.1) : ∀ q ∈ t.set k r, Good q.1 := fun q hq => by
 rcases List.mem_or_eq_of_mem_set hq with hq | rfl
 ·exact h q hq
 ·exact hr
def TabP (w : World) (m : Int) (wild : Bool) (v : Value) (w' : World) : Prop := ∃ t : List Rul, IsTable w' v t ∧ NewFrom w v ∧ okT t ∧ t.length ≤ m ∧ (wild = false → ∀ r ∈ t, Good r.1)
theorem portsG32_any {lo hi : Int} (h0 : 0 ≤ lo) (h1 : lo ≤ hi) (h2 : hi ≤ 65535) (w : World) : Calls Tryd.prog 22 #[.int .u32 lo, .int .u32 hi] w fun e w' => ∃ b, e = .returned (bv b) ∧ Good b ∧ Below w.heap.size w w' :=
 (ports32_any lo hi w).mono fun _ _ ⟨h3, h4⟩ => ⟨_, h3, portB_good h0 h1 h2, h4⟩
set_option maxHeartbeats 16000000 in
theorem ltable_any {w : World} {n : Nat} {sl : Value} {zs : List Int} {i : Nat} (m : Int) (wild : Bool) (hZ : ZsOk sl zs) (hT : TapeIn w n sl zs i) (h0 : 0 ≤ m) (hm : m ≤ 50) :
  Calls Tryd.prog 7 #[.pointer (some ⟨n, 0, none⟩), .int .i64 m, .bool wild] w (TPost w n sl zs (TabP w m wild)) := by
 have hO := own_tape hT
 cases wild
 ·go_enter Tryd.func7, Tryd.ntmps7
  go_wp2_with (first | refine ldNT ?_ | ((first | refine stNT hO ?_ | refine st1NT hO ?_); clear hO; intro wv hO) | (go_at_call 20; (with_reducible refine (ttableR_any m false hZ (hO.tapeIn (by (repeat (first | exact List.mem_cons_self | refine List.mem_cons_of_mem _ ?_))) (by (intro s hs; repeat (first | exact hs | exact List.mem_append_left _ hs | apply List.mem_append_right | apply List.mem_cons_of_mem))) hT.le) h0 (by omega)).mono ?_); rintro e wv ⟨va, i1, rfl, ⟨t, -, hn9, kt, nt, kg, hrow⟩, hk9, hT1⟩; have hO9 := hO.after (by (repeat (first | exact Upd.here | apply Upd.there))) hk9 hT1.blk; replace hO := hO.rowT hO9 rfl hn9 hrow; replace hT := hT1; clear hT1 hk9 hO9 hn9 hrow))
  have KG0 := Lib.hid (show false = false → ∀ r ∈ t, Good r.1 from fun h => kg (by trivial))
  clear kg
  obtain ⟨a0, c0, hva, ha0⟩ := rowview11 (hO.row _ List.mem_cons_self)
  dsimp only at hva ha0
  subst hva
  go_loopw [8] (fun q wr => ∃ (k : Nat) (u : List Rul) (i : Nat), k ≤ t.length ∧ u.length = t.length ∧ q = .int .i64 k ∧ okT u ∧ Hid (false = false → ∀ r ∈ u, Good r.1) ∧ i ≤ zs.length ∧ Own [n] w [⟨n, tcs sl i, 65⟩] [⟨.slice a0 t.length c0, t.length, cellsR u, 42, 11⟩] (roS sl (ints zs)) wr) (fun q _ => t.length - (intOf q).toNat)
  case atStart => exact ⟨0, t, _, by omega, rfl, rfl, kt, KG0, hT.le, hO⟩
  case round =>
   clear hO hT kt KG0
   obtain ⟨k, u, i, hk, hu, rfl, ku, KG, hi, hO⟩ := hrel
   have hT := hO.tapeIn List.mem_cons_self (fun q hq => hq) hi
   have s1 : IntKind.i64.wrap ((k : Int) + 1) = (k : Int) + 1 := IntWalk.i64_in _ (by omega)
   by_cases hlt : k < t.length
   ·obtain ⟨g, rfl⟩ := ha0 (by omega)
    have hlu : k < u.length := by omega
    have hsz : k * 11 + 10 ≤ (cellsR u).length := by rw [cellsR_length]; omega
    go_upto_region 6 with (first | refine ldNT ?_ | ((first | refine stNT hO ?_ | refine st1NT hO ?_); clear hO; intro wv hO) | (go_at_call 21; (with_reducible refine (next_pos 4 hZ (hO.tapeIn (by (repeat (first | exact List.mem_cons_self | refine List.mem_cons_of_mem _ ?_))) (by (intro s hs; repeat (first | exact hs | exact List.mem_append_left _ hs | apply List.mem_append_right | apply List.mem_cons_of_mem))) hT.le) (by omega) (by omega)).mono ?_); rintro e wv ⟨v, i1, rfl, ⟨r, rfl, r0, r1⟩, hk9, hT1⟩; replace hO := hO.after (by (repeat (first | exact Upd.here | apply Upd.there))) hk9 hT1.blk; replace hT := hT1; clear hT1 hk9))
    by_cases r_0 : r = 0
    ·have g0 : (r == 0) = true := beq_iff_eq.2 r_0
     clear r_0
     go_wp2_with (first | refine ldNT ?_ | ((first | refine stNT hO ?_ | refine st1NT hO ?_); clear hO; intro wv hO) | (go_at_call 21; (with_reducible refine (next_pos 6 hZ (hO.tapeIn (by (repeat (first | exact List.mem_cons_self | refine List.mem_cons_of_mem _ ?_))) (by (intro s hs; repeat (first | exact hs | exact List.mem_append_left _ hs | apply List.mem_append_right | apply List.mem_cons_of_mem))) hT.le) (by omega) (by omega)).mono ?_); rintro e wv ⟨v, i1, rfl, ⟨x, rfl, x0, x1⟩, hk9, hT1⟩; replace hO := hO.after (by (repeat (first | exact Upd.here | apply Upd.there))) hk9 hT1.blk; replace hT := hT1; clear hT1 hk9; have w1 : IntKind.u32.wrap x = x := (by rw [IntKind.wrap_u32]; omega)) | (go_at_call 21; (with_reducible refine (next_pos 4 hZ (hO.tapeIn (by (repeat (first | exact List.mem_cons_self | refine List.mem_cons_of_mem _ ?_))) (by (intro s hs; repeat (first | exact hs | exact List.mem_append_left _ hs | apply List.mem_append_right | apply List.mem_cons_of_mem))) hT.le) (by omega) (by omega)).mono ?_); rintro e wv ⟨v, i1, rfl, ⟨y, rfl, y0, y1⟩, hk9, hT1⟩; replace hO := hO.after (by (repeat (first | exact Upd.here | apply Upd.there))) hk9 hT1.blk; replace hT := hT1; clear hT1 hk9; have w2 : IntKind.u32.wrap y = y := (by rw [IntKind.wrap_u32]; omega); have w3 : IntKind.u32.wrap (x + y) = x + y := (by rw [IntKind.wrap_u32]; omega)) | (go_at_call 22; (with_reducible refine (portsG32_any (by omega) (by omega) (by omega) _).mono ?_); rintro e wv ⟨b, rfl, gb, hb9⟩; replace hO := hO.call hb9; replace hT := (hO.tapeIn (by (repeat (first | exact List.mem_cons_self | refine List.mem_cons_of_mem _ ?_))) (by (intro s hs; repeat (first | exact hs | exact List.mem_append_left _ hs | apply List.mem_append_right | apply List.mem_cons_of_mem))) hT.le); clear hb9; have hn := cellsR_setM hlu b) | ((with_reducible refine is_store ?_); (go_must (refine own_stRw hO (h := ?_))); clear hO; intro wv hO))
     go_roundw
     case rel => exact ⟨k + 1, _, _, by omega, by simpa using hu, by go_num, okT_set ku gb.ok, Lib.hid (fun hw => goodT_set (KG.out hw) gb), hT.le, hO⟩
     case measure => simp [intOf]; omega
    ·have g0 : (r == 0) = false := beq_eq_false_iff_ne.2 r_0
     by_cases r_1 : r = 1
     ·have g4 : (r == 1) = true := beq_iff_eq.2 r_1
      clear r_1 r_0
      by_cases hk0 : 0 < k
      ·have g1 : decide ((0 : Int) < (k : Int)) = true := decide_eq_true (by omega)
       go_wp2_with (first | refine ldNT ?_ | ((first | refine stNT hO ?_ | refine st1NT hO ?_); clear hO; intro wv hO) | (go_at_call 21; (with_reducible refine (next_pos (k : Int) hZ (hO.tapeIn (by (repeat (first | exact List.mem_cons_self | refine List.mem_cons_of_mem _ ?_))) (by (intro s hs; repeat (first | exact hs | exact List.mem_append_left _ hs | apply List.mem_append_right | apply List.mem_cons_of_mem))) hT.le) (by omega) (by omega)).mono ?_); rintro e wv ⟨v, i1, rfl, ⟨q, rfl, hq0, hq1⟩, hk9, hT1⟩; replace hO := hO.after (by (repeat (first | exact Upd.here | apply Upd.there))) hk9 hT1.blk; replace hT := hT1; clear hT1 hk9; obtain ⟨q, rfl⟩ : (∃ q9 : Nat, q = (q9 : Int)) := ⟨q.toNat, by omega⟩; have hqu : q < u.length := (by omega); have t1 := tk_match u hqu; have hn := cellsR_setM hlu u[q].1; have kb := ku _ (List.getElem_mem hqu); have KB := Lib.hid (fun hw => KG.out hw _ (List.getElem_mem hqu)); generalize u[q] = rq at *) | ((with_reducible refine is_store ?_); (go_must (refine own_stRw hO (h := ?_))); clear hO; intro wv hO))
       go_roundw
       case rel => exact ⟨k + 1, u.set k (rq.1, u[k].2), _, by omega, by simpa using hu, by go_num, okT_set (r := (rq.1, u[k].2)) ku kb, Lib.hid (fun hw => goodT_set (r := (rq.1, u[k].2)) (KG.out hw) (KB.out hw)), hT.le, hO⟩
       case measure => simp [intOf]; omega
      ·have g1 : decide ((0 : Int) < (k : Int)) = false := decide_eq_false (by omega)
       go_wp2_with (first | refine ldNT ?_ | ((first | refine stNT hO ?_ | refine st1NT hO ?_); clear hO; intro wv hO))
       go_roundw
       case rel => exact ⟨k + 1, u, _, by omega, hu, by go_num, ku, KG, hT.le, hO⟩
       case measure => simp [intOf]; omega
     ·have g1 : (r == 1) = false := beq_eq_false_iff_ne.2 r_1
      clear r_1 r_0
      go_wp2_with (first | refine ldNT ?_ | ((first | refine stNT hO ?_ | refine st1NT hO ?_); clear hO; intro wv hO))
      go_roundw
      case rel => exact ⟨k + 1, u, _, by omega, hu, by go_num, ku, KG, hT.le, hO⟩
      case measure => simp [intOf]; omega
   ·obtain rfl : k = t.length := by omega
    go_wp2_with (first | refine ldNT ?_ | ((first | refine stNT hO ?_ | refine st1NT hO ?_); clear hO; intro wv hO))
    go_ret
    refine tpost hO (by (repeat (first | exact List.mem_cons_self | refine List.mem_cons_of_mem _ ?_))) (by (intro s hs; repeat (first | exact hs | exact List.mem_append_left _ hs | apply List.mem_append_right | apply List.mem_cons_of_mem))) hT.le ⟨u, isCells_table.2 ?_, ?_, ku, by omega, fun h => by first | exact KG.out (by trivial) | cases h⟩
    ·rw [hu]; exact hO.rowIs List.mem_cons_self
    ·exact own_newT hO List.mem_cons_self (nodup_cons_row hO.nd)
 ·go_enter Tryd.func7, Tryd.ntmps7
  go_wp2_with (first | refine ldNT ?_ | ((first | refine stNT hO ?_ | refine st1NT hO ?_); clear hO; intro wv hO) | (go_at_call 21; (with_reducible refine (next_pos 8 hZ (hO.tapeIn (by (repeat (first | exact List.mem_cons_self | refine List.mem_cons_of_mem _ ?_))) (by (intro s hs; repeat (first | exact hs | exact List.mem_append_left _ hs | apply List.mem_append_right | apply List.mem_cons_of_mem))) hT.le) (by omega) (by omega)).mono ?_); rintro e wv ⟨v, i1, rfl, ⟨r, rfl, r0, r1⟩, hk9, hT1⟩; replace hO := hO.after (by (repeat (first | exact Upd.here | apply Upd.there))) hk9 hT1.blk; replace hT := hT1; clear hT1 hk9) | (go_at_call 20; (with_reducible refine (ttableR_any m _ hZ (hO.tapeIn (by (repeat (first | exact List.mem_cons_self | refine List.mem_cons_of_mem _ ?_))) (by (intro s hs; repeat (first | exact hs | exact List.mem_append_left _ hs | apply List.mem_append_right | apply List.mem_cons_of_mem))) hT.le) h0 (by omega)).mono ?_); rintro e wv ⟨va, i1, rfl, ⟨t, -, hn9, kt, nt, kg, hrow⟩, hk9, hT1⟩; have hO9 := hO.after (by (repeat (first | exact Upd.here | apply Upd.there))) hk9 hT1.blk; replace hO := hO.rowT hO9 rfl hn9 hrow; replace hT := hT1; clear hT1 hk9 hO9 hn9 hrow))
  have KG0 := Lib.hid (show true = false → ∀ r ∈ t, Good r.1 from fun h => kg (by cases h))
  clear kg
  obtain ⟨a0, c0, hva, ha0⟩ := rowview11 (hO.row _ List.mem_cons_self)
  dsimp only at hva ha0
  subst hva
  go_loopw [8] (fun q wr => ∃ (k : Nat) (u : List Rul) (i : Nat), k ≤ t.length ∧ u.length = t.length ∧ q = .int .i64 k ∧ okT u ∧ Hid (true = false → ∀ r ∈ u, Good r.1) ∧ i ≤ zs.length ∧ Own [n] w [⟨n, tcs sl i, 65⟩] [⟨.slice a0 t.length c0, t.length, cellsR u, 42, 11⟩] (roS sl (ints zs)) wr) (fun q _ => t.length - (intOf q).toNat)
  case atStart => exact ⟨0, t, _, by omega, rfl, rfl, kt, KG0, hT.le, hO⟩
  case round =>
   clear hO hT kt KG0
   obtain ⟨k, u, i, hk, hu, rfl, ku, KG, hi, hO⟩ := hrel
   have hT := hO.tapeIn List.mem_cons_self (fun q hq => hq) hi
   have s1 : IntKind.i64.wrap ((k : Int) + 1) = (k : Int) + 1 := IntWalk.i64_in _ (by omega)
   by_cases hlt : k < t.length
   ·obtain ⟨g, rfl⟩ := ha0 (by omega)
    have hlu : k < u.length := by omega
    have hsz : k * 11 + 10 ≤ (cellsR u).length := by rw [cellsR_length]; omega
    go_upto_region 6 with (first | refine ldNT ?_ | ((first | refine stNT hO ?_ | refine st1NT hO ?_); clear hO; intro wv hO) | (go_at_call 21; (with_reducible refine (next_pos 4 hZ (hO.tapeIn (by (repeat (first | exact List.mem_cons_self | refine List.mem_cons_of_mem _ ?_))) (by (intro s hs; repeat (first | exact hs | exact List.mem_append_left _ hs | apply List.mem_append_right | apply List.mem_cons_of_mem))) hT.le) (by omega) (by omega)).mono ?_); rintro e wv ⟨v, i1, rfl, ⟨r, rfl, r0, r1⟩, hk9, hT1⟩; replace hO := hO.after (by (repeat (first | exact Upd.here | apply Upd.there))) hk9 hT1.blk; replace hT := hT1; clear hT1 hk9))
    by_cases r_0 : r = 0
    ·have g0 : (r == 0) = true := beq_iff_eq.2 r_0
     clear r_0
     go_wp2_with (first | refine ldNT ?_ | ((first | refine stNT hO ?_ | refine st1NT hO ?_); clear hO; intro wv hO) | (go_at_call 21; (with_reducible refine (next_pos 6 hZ (hO.tapeIn (by (repeat (first | exact List.mem_cons_self | refine List.mem_cons_of_mem _ ?_))) (by (intro s hs; repeat (first | exact hs | exact List.mem_append_left _ hs | apply List.mem_append_right | apply List.mem_cons_of_mem))) hT.le) (by omega) (by omega)).mono ?_); rintro e wv ⟨v, i1, rfl, ⟨x, rfl, x0, x1⟩, hk9, hT1⟩; replace hO := hO.after (by (repeat (first | exact Upd.here | apply Upd.there))) hk9 hT1.blk; replace hT := hT1; clear hT1 hk9; have w1 : IntKind.u32.wrap x = x := (by rw [IntKind.wrap_u32]; omega)) | (go_at_call 21; (with_reducible refine (next_pos 4 hZ (hO.tapeIn (by (repeat (first | exact List.mem_cons_self | refine List.mem_cons_of_mem _ ?_))) (by (intro s hs; repeat (first | exact hs | exact List.mem_append_left _ hs | apply List.mem_append_right | apply List.mem_cons_of_mem))) hT.le) (by omega) (by omega)).mono ?_); rintro e wv ⟨v, i1, rfl, ⟨y, rfl, y0, y1⟩, hk9, hT1⟩; replace hO := hO.after (by (repeat (first | exact Upd.here | apply Upd.there))) hk9 hT1.blk; replace hT := hT1; clear hT1 hk9; have w2 : IntKind.u32.wrap y = y := (by rw [IntKind.wrap_u32]; omega); have w3 : IntKind.u32.wrap (x + y) = x + y := (by rw [IntKind.wrap_u32]; omega)) | (go_at_call 22; (with_reducible refine (portsG32_any (by omega) (by omega) (by omega) _).mono ?_); rintro e wv ⟨b, rfl, gb, hb9⟩; replace hO := hO.call hb9; replace hT := (hO.tapeIn (by (repeat (first | exact List.mem_cons_self | refine List.mem_cons_of_mem _ ?_))) (by (intro s hs; repeat (first | exact hs | exact List.mem_append_left _ hs | apply List.mem_append_right | apply List.mem_cons_of_mem))) hT.le); clear hb9; have hn := cellsR_setM hlu b) | ((with_reducible refine is_store ?_); (go_must (refine own_stRw hO (h := ?_))); clear hO; intro wv hO))
     go_roundw
     case rel => exact ⟨k + 1, _, _, by omega, by simpa using hu, by go_num, okT_set ku gb.ok, Lib.hid (fun hw => goodT_set (KG.out hw) gb), hT.le, hO⟩
     case measure => simp [intOf]; omega
    ·have g0 : (r == 0) = false := beq_eq_false_iff_ne.2 r_0
     by_cases r_1 : r = 1
     ·have g4 : (r == 1) = true := beq_iff_eq.2 r_1
      clear r_1 r_0
      by_cases hk0 : 0 < k
      ·have g1 : decide ((0 : Int) < (k : Int)) = true := decide_eq_true (by omega)
       go_wp2_with (first | refine ldNT ?_ | ((first | refine stNT hO ?_ | refine st1NT hO ?_); clear hO; intro wv hO) | (go_at_call 21; (with_reducible refine (next_pos (k : Int) hZ (hO.tapeIn (by (repeat (first | exact List.mem_cons_self | refine List.mem_cons_of_mem _ ?_))) (by (intro s hs; repeat (first | exact hs | exact List.mem_append_left _ hs | apply List.mem_append_right | apply List.mem_cons_of_mem))) hT.le) (by omega) (by omega)).mono ?_); rintro e wv ⟨v, i1, rfl, ⟨q, rfl, hq0, hq1⟩, hk9, hT1⟩; replace hO := hO.after (by (repeat (first | exact Upd.here | apply Upd.there))) hk9 hT1.blk; replace hT := hT1; clear hT1 hk9; obtain ⟨q, rfl⟩ : (∃ q9 : Nat, q = (q9 : Int)) := ⟨q.toNat, by omega⟩; have hqu : q < u.length := (by omega); have t1 := tk_match u hqu; have hn := cellsR_setM hlu u[q].1; have kb := ku _ (List.getElem_mem hqu); have KB := Lib.hid (fun hw => KG.out hw _ (List.getElem_mem hqu)); generalize u[q] = rq at *) | ((with_reducible refine is_store ?_); (go_must (refine own_stRw hO (h := ?_))); clear hO; intro wv hO))
       go_roundw
       case rel => exact ⟨k + 1, u.set k (rq.1, u[k].2), _, by omega, by simpa using hu, by go_num, okT_set (r := (rq.1, u[k].2)) ku kb, Lib.hid (fun hw => goodT_set (r := (rq.1, u[k].2)) (KG.out hw) (KB.out hw)), hT.le, hO⟩
       case measure => simp [intOf]; omega
      ·have g1 : decide ((0 : Int) < (k : Int)) = false := decide_eq_false (by omega)
       go_wp2_with (first | refine ldNT ?_ | ((first | refine stNT hO ?_ | refine st1NT hO ?_); clear hO; intro wv hO))
       go_roundw
       case rel => exact ⟨k + 1, u, _, by omega, hu, by go_num, ku, KG, hT.le, hO⟩
       case measure => simp [intOf]; omega
     ·have g1 : (r == 1) = false := beq_eq_false_iff_ne.2 r_1
      clear r_1 r_0
      go_wp2_with (first | refine ldNT ?_ | ((first | refine stNT hO ?_ | refine st1NT hO ?_); clear hO; intro wv hO))
      go_roundw
      case rel => exact ⟨k + 1, u, _, by omega, hu, by go_num, ku, KG, hT.le, hO⟩
      case measure => simp [intOf]; omega
   ·obtain rfl : k = t.length := by omega
    go_wp2_with (first | refine ldNT ?_ | ((first | refine stNT hO ?_ | refine st1NT hO ?_); clear hO; intro wv hO))
    go_ret
    refine tpost hO (by (repeat (first | exact List.mem_cons_self | refine List.mem_cons_of_mem _ ?_))) (by (intro s hs; repeat (first | exact hs | exact List.mem_append_left _ hs | apply List.mem_append_right | apply List.mem_cons_of_mem))) hT.le ⟨u, isCells_table.2 ?_, ?_, ku, by omega, fun h => by first | exact KG.out (by trivial) | cases h⟩
    ·rw [hu]; exact hO.rowIs List.mem_cons_self
    ·exact own_newT hO List.mem_cons_self (nodup_cons_row hO.nd)
end Go.Proofs.YtjoionnnpjajmaaDoor
