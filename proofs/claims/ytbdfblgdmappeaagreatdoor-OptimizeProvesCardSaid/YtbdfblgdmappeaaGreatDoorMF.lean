/- The library's sort at uint64: what it reads. The plain layer of the sort is the kit's. -/
import Derived.IntWalk
import Derived.Sort.LotD3
import Derived.Sort.LotA
import Derived.Sort.LotB
import Derived.Sort.LotC
import Derived.Sort.LotD4
import Derived.Test.YtbdfblgdmappeaaGreatDoorMB
namespace Go.Proofs.YtbdfblgdmappeaaGreatDoor
open Go.RowKit
open Go.Sort (swp ltInt)
set_option maxRecDepth 100000
theorem one_u64 : OneT Tryz.prog 200 := ⟨_, Tryz.underlying200, rfl, by kernel_rfl⟩
def uc (d : Array Int) : List Value := d.toList.map (Value.int .u64)
theorem uc_length (d : Array Int) : (uc d).length = d.size := by simp [uc]
theorem uc_at {d : Array Int} {k : Nat} (h : k < d.size) : (uc d)[k]? = some (.int .u64 d[k]!) := by
 simp [uc, h]
theorem own_takeK {w : World} {n : Nat} {cs : List Value} {t : TypeId} (h : Blk w n cs t) (S : List Ro) (hS : ∀ s ∈ S, w.rangeAt s.g s.o s.xs ∧ (s.xs ≠ [] → s.g ≠ n)) : Own [n] w [⟨n, cs, t⟩] [] S w :=
 ⟨Keep.refl _ _, fun c hc => by obtain rfl := List.mem_singleton.1 hc; exact h, fun r hr => (by cases hr), fun s hs => (hS s hs).1, by simp [excl], fun m hm => .inl (by simpa [excl] using hm), fun s hs hne hm => (hS s hs).2 hne (by simpa [excl] using hm)⟩
theorem isnan_any (x : Int) (w : World) : Calls Tryz.prog 245 #[.int .u64 x] w fun e w' => e = .returned (.bool false) ∧ w = w' := by
 have e1 : (x != x) = false := by simp
 go_enter Tryz.func245, Tryz.ntmps245
 go_wp2_with fail
 go_ret
 exact ⟨rfl, rfl⟩
theorem less_any (x y : Int) (w : World) : Calls Tryz.prog 234 #[.int .u64 x, .int .u64 y] w fun e w' => e = .returned (.bool (ltInt x y)) ∧ w = w' := by
 go_enter Tryz.func234, Tryz.ntmps234
 go_wp2_with (go_at_call 245; refine (isnan_any _ _).mono ?_; rintro e _ ⟨rfl, rfl⟩)
 go_ret
 exact ⟨rfl, rfl⟩
theorem own_isN {w : World} {g o c k n : Nat} {d : Array Int} {cs : List Value} {t : TypeId} (hv : IsCells w (.slice (some ⟨g, o, none⟩) k c) k (uc d)) (hb : Blk w n cs t) (hne : g ≠ n) : Own [n] w [⟨n, cs, t⟩] [] [⟨g, o, uc d⟩] w := by
 rcases hv with ⟨h, _⟩ | ⟨g', o', c', h1, _, h2⟩
 ·cases h
 ·cases h1
  exact own_takeK hb _ fun s hs => by obtain rfl := List.mem_singleton.1 hs; exact ⟨h2, fun _ => hne⟩
def SwPost (w : World) (n : Nat) (s : Nat) (r : Value) (en : Ending) (w' : World) : Prop := en = .returned r ∧ Keep [n] w w' ∧ Blk w' n [.int .i64 s] 3
set_option maxHeartbeats 1000000 in
theorem order2_any {g o c k n s : Nat} {d : Array Int} (a b : Nat) (w : World) (hv : IsCells w (.slice (some ⟨g, o, none⟩) k c) k (uc d)) (hk : d.size = k) (hb : Blk w n [.int .i64 s] 3) (hne : g ≠ n) (ha : a < k) (hb' : b < k) (hs : s ≤ 1000) :
  Calls Tryz.prog 247 #[.slice (some ⟨g, o, none⟩) k c, .int .i64 a, .int .i64 b, .pointer (some ⟨n, 0, none⟩)] w
   (SwPost w n (Go.Sort.order2 ltInt d a b s).2.2 (.tuple #[.int .i64 (Go.Sort.order2 ltInt d a b s).1, .int .i64 (Go.Sort.order2 ltInt d a b s).2.1])) := by
 have hO := own_isN hv hb hne
 have c1 := uc_at (show a < d.size by omega)
 have c2 := uc_at (show b < d.size by omega)
 have E := Lib.hid (show Go.Sort.order2 ltInt d a b s = if ltInt d[b]! d[a]! = true then (b, a, s + 1) else (a, b, s) from rfl)
 generalize Go.Sort.order2 ltInt d a b s = r at *
 generalize d[a]! = x at *
 generalize d[b]! = y at *
 have s1 : IntKind.i64.wrap ((s : Int) + 1) = (s : Int) + 1 := IntWalk.i64_in _ (by omega)
 clear hv hb
 cases hlt : ltInt y x
 ·rw [hlt, if_neg (by simp)] at E
  go_enter Tryz.func247, Tryz.ntmps247
  go_wp2_with fail
  (refine own_quiet hO (by kernel_rfl) (by kernel_rfl) ?_; clear hO; (repeat (go_big_quiet_want; (first | ((with_reducible refine is_loadQ ?_); (refine q_ld (h := ?_)); (try simp only [Act.put]); (try simp only [sI9, sZ9, sS9]); go_big_quiet_on) | (go_big_quiet_op; (first | go_big_quiet_on | ((refine ⟨_, fun _ _ => rfl, ?_⟩); go_big_quiet_on) | go_big_quiet_call ((intro hq; go_at_call 234; exact q_same (less_any _ _ _) hq))))))); (refine wpQuiet_nil ?_); intro wv hO)
  rw [hlt]
  go_wp2_with fail
  go_ret2
  obtain rfl := E.out
  exact ⟨rfl, hO.keep, hO.chunk _ List.mem_cons_self⟩
 ·rw [hlt, if_pos rfl] at E
  go_enter Tryz.func247, Tryz.ntmps247
  go_wp2_with fail
  (refine own_quiet hO (by kernel_rfl) (by kernel_rfl) ?_; clear hO; (repeat (go_big_quiet_want; (first | ((with_reducible refine is_loadQ ?_); (refine q_ld (h := ?_)); (try simp only [Act.put]); (try simp only [sI9, sZ9, sS9]); go_big_quiet_on) | (go_big_quiet_op; (first | go_big_quiet_on | ((refine ⟨_, fun _ _ => rfl, ?_⟩); go_big_quiet_on) | go_big_quiet_call ((intro hq; go_at_call 234; exact q_same (less_any _ _ _) hq))))))); (refine wpQuiet_nil ?_); intro wv hO)
  rw [hlt]
  go_wp2_with (first | refine ldN ?_ | (refine st1N hO ?_; clear hO; intro wv hO))
  go_ret2
  obtain rfl := E.out
  exact ⟨rfl, hO.keep, hO.chunk _ List.mem_cons_self⟩
set_option maxHeartbeats 1000000 in
theorem median_any {g o c k n s : Nat} {d : Array Int} (a b e : Nat) (w : World) (hv : IsCells w (.slice (some ⟨g, o, none⟩) k c) k (uc d)) (hk : d.size = k) (hb : Blk w n [.int .i64 s] 3) (hne : g ≠ n) (ha : a < k) (hb' : b < k) (he : e < k) (hs : s ≤ 900) :
  Calls Tryz.prog 244 #[.slice (some ⟨g, o, none⟩) k c, .int .i64 a, .int .i64 b, .int .i64 e, .pointer (some ⟨n, 0, none⟩)] w
   (SwPost w n (Go.Sort.median ltInt d a b e s).2 (.int .i64 (Go.Sort.median ltInt d a b e s).1)) := by
 have hO := own_isN hv hb hne
 have hvk := fun (wq : World) (h : Keep [n] w wq) => hv.keepB h (by simpa [Value.ownBlock] using hne)
 have h1 := fun w hv hb => order2_any (g := g) (o := o) (c := c) (k := k) (n := n) (s := s) (d := d) a b w hv hk hb hne ha hb' (by omega)
 have m1 := Go.Sort.order2_mem ltInt d a b s
 have n1 := Go.Sort.order2_count (lt := ltInt) d a b s
 have E := Lib.hid (show Go.Sort.median ltInt d a b e s = ((Go.Sort.order2 ltInt d (Go.Sort.order2 ltInt d a b s).1 (Go.Sort.order2 ltInt d (Go.Sort.order2 ltInt d a b s).2.1 e (Go.Sort.order2 ltInt d a b s).2.2).1 (Go.Sort.order2 ltInt d (Go.Sort.order2 ltInt d a b s).2.1 e (Go.Sort.order2 ltInt d a b s).2.2).2.2).2.1, (Go.Sort.order2 ltInt d (Go.Sort.order2 ltInt d a b s).1 (Go.Sort.order2 ltInt d (Go.Sort.order2 ltInt d a b s).2.1 e (Go.Sort.order2 ltInt d a b s).2.2).1 (Go.Sort.order2 ltInt d (Go.Sort.order2 ltInt d a b s).2.1 e (Go.Sort.order2 ltInt d a b s).2.2).2.2).2.2) from rfl)
 generalize Go.Sort.median ltInt d a b e s = r at *
 generalize Go.Sort.order2 ltInt d a b s = r1 at *
 obtain ⟨p1, q1, t1⟩ := r1
 dsimp only at m1 n1 h1 E
 have hp1 : p1 < k := by omega
 have hq1 : q1 < k := by omega
 clear m1
 have h2 := fun w hv hb => order2_any (g := g) (o := o) (c := c) (k := k) (n := n) (s := t1) (d := d) q1 e w hv hk hb hne hq1 he (by omega)
 have m2 := Go.Sort.order2_mem ltInt d q1 e t1
 have n2 := Go.Sort.order2_count (lt := ltInt) d q1 e t1
 generalize Go.Sort.order2 ltInt d q1 e t1 = r2 at *
 obtain ⟨p2, q2, t2⟩ := r2
 dsimp only at m2 n2 h2 E
 have hp2 : p2 < k := by omega
 clear m2
 have h3 := fun w hv hb => order2_any (g := g) (o := o) (c := c) (k := k) (n := n) (s := t2) (d := d) p1 p2 w hv hk hb hne hp1 hp2 (by omega)
 generalize Go.Sort.order2 ltInt d p1 p2 t2 = r3 at *
 obtain ⟨p3, q3, t3⟩ := r3
 dsimp only at h3 E
 clear hv hb
 go_enter Tryz.func244, Tryz.ntmps244
 go_wp2_with (first | (go_at_call 247; (with_reducible refine (h1 _ (hvk _ hO.keep) (hO.chunk _ List.mem_cons_self)).mono ?_); rintro e wv hw; obtain rfl := hw.1; replace hO := hO.after .here hw.2.1 hw.2.2; clear hw h1) | (go_at_call 247; (with_reducible refine (h2 _ (hvk _ hO.keep) (hO.chunk _ List.mem_cons_self)).mono ?_); rintro e wv hw; obtain rfl := hw.1; replace hO := hO.after .here hw.2.1 hw.2.2; clear hw h2) | (go_at_call 247; (with_reducible refine (h3 _ (hvk _ hO.keep) (hO.chunk _ List.mem_cons_self)).mono ?_); rintro e wv hw; obtain rfl := hw.1; replace hO := hO.after .here hw.2.1 hw.2.2; clear hw h3))
 go_ret
 obtain rfl := E.out
 exact ⟨rfl, hO.keep, hO.chunk _ List.mem_cons_self⟩
set_option maxHeartbeats 1000000 in
theorem medianAdj_any {g o c k n s : Nat} {d : Array Int} (a : Nat) (w : World) (hv : IsCells w (.slice (some ⟨g, o, none⟩) k c) k (uc d)) (hk : d.size = k) (hb : Blk w n [.int .i64 s] 3) (hne : g ≠ n) (ha : 0 < a) (ha' : a + 1 < k) (hs : s ≤ 900) (hl : k ≤ 140737488355328) :
  Calls Tryz.prog 243 #[.slice (some ⟨g, o, none⟩) k c, .int .i64 a, .pointer (some ⟨n, 0, none⟩)] w
   (SwPost w n (Go.Sort.medianAdjacent ltInt d a s).2 (.int .i64 (Go.Sort.medianAdjacent ltInt d a s).1)) := by
 obtain ⟨a, rfl⟩ : ∃ b, a = b + 1 := ⟨a - 1, by omega⟩
 have hO := own_isN hv hb hne
 have h1 := median_any (s := s) a (a + 1) (a + 2) w hv hk hb hne (by omega) (by omega) (by omega) hs
 have E := Lib.hid (show Go.Sort.medianAdjacent ltInt d (a + 1) s = Go.Sort.median ltInt d a (a + 1) (a + 2) s from rfl)
 generalize Go.Sort.medianAdjacent ltInt d (a + 1) s = r at *
 generalize Go.Sort.median ltInt d a (a + 1) (a + 2) s = r1 at *
 obtain ⟨r, t⟩ := r
 have e1 : ((a + 1 : Nat) : Int) = (a : Int) + 1 := by omega
 have e2 : ((a + 2 : Nat) : Int) = (a : Int) + 2 := by omega
 rw [e1, e2] at h1
 rw [e1]
 have s1 : IntKind.i64.wrap ((a : Int) + 1 - 1) = (a : Int) := by rw [IntWalk.i64_in _ (by omega)]; omega
 have s2 : IntKind.i64.wrap ((a : Int) + 1 + 1) = (a : Int) + 2 := by rw [IntWalk.i64_in _ (by omega)]; omega
 clear hv hb
 go_enter Tryz.func243, Tryz.ntmps243
 go_wp2_with (go_at_call 244; (with_reducible refine h1.mono ?_); rintro e wv hw; obtain rfl := hw.1; replace hO := hO.after .here hw.2.1 hw.2.2; clear hw h1)
 go_ret
 obtain rfl := E.out
 exact ⟨rfl, hO.keep, hO.chunk _ List.mem_cons_self⟩
end Go.Proofs.YtbdfblgdmappeaaGreatDoor
namespace Go.Proofs.YtbdfblgdmappeaaGreatDoor
open Go.RowKit
open Go.Sort (swp ltInt)
set_option maxRecDepth 100000
section
variable {ops : Array Oper} {rest : List Oper} {o : Oper} {a : Act} {w w0 w' : World} {Q : Exit → Act → World → Prop} {M : List Nat} {X X' : List Chunk} {R R' : List Row} {S : List Ro}
theorem own_ldU (hO : Own M w0 X R S w) (hw : Region.wanted o (yielded ops a.tmps) = true := by rfl) {t : TypeId} {x : Operand} (ho : o.op = .load t x := by rfl) {g j k cap : Nat} (hx : a.eval x = .pointer (some ⟨g, j, none⟩) := by rfl)
  (ht : OneT Tryz.prog t := by exact one_u64) {xs : List Value} {e : TypeId} {v : Value} (hm : (⟨.slice (some ⟨g, 0, none⟩) k cap, k, xs, e, 1⟩ : Row) ∈ R := by (repeat (first | exact List.mem_cons_self | refine List.mem_cons_of_mem _ ?_))) (hv : xs[j]? = some v := by assumption)
  (h : wpList Tryz.prog ops Q rest (a.put o.dst v) w) : wpList Tryz.prog ops Q (o :: rest) a w := own_ldR hO hw ho hx ht hm hv h
theorem q_ldU {K : Act → Prop} {t : TypeId} {x : Operand} (ho : o.op = .load t x := by rfl) {g j k cap : Nat} (hx : a.eval x = .pointer (some ⟨g, j, none⟩) := by rfl) (ht : OneT Tryz.prog t := by exact one_u64)
  {xs : List Value} {e : TypeId} {v : Value} (hm : (⟨.slice (some ⟨g, 0, none⟩) k cap, k, xs, e, 1⟩ : Row) ∈ R := by (repeat (first | exact List.mem_cons_self | refine List.mem_cons_of_mem _ ?_))) (hv : xs[j]? = some v := by assumption)
  (h : K (a.put o.dst v)) : o.quiet Tryz.prog a (Own M w0 X R S) K := q_val _ (fun _ hO => rx_ld ho hx (ld_one ht (hO.rowCell hm hv))) h
theorem own_stU (hO : Own M w0 X R S w) (hw : Region.wanted o (yielded ops a.tmps) = true := by rfl) {t : TypeId} {x y : Operand} (ho : o.op = .store t x y := by rfl) {g j k cap : Nat} (hx : a.eval x = .pointer (some ⟨g, j, none⟩) := by rfl)
  {v : Value} (hy : a.eval y = v := by exact (rfl : _ = Value.int _ _)) (ht : OneT Tryz.prog t := by exact one_u64) {xs : List Value} {e : TypeId} (hu : UpdR R ⟨.slice (some ⟨g, 0, none⟩) k cap, k, xs, e, 1⟩ ⟨.slice (some ⟨g, 0, none⟩) k cap, k, xs.set j v, e, 1⟩ R' := by (repeat (first | exact UpdR.here | apply UpdR.there)))
  (hl : j < xs.length := by (simp only [List.length_set, uc_length]; omega)) (h1 : v.oneCell' = true := by rfl)
  (h : ∀ w', Own M w0 X R' S w' → wpList Tryz.prog ops Q rest (a.put o.dst undef) w') : wpList Tryz.prog ops Q (o :: rest) a w := own_stRow hO hw ho hx hy ht hu hl h1 h
end
theorem uc_swp {d : Array Int} {i j : Nat} {x y : Int} (hx : x = d[i]!) (hy : y = d[j]!) : ((uc d).set i (.int .u64 y)).set j (.int .u64 x) = uc (swp d i j) := by
 subst hx hy
 simp [uc, swp, List.map_set]
theorem uc_get {d : Array Int} {k : Nat} (h : k < d.size) : ∃ x, Hid (x = d[k]!) ∧ (uc d)[k]? = some (.int .u64 x) := ⟨_, Lib.hid rfl, uc_at h⟩
def UPost (w : World) (g k c : Nat) (d : Array Int) (r : Value) (en : Ending) (w' : World) : Prop := RowPost w (.slice (some ⟨g, 0, none⟩) k c) k 200 1 (uc d) r en w'
def OwnsU (w : World) (g k c : Nat) (d : Array Int) : Prop := w.ownsRow 0 200 1 (.slice (some ⟨g, 0, none⟩) k c) k (uc d)
theorem OwnsU.own {w : World} {g k c : Nat} {d : Array Int} (h : OwnsU w g k c d) : Own [g] w [] [⟨.slice (some ⟨g, 0, none⟩) k c, k, uc d, 200, 1⟩] [] w := own_takeRow h [] (by simp)
theorem u_post {g k c : Nat} {d : Array Int} {w0 w : World} {r : Value} {X : List Chunk} {R : List Row} {S : List Ro} (hO : Own [g] w0 X R S w) (hm : (⟨.slice (some ⟨g, 0, none⟩) k c, k, uc d, 200, 1⟩ : Row) ∈ R) : UPost w0 g k c d r (.returned r) w := ⟨rfl, hO.keep, hO.row _ hm⟩
set_option maxHeartbeats 2000000 in
theorem ins_any {g c k : Nat} {d : Array Int} (a b : Nat) (w : World) (hr : OwnsU w g k c d) (hk : d.size = k) (hb : b ≤ k) (hab : a ≤ b) (hl : k ≤ 140737488355328) :
  Calls Tryz.prog 228 #[.slice (some ⟨g, 0, none⟩) k c, .int .i64 a, .int .i64 b] w (UPost w g k c (Go.Sort.insertionSort ltInt d a b) (.tuple #[])) := by
 have hO := hr.own
 obtain ⟨D, hD⟩ : ∃ D, D = Go.Sort.insertionSort ltInt d a b := ⟨_, rfl⟩
 have hD1 : Hid (Go.Sort.insOuter ltInt a b (a + 1) d = D) := Lib.hid hD.symm
 rw [← hD]
 clear hr hD
 have s0 : IntKind.i64.wrap ((a : Int) + 1) = (a : Int) + 1 := IntWalk.i64_in _ (by omega)
 go_enter Tryz.func228, Tryz.ntmps228
 go_wp2_with fail
 go_loopw [6] (fun q wr => ∃ (i : Nat) (d1 : Array Int), a + 1 ≤ i ∧ i ≤ b + 1 ∧ q = .int .i64 i ∧ d1.size = k ∧ Hid (Go.Sort.insOuter ltInt a b i d1 = D) ∧ Own [g] w [] [⟨.slice (some ⟨g, 0, none⟩) k c, k, uc d1, 200, 1⟩] [] wr) (fun q _ => b - (intOf q).toNat)
 case atStart => exact ⟨a + 1, d, by omega, by omega, by go_num, hk, hD1, hO⟩
 case round =>
  clear hO hD1 hk s0
  obtain ⟨i, d1, hi, hi', rfl, hk, hD1, hO⟩ := hrel
  clear d
  by_cases hlt : i < b
  ·have g0 : decide ((i : Int) < b) = true := by simp; omega
   have s1 : IntKind.i64.wrap ((i : Int) + 1) = (i : Int) + 1 := IntWalk.i64_in _ (by omega)
   have hD2 : Hid (Go.Sort.insOuter ltInt a b (i + 1) (Go.Sort.insInner ltInt a i d1) = D) := Lib.hid (by
    have := hD1.out
    rw [Go.Sort.insOuter, if_pos hlt] at this; exact this)
   clear hD1
   go_wp2_with fail
   go_loopw [7] (fun q wr => ∃ (j : Nat) (d2 : Array Int), j ≤ i ∧ q = .int .i64 j ∧ d2.size = k ∧ Hid (Go.Sort.insOuter ltInt a b (i + 1) (Go.Sort.insInner ltInt a j d2) = D) ∧ Own [g] w [] [⟨.slice (some ⟨g, 0, none⟩) k c, k, uc d2, 200, 1⟩] [] wr) (fun q _ => (intOf q).toNat)
   case atStart => exact ⟨i, d1, by omega, rfl, hk, hD2, hO⟩
   case round =>
    clear hO hD2 hk
    obtain ⟨j, d2, hj, rfl, hk, hD2, hO⟩ := hrel
    clear d1
    by_cases hja : a < j
    ·obtain ⟨j, rfl⟩ : ∃ b, j = b + 1 := ⟨j - 1, by omega⟩
     have e1 : ((j + 1 : Nat) : Int) = (j : Int) + 1 := by omega
     have g1 : decide ((a : Int) < (j : Int) + 1) = true := by simp; omega
     have s2 : IntKind.i64.wrap ((j : Int) + 1 - 1) = (j : Int) := by rw [IntWalk.i64_in _ (by omega)]; omega
     have s2' : IntKind.i64.wrap (j : Int) = (j : Int) := IntWalk.i64_in _ (by omega)
     have s3 : ((j : Int) + 1).toNat = j + 1 := by omega
     have i1 : (0 : Int) ≤ (j : Int) + 1 := by omega
     have i2 : (j : Int) + 1 < k := by omega
     have i3 : (0 : Int) ≤ (j : Int) := by omega
     have i4 : (j : Int) < k := by omega
     obtain ⟨x, hx, c1⟩ := uc_get (d := d2) (k := j + 1) (by omega)
     obtain ⟨y, hy, c2⟩ := uc_get (d := d2) (k := j) (by omega)
     rw [e1]
     cases hxy : ltInt x y
     ·have hD3 : Hid (Go.Sort.insOuter ltInt a b (i + 1) d2 = D) := Lib.hid (by
       have := hD2.out
       rw [Go.Sort.insInner, ← hx.out, ← hy.out, hxy, Bool.and_false, if_neg (by simp)] at this; exact this)
      clear hD2 hx hy
      go_wp2_with fail
      (refine own_quiet hO (by kernel_rfl) (by kernel_rfl) ?_; clear hO; (repeat (go_big_quiet_want; (first | ((with_reducible refine is_loadQ ?_); (refine q_ldU (h := ?_)); (try simp only [Act.put]); (try simp only [sI9, sZ9, sS9]); go_big_quiet_on) | (go_big_quiet_op; (first | go_big_quiet_on | ((refine ⟨_, fun _ _ => rfl, ?_⟩); go_big_quiet_on) | go_big_quiet_call ((intro hq; go_at_call 234; exact q_same (less_any _ _ _) hq))))))); (refine wpQuiet_nil ?_); intro wv hO)
      rw [hxy]
      go_wp2_with fail
      go_roundw
      case rel => exact ⟨i + 1, d2, by omega, by omega, by go_num, hk, hD3, hO⟩
      case measure => simp [intOf]; omega
     ·have hD3 : Hid (Go.Sort.insOuter ltInt a b (i + 1) (Go.Sort.insInner ltInt a j (swp d2 (j + 1) j)) = D) := Lib.hid (by
       have := hD2.out
       rw [Go.Sort.insInner, ← hx.out, ← hy.out, hxy, Bool.and_true, if_pos (by simp; omega)] at this; exact this)
      clear hD2
      go_wp2_with fail
      (refine own_quiet hO (by kernel_rfl) (by kernel_rfl) ?_; clear hO; (repeat (go_big_quiet_want; (first | ((with_reducible refine is_loadQ ?_); (refine q_ldU (h := ?_)); (try simp only [Act.put]); (try simp only [sI9, sZ9, sS9]); go_big_quiet_on) | (go_big_quiet_op; (first | go_big_quiet_on | ((refine ⟨_, fun _ _ => rfl, ?_⟩); go_big_quiet_on) | go_big_quiet_call ((intro hq; go_at_call 234; exact q_same (less_any _ _ _) hq))))))); (refine wpQuiet_nil ?_); intro wv hO)
      rw [hxy]
      go_wp2_with fail
      refine wp_region_any (by kernel_rfl) ?_
      replace hO := hO.drew
      have ix9 := Ix.mk [0, 1, 2, 3, 4, 5, 6, 7, 8, 10, 11, 12]
      iterate 12 (refine wpAny_tk ix9 ?_; replace ix9 := ix9.tail; (first | go_big_quiet_skip | (go_big_quiet_want; (go_big_quiet_op; (first | go_big_quiet_on | ((refine ⟨_, fun _ _ => rfl, ?_⟩); go_big_quiet_on))))); (refine wpQuiet_nil ?_); (try simp only [Act.put]); (try simp only [sI9, sZ9, sS9]))
      clear ix9
      refine wpAny_all (rs := [9, 13]) (by kernel_rfl) (by simp) (ord_cons ?_ (ord_cons ?_ ord_nil))
      rotate_left 2
      all_goals
       refine wpOp_of_listL rfl ?_
       (refine ldN ?_); (try simp only [Act.put]); (try simp only [sI9, sZ9, sS9])
       refine wpList_done (qk_intro ?_)
      refine wpAny_1 13 ?_
      rotate_left 1
      refine wpAny_1 9 ?_
      rotate_left 1
      all_goals
       refine wpOp_of_listL rfl ?_
       (refine ldN ?_); (try simp only [Act.put]); (try simp only [sI9, sZ9, sS9])
       refine wpList_done (qk_intro ?_)
      refine wpAny_tk (Ix.mk [14]) ?_
      (first | go_big_quiet_skip | (go_big_quiet_want; (go_big_quiet_op; (first | go_big_quiet_on | ((refine ⟨_, fun _ _ => rfl, ?_⟩); go_big_quiet_on))))); (refine wpQuiet_nil ?_); (try simp only [Act.put]); (try simp only [sI9, sZ9, sS9])
      refine wpAny_1 15 ?_
      rotate_left 1
      refine wpAny_tk (Ix.mk [14]) ?_
      (first | go_big_quiet_skip | (go_big_quiet_want; (go_big_quiet_op; (first | go_big_quiet_on | ((refine ⟨_, fun _ _ => rfl, ?_⟩); go_big_quiet_on))))); (refine wpQuiet_nil ?_); (try simp only [Act.put]); (try simp only [sI9, sZ9, sS9])
      refine wpAny_1 15 ?_
      rotate_left 1
      all_goals
       refine wpOp_of_listL rfl ?_
       ((with_reducible refine is_store ?_); (refine own_stU hO (h := ?_); clear hO; intro wv hO)); (try simp only [Act.put])
       refine wpList_done (qk_intro ?_)
      refine wpAny_tk (Ix.mk [16]) ?_
      (first | go_big_quiet_skip | (go_big_quiet_want; (go_big_quiet_op; (first | go_big_quiet_on | ((refine ⟨_, fun _ _ => rfl, ?_⟩); go_big_quiet_on))))); (refine wpQuiet_nil ?_); (try simp only [Act.put]); (try simp only [sI9, sZ9, sS9])
      refine wpAny_1 17 ?_
      rotate_left 1
      refine wpAny_tk (Ix.mk [16]) ?_
      (first | go_big_quiet_skip | (go_big_quiet_want; (go_big_quiet_op; (first | go_big_quiet_on | ((refine ⟨_, fun _ _ => rfl, ?_⟩); go_big_quiet_on))))); (refine wpQuiet_nil ?_); (try simp only [Act.put]); (try simp only [sI9, sZ9, sS9])
      refine wpAny_1 17 ?_
      rotate_left 1
      all_goals
       refine wpOp_of_listL rfl ?_
       ((with_reducible refine is_store ?_); (refine own_stU hO (h := ?_); clear hO; intro wv hO)); (try simp only [Act.put])
       refine wpList_done (qk_intro ?_)
      refine wpAny_done (by kernel_rfl) ?_ _
      rotate_left
      refine wpAny_done (by kernel_rfl) ?_ _
      rotate_left
      all_goals
       rw [uc_swp hx.out hy.out] at hO
       go_wp2_with fail
       go_roundw
       case rel => exact ⟨j, _, by omega, rfl, by rw [Go.Sort.size_swp]; exact hk, hD3, hO⟩
       case measure => simp [intOf]
    ·have g1 : decide ((a : Int) < (j : Int)) = false := by simp; omega
     have hD3 : Hid (Go.Sort.insOuter ltInt a b (i + 1) d2 = D) := Lib.hid (by
      have := hD2.out
      cases j with
      | zero => exact this
      | succ j => rw [Go.Sort.insInner, if_neg (by simp; omega)] at this; exact this)
     clear hD2
     go_wp2_with fail
     (refine own_quiet hO (by kernel_rfl) (by kernel_rfl) ?_; clear hO; (repeat (first | go_big_quiet_skip | (go_big_quiet_want; (go_big_quiet_op; (first | go_big_quiet_on | ((refine ⟨_, fun _ _ => rfl, ?_⟩); go_big_quiet_on)))))); (refine wpQuiet_nil ?_); intro wv hO)
     go_wp2_with fail
     go_roundw
     case rel => exact ⟨i + 1, d2, by omega, by omega, by go_num, hk, hD3, hO⟩
     case measure => simp [intOf]; omega
  ·have g0 : decide ((i : Int) < b) = false := by simp; omega
   have hD2 : d1 = D := by
    have := hD1.out
    rw [Go.Sort.insOuter, if_neg hlt] at this; exact this
   clear hD1
   go_wp2_with fail
   go_end0
   subst hD2
   exact u_post hO List.mem_cons_self
end Go.Proofs.YtbdfblgdmappeaaGreatDoor
