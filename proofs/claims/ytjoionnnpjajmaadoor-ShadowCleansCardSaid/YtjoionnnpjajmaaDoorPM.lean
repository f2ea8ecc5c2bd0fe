/- make of a slice of one-cell elements. -/
import Derived.Test.YtjoionnnpjajmaaDoorPC
import Derived.Test.YtjoionnnpjajmaaDoorPL
import Derived.Test.YtjoionnnpjajmaaDoorOE
import Derived.Test.YtjoionnnpjajmaaDoorMB
namespace Go.Proofs.YtjoionnnpjajmaaDoor
open Go.RowKit
set_option maxRecDepth 100000
section
variable {P : Program} {ops : Array Oper} {rest : List Oper} {o : Oper} {a : Act} {Q : Exit → Act → World → Prop} {M : List Nat} {w0 w w' : World} {X : List Chunk} {R : List Row} {S : List Ro}
theorem is_makeH {d ty pos af g t x y} (h : wpList P ops Q (⟨d, .makeSlice t x y, ty, pos, af, g⟩ :: rest) a w) : wpList P ops Q (⟨d, .makeSlice t x y, ty, pos, af, g⟩ :: rest) a w := h
theorem own_makeC (hO : Own M w0 X R S w) (hw : Region.wanted o (yielded ops a.tmps) = true) {t e bytes : Nat} {x y : Operand} (ho : o.op = .makeSlice t x y) (ht : SliceT P t e 1 bytes) {z : Value} (hz : ZeroT P e [z]) {l c' : Int} (hx : a.eval x = .int .i64 l) (hy : a.eval y = .int .i64 c') {n c : Nat} (hl : l = (n : Int)) (hc : c' = (c : Int)) (hnc : n ≤ c) (hb : bytes ≤ 1024 ∧ c ≤ 1073741824) {xs : List Value} (hxs : List.replicate n z = xs)
  (h : ∀ g w', Own M w0 X (⟨.slice (some ⟨g, 0, none⟩) n c, n, xs, e, 1⟩ :: R) S w' → wpList P ops Q rest (a.put o.dst (.slice (some ⟨g, 0, none⟩) n c)) w') : wpList P ops Q (o :: rest) a w := by
 obtain ⟨hu, _, i, z', hi, hz', hi1, hi2, _⟩ := ht
 subst hl
 subst hc
 subst hxs
 have hz2 : z'.cells = #[z] := by
  unfold ZeroT at hz
  simpa [hi, hz'] using hz
 have hbytes : (i.bytes : Int) * (c : Int) ≤ 281474976710656 := by
  have h1 : i.bytes * c ≤ 1024 * 1073741824 := Nat.mul_le_mul (by omega) hb.2
  have h2 : ((i.bytes * c : Nat) : Int) ≤ 281474976710656 := by omega
  rwa [Int.natCast_mul] at h2
 have hr := run_make (P := P) w t e i z' hu hi hz' .i64 .i64 (n : Int) (c : Int) (by omega) (by omega) hbytes (by omega)
 rw [Int.toNat_natCast, Int.toNat_natCast, hi1, Nat.mul_one, hz2] at hr
 have hm : c ≤ maxLen := by unfold maxLen; omega
 have hrow : (w.alloc (.cells (madeCells #[z] c) e (0, 0))).ownsRow w.heap.size e 1 (.slice (some ⟨w.heap.size, 0, none⟩) n c) n (List.replicate n z) := by
  refine ⟨by simp, .inr ⟨w.heap.size, c, _, rfl, Nat.le_refl _, heap_alloc_new w _, hnc, hm, by rw [size_madeCells, Nat.mul_one], ?_⟩⟩
  rw [toList_madeCells_one, Nat.mul_one, List.take_replicate, Nat.min_eq_left hnc]
 exact wpList_val hw _ _ (by unfold execOp; simp only [ho, hx, hy, Sem.run_bind, hr, Sem.run_pure, Result.andThen_ok]) (h _ _ (hO.gainRow ((Below.refl _ _).alloc (Nat.le_refl _) _) hrow))
end
theorem leftN_succ (k : Nat) (g : List Nat) : leftN (k + 1) g = leftN k g ++ if g.contains k = true then [] else [k] := by
 unfold leftN
 rw [List.range_succ, List.filter_append, List.filter_cons, List.filter_nil]
 cases g.contains k <;> rfl
theorem leftN_at {k : Nat} {g : List Nat} (hk : g.contains k = false) : ∀ m, (leftN (k + 1 + m) g)[(leftN k g).length]? = some k
 | 0 => by rw [Nat.add_zero, leftN_succ, hk]; simp
 | m + 1 => by
  have ih := leftN_at hk m
  rw [← Nat.add_assoc, leftN_succ, List.getElem?_append_left (List.getElem?_eq_some_iff.1 ih).1]
  exact ih
theorem cl_at {x c : List Rul} {g : List Nat} (hm : c.map some = (leftN x.length g).map (x[·]?)) {k : Nat} (hk : k < x.length) (hg : g.contains k = false) : c[(leftN k g).length]? = x[k]? := by
 have h1 := leftN_at hg (x.length - (k + 1))
 rw [show k + 1 + (x.length - (k + 1)) = x.length by omega] at h1
 have h2 : (c.map some)[(leftN k g).length]? = some (x[k]?) := by
  rw [hm, List.getElem?_map, h1]; rfl
 rw [List.getElem?_map] at h2
 cases hc : c[(leftN k g).length]? with
 | none => rw [hc] at h2; cases h2
 | some r => rw [hc] at h2; exact (Option.some.inj h2)
def goneF (n : Nat) (g : List Nat) : List Bool := (List.range n).map fun j => g.contains j
theorem goneF_nil (n : Nat) : List.replicate n (Value.bool false) = blC (goneF n []) := by
 unfold blC goneF
 rw [List.map_map]
 exact (List.ext_getElem (by simp) fun i h1 h2 => by simp)
theorem goneF_length (n : Nat) (g : List Nat) : (blC (goneF n g)).length = n := by simp [blC, goneF]
theorem goneF_get {n : Nat} {g : List Nat} {j : Nat} (h : j < n) : (blC (goneF n g))[j]? = some (.bool (g.contains j)) := by simp [blC, goneF, h]
theorem goneF_set {n : Nat} {g : List Nat} {j : Nat} (_h : j < n) : (blC (goneF n g)).set j (.bool true) = blC (goneF n (g ++ [j])) := by
 refine List.ext_getElem (by simp [blC, goneF]) fun i h1 h2 => ?_
 rw [List.getElem_set]
 by_cases hij : j = i
 ·subst hij; simp [blC, goneF]
 ·rw [if_neg hij]
  have : (i == j) = false := by simpa using fun e => hij e.symm
  simp [blC, goneF, Ne.symm hij]
theorem Own.rowNe {M : List Nat} {w0 w : World} {X : List Chunk} {R : List Row} {S : List Ro} {r : Row} {ch : Chunk} (hO : Own M w0 X (r :: R) S w) (hm : ch ∈ X) : r.v.ownBlock ≠ some ch.n := fun e => by
 have h := (nodup_blocks (A := []) (B := R) (r := r) |>.1 hO.nd).2 _ e
 exact h (List.mem_append_left _ (List.mem_map.2 ⟨_, hm, rfl⟩))
theorem zero_boolH : ZeroT Tryd.prog 4 [.bool false] := by unfold ZeroT; kernel_rfl
theorem natI_length (g : List Nat) : (natI g).length = g.length := by simp [natI]
theorem natI_get {g : List Nat} {k : Nat} (h : k < g.length) : (ints (natI g))[k]? = some (.int .i64 ((g[k] : Nat) : Int)) := by simp [ints, natI, h]
set_option maxHeartbeats 32000000 in
theorem shcleans_law (sl : Value) (zs : List Int) (h : Hd) (w : World) (ht : Tops w) (hZ : ZsOk sl zs) (hr : ∀ s ∈ roS sl (ints zs), w.rangeAt s.g s.o s.xs) (ho : h.ok) :
  Calls Tryd.prog 3 #[sl, hv h] w fun e w' => e = .returned (.bool true) ∧ Below w.heap.size w w' := by
 have hO := own_law hr
 clear hr
 obtain ⟨sa, sc, rfl, -⟩ := hZ.view
 go_enter Tryd.func3, Tryd.ntmps3
 go_upto_region 3 with (first | refine ldNT ?_ | ((first | refine stNT hO ?_ | refine st1NT hO ?_); clear hO; intro wv hO) | (refine bx9 3 hO ?_; clear hO; intro n3 wv hO) | (refine al9T 13 hO ?_; clear hO; intro n13 wv hO) | (refine bl9T 54 hO ?_; clear hO; intro n54 wv hO) | (refine ap9T 55 hO ?_; clear hO; intro g55 c55 wv hO) | (go_at_call 6; (with_reducible refine (new_any _ _ _).mono ?_); rintro e wv ⟨n, rfl, hB, hn, hb⟩; replace hO := hO.gain hb hB hn; have hT := hO.tapeIn List.mem_cons_self (by (intro s hs; repeat (first | exact hs | exact List.mem_append_left _ hs | apply List.mem_append_right | apply List.mem_cons_of_mem))) (Nat.zero_le _); clear hb hB hn) | (go_at_call 7; (with_reducible refine (ltable_any 6 false hZ (hO.tapeIn (by (repeat (first | exact List.mem_cons_self | refine List.mem_cons_of_mem _ ?_))) (by (intro s hs; repeat (first | exact hs | exact List.mem_append_left _ hs | apply List.mem_append_right | apply List.mem_cons_of_mem))) hT.le) (by omega) (by omega)).mono ?_); rintro e wv ⟨vy, i1, rfl, ⟨y, hv9, hn9, ky, ny, kg9⟩, hk9, hT1⟩; have gy := kg9 rfl; have hoff9 := off_of_new hO hn9; replace hO := hO.after (by (repeat (first | exact Upd.here | apply Upd.there))) hk9 hT1.blk; replace hT := hT1; clear hT1 hk9 kg9; have hfy := hv9.form; obtain ⟨ay, cy, rfl, hay, hO⟩ := own_offRS hO ⟨hv9, hoff9⟩; clear hv9 hn9 hoff9))
 have h3 : ∀ w, Tops w → IsTable w (.slice ay y.length cy) y → Calls Tryd.prog 8 #[.slice ay y.length cy] w (ClPost w (clR y)) := fun w ht hv => sClean_any w ht hv ky (by omega)
 have hV := good_validT gy (by omega)
 cases hcl : clF y (upTo y.length) [] 0 with
 | none =>
  rw [clR_none hV hcl] at h3
  clear hcl hV
  go_wp2_with (first | refine ldNT ?_ | ((first | refine stNT hO ?_ | refine st1NT hO ?_); clear hO; intro wv hO) | (refine bx9 3 hO ?_; clear hO; intro n3 wv hO) | (refine al9T 13 hO ?_; clear hO; intro n13 wv hO) | (refine bl9T 54 hO ?_; clear hO; intro n54 wv hO) | (refine ap9T 55 hO ?_; clear hO; intro g55 c55 wv hO) | (go_at_call 8; (with_reducible refine (h3 _ (hO.tops ht (by simp)) (hO.isRm hfy)).mono ?_); rintro e wv ⟨v3, r3, rfl, -, -, -, -, hb9⟩; replace hO := hO.call hb9; clear hb9 h3) | (go_at_call 9; (with_reducible refine (sane32_any _ (hO.tops ht (by simp))).mono ?_); rintro e wv ⟨rfl, hb9⟩; replace hO := hO.call hb9; clear hb9))
  go_ret
  exact ⟨rfl, hO.keep.below⟩
 | some x =>
  obtain ⟨c, r⟩ := x
  rw [clR_some hV hcl] at h3
  have hl0 : leftN y.length [] = List.range y.length := by unfold leftN; exact List.filter_eq_self.2 fun _ _ => by simp
  have e0 : upTo y.length = natI (leftN y.length []) := by rw [hl0]; rfl
  obtain ⟨hsub, hdec⟩ := clF_dec ky hcl
  have hst := clF_stays hcl (fun k hk => absurd hk (by omega))
  rw [e0] at hcl
  obtain ⟨g9, rfl, hnd, hbd, hmap⟩ := clF_sub (x := y) (t := y) (g := []) (by
   rw [hl0]
   exact List.ext_getElem (by simp) fun i h1 h2 => by simp) List.nodup_nil (fun k hk => by cases hk) hcl
  have kc : okT c := fun q hq => ky q (hsub q hq)
  have nc : c.length ≤ 6 := by
   have := congrArg List.length hmap
   have h2 : (leftN y.length g9).length ≤ y.length := by unfold leftN; exact Nat.le_trans (List.length_filter_le _ _) (by simp)
   simp only [List.length_map] at this
   omega
  have hVc : validT c = true := good_validT (fun q hq => gy q (hsub q hq)) (by omega)
  have ng : g9.length ≤ 6 := by
   have h1 := (clF_len hcl).2
   rw [natI_length] at h1
   simp at h1
   omega
  clear hcl hV e0 hl0 hsub gy
  have HM := Lib.hid hmap
  have HD := Lib.hid hdec
  have HS := Lib.hid hst
  have HB := Lib.hid hbd
  have HND := Lib.hid hnd
  clear hmap hdec hst hbd hnd
  go_wp2_with (first | refine ldNT ?_ | ((first | refine stNT hO ?_ | refine st1NT hO ?_); clear hO; intro wv hO) | (refine bx9 3 hO ?_; clear hO; intro n3 wv hO) | (refine al9T 13 hO ?_; clear hO; intro n13 wv hO) | (refine bl9T 54 hO ?_; clear hO; intro n54 wv hO) | (refine ap9T 55 hO ?_; clear hO; intro g55 c55 wv hO) | (go_at_call 8; (with_reducible refine (h3 _ (hO.tops ht (by simp)) (hO.isRm hfy)).mono ?_); rintro e wv ⟨v3, r3, rfl, hv9, hn9, hr9, hm9, hb9⟩; have hfc := hv9.form; have hfr := isCells_form hr9; replace hO := hO.gainCl hb9 hv9 hn9 hr9 hm9; clear hb9 hv9 hn9 hr9 hm9 h3))
  obtain ⟨ac, cc, rfl, hac⟩ := hfc.view
  obtain ⟨ar, cr, hr0, har⟩ := hfr.view
  rw [natI_length] at hr0 har hfr
  subst hr0
  replace hO := hO.nilRow 40 10
  go_loopw [10, 11] (fun v q wr => ∃ k : Nat, k ≤ y.length ∧ q = .int .i64 k ∧ Own [] w [⟨n, tcs (.slice sa zs.length sc) i1, 65⟩, ⟨n3, hcs h, 26⟩] [⟨v, ((y.take k).map (·.1)).length, cellsB ((y.take k).map (·.1)), 40, 10⟩] (roS (.slice ay y.length cy) (cellsR y) ++ (roS (.slice ac c.length cc) (cellsR c) ++ (roS (.slice ar g9.length cr) (ints (natI g9)) ++ roS (.slice sa zs.length sc) (ints zs)))) wr) (fun _ q _ => y.length - (intOf q).toNat)
  case atStart => exact ⟨0, by omega, rfl, hO.sub (.refl _) (.refl _) (fun q hq => by simp only [List.mem_append] at hq ⊢; grind)⟩
  case round =>
   clear hO
   obtain ⟨k, hk, rfl, hO⟩ := hrel
   have s1 : IntKind.i64.wrap ((k : Int) + 1) = (k : Int) + 1 := IntWalk.i64_in _ (by omega)
   by_cases hlt : k < y.length
   ·obtain ⟨g, o, rfl⟩ := hay (by omega)
    replace hO := hO.sub (S' := ⟨g, o, cellsR y⟩ :: (roS (.slice ac c.length cc) (cellsR c) ++ (roS (.slice ar g9.length cr) (ints (natI g9)) ++ roS (.slice sa zs.length sc) (ints zs)))) (.refl _) (.refl _) (fun q hq => hq)
    have HT : Hid ((y.take (k + 1)).map (·.1) = (y.take k).map (·.1) ++ [y[k].1]) := Lib.hid (by rw [List.take_succ_eq_append_getElem hlt, List.map_append]; rfl)
    have hle : ((y.take k).map (·.1)).length ≤ k := by rw [List.length_map]; exact List.length_take_le _ _
    have t1 := tk_match y hlt
    generalize (y.take k).map (·.1) = m at *
    generalize y[k] = r at *
    go_wp2_with (first | refine ldNT ?_ | ((first | refine stNT hO ?_ | refine st1NT hO ?_); clear hO; intro wv hO) | (refine bx9 3 hO ?_; clear hO; intro n3 wv hO) | (refine al9T 13 hO ?_; clear hO; intro n13 wv hO) | (refine bl9T 54 hO ?_; clear hO; intro n54 wv hO) | (refine ap9T 55 hO ?_; clear hO; intro g55 c55 wv hO))
    go_roundw
    case rel =>
     refine ⟨k + 1, by omega, by go_num, ?_⟩
     rw [HT.out, List.length_append, cellsB_append, cellsB_one]
     exact hO.sub (.cons _ (.refl _)) (.refl _) (fun q hq => hq)
    case measure => simp [intOf]; omega
   ·obtain rfl : k = y.length := by omega
    rw [List.take_length] at hO
    have hfb := (own_boxes hO List.mem_cons_self).form
    have hnb := hO.rowNe (ch := ⟨n, tcs (.slice sa zs.length sc) i1, 65⟩) List.mem_cons_self
    obtain ⟨ab, cb, hb0, hab⟩ := hfb.view
    rw [List.length_map] at hb0 hab
    dsimp only at hnb
    subst hb0
    replace hO := hO.rowRoX
    have kb : ∀ b ∈ y.map (·.1), b.ok := fun b hb => by
     obtain ⟨q, hq, rfl⟩ := List.mem_map.1 hb
     exact ky q hq
    have HDc : ∀ (z : Hd), z.ok → ∀ v w, IsTable w v c → Calls Tryd.prog 11 #[v, hv z] w fun e w' => e = .returned (.tuple #[.bool (decP y z), .int .i64 (decI c z)]) ∧ Below w.heap.size w w' := fun z hz v w hvt => by
     have h := rDecide_any (vt := v) (t := c) z w hz hvt (by omega)
     rw [HD.out z hz] at h
     exact h
    clear HD
    go_wp2_with (first | refine ldNT ?_ | ((first | refine stNT hO ?_ | refine st1NT hO ?_); clear hO; intro wv hO) | (refine bx9 3 hO ?_; clear hO; intro n3 wv hO) | (refine al9T 13 hO ?_; clear hO; intro n13 wv hO) | (refine bl9T 54 hO ?_; clear hO; intro n54 wv hO) | (refine ap9T 55 hO ?_; clear hO; intro g55 c55 wv hO))
    go_loopw [12] (fun q wr => ∃ k i1 : Nat, k ≤ 4 ∧ q = .int .i64 k ∧ i1 ≤ zs.length ∧ Own [] w [⟨n, tcs (.slice sa zs.length sc) i1, 65⟩, ⟨n3, hcs h, 26⟩] [] (roS (.slice ab y.length cb) (cellsB (y.map (·.1))) ++ (roS (.slice ay y.length cy) (cellsR y) ++ (roS (.slice ac c.length cc) (cellsR c) ++ (roS (.slice ar g9.length cr) (ints (natI g9)) ++ roS (.slice sa zs.length sc) (ints zs))))) wr) (fun q _ => 4 - (intOf q).toNat)
    case atStart => exact ⟨0, _, by omega, rfl, hT.le, hO⟩
    case round =>
     clear hO hT
     obtain ⟨k, i1, hk, rfl, hi1, hO⟩ := hrel
     have hT := hO.tapeIn List.mem_cons_self (by intro s hs; repeat (first | exact hs | exact List.mem_append_left _ hs | apply List.mem_append_right | apply List.mem_cons_of_mem)) hi1
     have s1 : IntKind.i64.wrap ((k : Int) + 1) = (k : Int) + 1 := IntWalk.i64_in _ (by omega)
     by_cases hlt : k < 4
     ·have g1 : decide ((k : Int) < 4) = true := decide_eq_true (by omega)
      by_cases h4 : k = 3
      ·have g3 : ((k : Int) == 3) = true := beq_iff_eq.2 (by omega)
       have e1 := beq_self_eq_true (decP y h)
       clear h4
       go_wp2_with (first | refine ldNT ?_ | ((first | refine stNT hO ?_ | refine st1NT hO ?_); clear hO; intro wv hO) | (refine bx9 3 hO ?_; clear hO; intro n3 wv hO) | (refine al9T 13 hO ?_; clear hO; intro n13 wv hO) | (refine bl9T 54 hO ?_; clear hO; intro n54 wv hO) | (refine ap9T 55 hO ?_; clear hO; intro g55 c55 wv hO) | (go_at_call 10; (with_reducible refine (near_any _ (y.map (·.1)) hZ (hO.tapeIn (by (repeat (first | exact List.mem_cons_self | refine List.mem_cons_of_mem _ ?_))) (by (intro s hs; repeat (first | exact hs | exact List.mem_append_left _ hs | apply List.mem_append_right | apply List.mem_cons_of_mem))) hT.le) (hO.isBm hfb) hnb kb (by simp; omega)).mono ?_); rintro e wv ⟨v, i1, rfl, ⟨h2, rfl, ho2⟩, hk9, hT1⟩; replace hO := hO.after (by (repeat (first | exact Upd.here | apply Upd.there))) hk9 hT1.blk; replace hT := hT1; clear hT1 hk9) | (go_at_call 11; (with_reducible refine (rDecide_any (t := y) h _ ho (hO.isRm hfy) (by omega)).mono ?_); rintro e wv ⟨rfl, hb9⟩; replace hO := hO.call hb9; clear hb9; replace hT := (hO.tapeIn (by (repeat (first | exact List.mem_cons_self | refine List.mem_cons_of_mem _ ?_))) (by (intro s hs; repeat (first | exact hs | exact List.mem_append_left _ hs | apply List.mem_append_right | apply List.mem_cons_of_mem))) hT.le)) | (go_at_call 11; (with_reducible refine (HDc h ho _ _ (hO.isRm hfc)).mono ?_); rintro e wv ⟨rfl, hb9⟩; replace hO := hO.call hb9; clear hb9; replace hT := (hO.tapeIn (by (repeat (first | exact List.mem_cons_self | refine List.mem_cons_of_mem _ ?_))) (by (intro s hs; repeat (first | exact hs | exact List.mem_append_left _ hs | apply List.mem_append_right | apply List.mem_cons_of_mem))) hT.le)))
       go_roundw
       case rel => exact ⟨k + 1, _, by omega, by go_num, hT.le, hO.sub (.cons _ (.refl _)) (.refl _) (fun q hq => hq)⟩
       case measure => simp [intOf]; omega
      ·have g3 : ((k : Int) == 3) = false := beq_eq_false_iff_ne.2 (by omega)
       clear h4
       go_wp2_with (first | refine ldNT ?_ | ((first | refine stNT hO ?_ | refine st1NT hO ?_); clear hO; intro wv hO) | (refine bx9 3 hO ?_; clear hO; intro n3 wv hO) | (refine al9T 13 hO ?_; clear hO; intro n13 wv hO) | (refine bl9T 54 hO ?_; clear hO; intro n54 wv hO) | (refine ap9T 55 hO ?_; clear hO; intro g55 c55 wv hO) | (go_at_call 10; (with_reducible refine (near_any _ (y.map (·.1)) hZ (hO.tapeIn (by (repeat (first | exact List.mem_cons_self | refine List.mem_cons_of_mem _ ?_))) (by (intro s hs; repeat (first | exact hs | exact List.mem_append_left _ hs | apply List.mem_append_right | apply List.mem_cons_of_mem))) hT.le) (hO.isBm hfb) hnb kb (by simp; omega)).mono ?_); rintro e wv ⟨v, i1, rfl, ⟨h2, rfl, ho2⟩, hk9, hT1⟩; replace hO := hO.after (by (repeat (first | exact Upd.here | apply Upd.there))) hk9 hT1.blk; replace hT := hT1; clear hT1 hk9; have e1 := beq_self_eq_true (decP y h2)) | (go_at_call 11; (with_reducible refine (rDecide_any (t := y) h2 _ ho2 (hO.isRm hfy) (by omega)).mono ?_); rintro e wv ⟨rfl, hb9⟩; replace hO := hO.call hb9; clear hb9; replace hT := (hO.tapeIn (by (repeat (first | exact List.mem_cons_self | refine List.mem_cons_of_mem _ ?_))) (by (intro s hs; repeat (first | exact hs | exact List.mem_append_left _ hs | apply List.mem_append_right | apply List.mem_cons_of_mem))) hT.le)) | (go_at_call 11; (with_reducible refine (HDc h2 ho2 _ _ (hO.isRm hfc)).mono ?_); rintro e wv ⟨rfl, hb9⟩; replace hO := hO.call hb9; clear hb9; replace hT := (hO.tapeIn (by (repeat (first | exact List.mem_cons_self | refine List.mem_cons_of_mem _ ?_))) (by (intro s hs; repeat (first | exact hs | exact List.mem_append_left _ hs | apply List.mem_append_right | apply List.mem_cons_of_mem))) hT.le)))
       go_roundw
       case rel => exact ⟨k + 1, _, by omega, by go_num, hT.le, hO.sub (.cons _ (.refl _)) (.refl _) (fun q hq => hq)⟩
       case measure => simp [intOf]; omega
     ·have g1 : decide ((k : Int) < 4) = false := decide_eq_false (by omega)
      go_wp2_with (first | refine ldNT ?_ | ((first | refine stNT hO ?_ | refine st1NT hO ?_); clear hO; intro wv hO) | (refine bx9 3 hO ?_; clear hO; intro n3 wv hO) | (refine al9T 13 hO ?_; clear hO; intro n13 wv hO) | (refine bl9T 54 hO ?_; clear hO; intro n54 wv hO) | (refine ap9T 55 hO ?_; clear hO; intro g55 c55 wv hO))
      clear hT HDc
      replace hO := hO.sub (X' := []) (S' := roS (.slice ay y.length cy) (cellsR y) ++ (roS (.slice ac c.length cc) (cellsR c) ++ roS (.slice ar g9.length cr) (ints (natI g9)))) (List.nil_sublist _) (.refl _) (fun q hq => by simp only [List.mem_append] at hq ⊢; grind)
      go_loopw [18] (fun q wr => ∃ k : Nat, k ≤ c.length ∧ q = .int .i64 k ∧ Own [] w [] [] (roS (.slice ay y.length cy) (cellsR y) ++ (roS (.slice ac c.length cc) (cellsR c) ++ roS (.slice ar g9.length cr) (ints (natI g9)))) wr) (fun q _ => c.length - (intOf q).toNat)
      case atStart => exact ⟨0, by omega, rfl, hO⟩
      case round =>
       clear hO
       obtain ⟨k, hk, rfl, hO⟩ := hrel
       have s1 : IntKind.i64.wrap ((k : Int) + 1) = (k : Int) + 1 := IntWalk.i64_in _ (by omega)
       by_cases hlt : k < c.length
       ·have h2 : ∀ w, Tops w → IsTable w (.slice ac c.length cc) c → Calls Tryd.prog 12 #[.slice ac c.length cc, .int .i64 k] w fun e w' => e = .returned (.tuple #[.bool false, .int .i64 0]) ∧ Below w.heap.size w w' := fun w ht hv => by
         have h := sRemovable_any (i := (k : Int)) w ht hv kc (by omega)
         obtain ⟨e9, hs9⟩ := HS.out k hlt
         rw [rmP_at hVc hlt, hs9] at h
         exact h
        go_wp2_with (first | refine ldNT ?_ | ((first | refine stNT hO ?_ | refine st1NT hO ?_); clear hO; intro wv hO) | (refine bx9 3 hO ?_; clear hO; intro n3 wv hO) | (refine al9T 13 hO ?_; clear hO; intro n13 wv hO) | (refine bl9T 54 hO ?_; clear hO; intro n54 wv hO) | (refine ap9T 55 hO ?_; clear hO; intro g55 c55 wv hO) | (go_at_call 12; (with_reducible refine (h2 _ (hO.tops ht (by simp)) (hO.isRm hfc)).mono ?_); rintro e wv ⟨rfl, hb9⟩; replace hO := hO.call hb9; clear hb9))
        go_roundw
        case rel => exact ⟨k + 1, by omega, by go_num, hO⟩
        case measure => simp [intOf]; omega
       ·obtain rfl : k = c.length := by omega
        have hz0 := goneF_nil y.length
        go_wp2_with (first | refine ldNT ?_ | ((first | refine stNT hO ?_ | refine st1NT hO ?_); clear hO; intro wv hO) | (refine bx9 3 hO ?_; clear hO; intro n3 wv hO) | (refine al9T 13 hO ?_; clear hO; intro n13 wv hO) | (refine bl9T 54 hO ?_; clear hO; intro n54 wv hO) | (refine ap9T 55 hO ?_; clear hO; intro g55 c55 wv hO) | ((with_reducible refine is_makeH ?_); (refine own_makeC (o := ⟨some 100, _, _, _, _, _⟩) hO (by rfl) rfl slice_Bools zero_boolH rfl rfl (n := y.length) (c := y.length) (by rfl) (by rfl) (by omega) (by omega) hz0 ?_); clear hO; intro n100 wv hO))
        clear hz0
        go_loopw [22] (fun q wr => ∃ k : Nat, k ≤ g9.length ∧ q = .int .i64 k ∧ Own [] w [] [⟨.slice (some ⟨n100, 0, none⟩) y.length y.length, y.length, blC (goneF y.length (g9.take k)), 4, 1⟩] (roS (.slice ar g9.length cr) (ints (natI g9)) ++ (roS (.slice ay y.length cy) (cellsR y) ++ roS (.slice ac c.length cc) (cellsR c))) wr) (fun q _ => g9.length - (intOf q).toNat)
        case atStart => exact ⟨0, by omega, rfl, hO.sub (.refl _) (.refl _) (fun q hq => by simp only [List.mem_append] at hq ⊢; grind)⟩
        case round =>
         clear hO
         obtain ⟨k, hk, rfl, hO⟩ := hrel
         have s1 : IntKind.i64.wrap ((k : Int) + 1) = (k : Int) + 1 := IntWalk.i64_in _ (by omega)
         by_cases hlt : k < g9.length
         ·obtain ⟨gr, or9, rfl⟩ := har (by omega)
          replace hO := hO.sub (S' := ⟨gr, or9, ints (natI g9)⟩ :: (roS (.slice ay y.length cy) (cellsR y) ++ roS (.slice ac c.length cc) (cellsR c))) (.refl _) (.refl _) (fun q hq => hq)
          have c1 := natI_get hlt
          have hz : g9[k] < y.length := HB.out _ (List.getElem_mem hlt)
          have hng : (g9.take k).contains g9[k] = false := by
           have h1 := HND.out
           rw [← List.take_append_drop k g9, List.nodup_append] at h1
           have h2 : g9[k] ∈ g9.drop k := by rw [List.drop_eq_getElem_cons hlt]; exact List.mem_cons_self
           cases hc : (g9.take k).contains g9[k]
           ·rfl
           ·rw [List.contains_eq_mem, decide_eq_true_iff] at hc
            exact absurd rfl (h1.2.2 _ hc _ h2)
          have HT := Lib.hid (show g9.take (k + 1) = g9.take k ++ [g9[k]] from List.take_succ_eq_append_getElem hlt)
          generalize g9[k] = z at *
          have HG := Lib.hid (goneF_set (g := g9.take k) hz)
          have c2 := goneF_get (g := g9.take k) hz
          rw [hng] at c2
          have hzl : z < (blC (goneF y.length (g9.take k))).length := by rw [goneF_length]; exact hz
          have q1 := hO.ro ⟨gr, or9, ints (natI g9)⟩ List.mem_cons_self k _ c1
          have q2 := hO.rowCell List.mem_cons_self c2
          have g4 : decide ((z : Int) < 0) = false := decide_eq_false (by omega)
          have g5 : decide ((y.length : Int) ≤ (z : Int)) = false := decide_eq_false (by omega)
          clear hng
          go_wp2_with (first | refine ldNT ?_ | ((first | refine stNT hO ?_ | refine st1NT hO ?_); clear hO; intro wv hO) | (refine bx9 3 hO ?_; clear hO; intro n3 wv hO) | (refine al9T 13 hO ?_; clear hO; intro n13 wv hO) | (refine bl9T 54 hO ?_; clear hO; intro n54 wv hO) | (refine ap9T 55 hO ?_; clear hO; intro g55 c55 wv hO) | ((with_reducible refine is_store ?_); (refine own_stRow (v := .bool true) hO (by rfl) rfl rfl rfl one_boolT (by repeat (first | exact UpdR.here | apply UpdR.there)) hzl rfl ?_); clear hO; intro wv hO))
          rw [HG.out] at hO
          go_roundw
          case rel => exact ⟨k + 1, by omega, by go_num, by rw [HT.out]; exact hO⟩
          case measure => simp [intOf]; omega
         ·obtain rfl : k = g9.length := by omega
          rw [List.take_length] at hO
          have hcl := congrArg List.length HM.out
          rw [List.length_map, List.length_map] at hcl
          have HC := Lib.hid hcl
          clear hcl
          go_wp2_with (first | refine ldNT ?_ | ((first | refine stNT hO ?_ | refine st1NT hO ?_); clear hO; intro wv hO) | (refine bx9 3 hO ?_; clear hO; intro n3 wv hO) | (refine al9T 13 hO ?_; clear hO; intro n13 wv hO) | (refine bl9T 54 hO ?_; clear hO; intro n54 wv hO) | (refine ap9T 55 hO ?_; clear hO; intro g55 c55 wv hO))
          go_loopw [23, 24] (fun q1 q2 wr => ∃ k : Nat, k ≤ y.length ∧ q1 = .int .i64 (leftN k g9).length ∧ q2 = .int .i64 k ∧ Own [] w [] [⟨.slice (some ⟨n100, 0, none⟩) y.length y.length, y.length, blC (goneF y.length g9), 4, 1⟩] (roS (.slice ay y.length cy) (cellsR y) ++ roS (.slice ac c.length cc) (cellsR c)) wr) (fun _ q _ => y.length - (intOf q).toNat)
          case atStart => exact ⟨0, by omega, rfl, rfl, hO.sub (.refl _) (.refl _) (fun q hq => List.mem_append_right _ hq)⟩
          case round =>
           clear hO
           obtain ⟨k, hk, rfl, rfl, hO⟩ := hrel
           have s1 : IntKind.i64.wrap ((k : Int) + 1) = (k : Int) + 1 := IntWalk.i64_in _ (by omega)
           by_cases hlt : k < y.length
           ·have c2 := goneF_get (g := g9) hlt
            have HL := Lib.hid (leftN_succ k g9)
            have hat := cl_at HM.out hlt
            cases hg : g9.contains k with
            | true =>
             rw [hg] at c2 HL
             clear hat hg
             go_wp2_with (first | refine ldNT ?_ | ((first | refine stNT hO ?_ | refine st1NT hO ?_); clear hO; intro wv hO) | (refine bx9 3 hO ?_; clear hO; intro n3 wv hO) | (refine al9T 13 hO ?_; clear hO; intro n13 wv hO) | (refine bl9T 54 hO ?_; clear hO; intro n54 wv hO) | (refine ap9T 55 hO ?_; clear hO; intro g55 c55 wv hO))
             go_roundw
             case rel => exact ⟨k + 1, by omega, by rw [HL.out]; simp, by go_num, hO⟩
             case measure => simp [intOf]; omega
            | false =>
             rw [hg] at c2 HL
             have ha := hat hg
             rw [List.getElem?_eq_getElem hlt] at ha
             obtain ⟨hac2, hae⟩ := List.getElem?_eq_some_iff.1 ha
             have t1 := tk_rule y hlt
             have t2 := tk_rule c hac2
             rw [hae] at t2
             have HL2 : Hid ((leftN (k + 1) g9).length = (leftN k g9).length + 1) := Lib.hid (by rw [HL.out]; simp)
             have nA : (leftN k g9).length ≤ 6 := by omega
             clear hat hg ha hae HL
             obtain ⟨gy, oy, rfl⟩ := hay (by omega)
             obtain ⟨gc, oc, rfl⟩ := hac (by omega)
             replace hO := hO.sub (S' := [⟨gy, oy, cellsR y⟩, ⟨gc, oc, cellsR c⟩]) (.refl _) (.refl _) (fun q hq => hq)
             generalize (leftN k g9).length = A at *
             generalize y[k] = r at *
             have s2 : IntKind.i64.wrap ((A : Int) + 1) = (A : Int) + 1 := IntWalk.i64_in _ (by omega)
             have g4 : decide ((c.length : Int) ≤ (A : Int)) = false := decide_eq_false (by omega)
             have g6 : decide (c.length ≤ A) = false := decide_eq_false (by omega)
             have eH : (!decide (r = r)) = false := by simp
             go_wp2_with (first | refine ldNT ?_ | ((first | refine stNT hO ?_ | refine st1NT hO ?_); clear hO; intro wv hO) | (refine bx9 3 hO ?_; clear hO; intro n3 wv hO) | (refine al9T 13 hO ?_; clear hO; intro n13 wv hO) | (refine bl9T 54 hO ?_; clear hO; intro n54 wv hO) | (refine ap9T 55 hO ?_; clear hO; intro g55 c55 wv hO))
             (try simp only [Act.put]); (refine own_quiet hO (by kernel_rfl) (by kernel_rfl) ?_; clear hO; (repeat (first | go_big_quiet_skip | (go_big_quiet_want; (first | ((with_reducible refine is_loadQ ?_); (first | (refine q_ldT (h := ?_))); (try simp only [Act.put]); (try simp only [sI9, sZ9, sS9]); go_big_quiet_on) | (go_big_quiet_op; (first | go_big_quiet_on | ((refine ⟨_, fun _ _ => rfl, ?_⟩); go_big_quiet_on) | go_big_quiet_call (fail))))))); (refine wpQuiet_nil ?_); intro wv hO)
             go_wp2_with (first | refine ldNT ?_ | ((first | refine stNT hO ?_ | refine st1NT hO ?_); clear hO; intro wv hO) | (refine bx9 3 hO ?_; clear hO; intro n3 wv hO) | (refine al9T 13 hO ?_; clear hO; intro n13 wv hO) | (refine bl9T 54 hO ?_; clear hO; intro n54 wv hO) | (refine ap9T 55 hO ?_; clear hO; intro g55 c55 wv hO))
             go_roundw
             case rel => exact ⟨k + 1, by omega, by rw [HL2.out]; go_num, by go_num, hO⟩
             case measure => simp [intOf]; omega
           ·obtain rfl : k = y.length := by omega
            have e3 : (((leftN y.length g9).length : Int) == (c.length : Int)) = true := beq_iff_eq.2 (by rw [HC.out])
            go_wp2_with (first | refine ldNT ?_ | ((first | refine stNT hO ?_ | refine st1NT hO ?_); clear hO; intro wv hO) | (refine bx9 3 hO ?_; clear hO; intro n3 wv hO) | (refine al9T 13 hO ?_; clear hO; intro n13 wv hO) | (refine bl9T 54 hO ?_; clear hO; intro n54 wv hO) | (refine ap9T 55 hO ?_; clear hO; intro g55 c55 wv hO) | (go_at_call 9; (with_reducible refine (sane32_any _ (hO.tops ht (by simp))).mono ?_); rintro e wv ⟨rfl, hb9⟩; replace hO := hO.call hb9; clear hb9))
            go_ret
            exact ⟨rfl, hO.keep.below⟩
end Go.Proofs.YtjoionnnpjajmaaDoor
