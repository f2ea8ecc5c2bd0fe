/- Encode by the reference. -/
import Derived.Test.YtjfiipbjphabeaaDoorMF
namespace Go.Proofs.YtjfiipbjphabeaaDoor
open Go.RowKit
set_option maxRecDepth 100000

section
variable {P : Program} {ops : Array Oper} {rest : List Oper} {o : Oper} {a : Act} {Q : Exit → Act → World → Prop} {M : List Nat} {w0 w w' : World} {X : List Chunk} {R : List Row} {S : List Ro}
/-- a new slice of ours -/
def IsMk (B : Nat) (X : List Chunk) (R : List Row) (S : List Ro) (n c : Nat) (xs : List Value) (e : TypeId) : Fact := fun v w => ∃ g, v = .slice (some ⟨g, 0, none⟩) n c ∧ w.ownsRow B e 1 v n xs ∧ B ≤ g ∧ g ∉ excl X R ∧ ∀ s ∈ S, s.xs ≠ [] → s.g ≠ g
theorem IsMk.keep {B n c : Nat} {xs : List Value} {e : TypeId} {v : Value} (h : IsMk B X R S n c xs e v w) (hk : Keep [] w w') : IsMk B X R S n c xs e v w' := by
  obtain ⟨g, h1, h2, h3⟩ := h
  exact ⟨g, h1, h2.kept (row := none) ⟨hk.os, hk.tape, hk.output, hk.size, fun k hk0 _ => hk.block k hk0 (by simp)⟩ (by cases e : v.ownBlock <;> simp), h3⟩
theorem own_isMk (hO : Own M w0 X R S w) {n c : Nat} {xs : List Value} {e : TypeId} {v : Value} (h : IsMk w0.heap.size X R S n c xs e v w) : ∃ g, v = .slice (some ⟨g, 0, none⟩) n c ∧ Own M w0 X (⟨.slice (some ⟨g, 0, none⟩) n c, n, xs, e, 1⟩ :: R) S w := by
  obtain ⟨g, rfl, h2, h3, h4, h5⟩ := h
  have hmem : ∀ k, k ∈ excl X (⟨.slice (some ⟨g, 0, none⟩) n c, n, xs, e, 1⟩ :: R) ↔ k ∈ excl X R ∨ g = k := fun k => by
    have := mem_blocks (X := X) (A := []) (B := R) (r := ⟨.slice (some ⟨g, 0, none⟩) n c, n, xs, e, 1⟩) (g := k)
    simpa [excl, Value.ownBlock] using this
  refine ⟨g, rfl, hO.keep, hO.chunk, fun r hr => ?_, hO.ro, ?_, fun k hk => ?_, fun s hs hne hm => ?_⟩
  · rcases List.mem_cons.1 hr with rfl | hr
    · exact row_base h2
    · exact hO.row r hr
  · have := (nodup_blocks (X := X) (A := []) (B := R) (r := ⟨.slice (some ⟨g, 0, none⟩) n c, n, xs, e, 1⟩)).2 ⟨by simpa [excl] using hO.nd, fun k hk hm => by
      have e : g = k := by simpa [Value.ownBlock] using hk
      subst e
      exact h4 (by simpa [excl] using hm)⟩
    simpa using this
  · rcases (hmem k).1 hk with hk | rfl
    · exact hO.free k hk
    · exact .inr h3
  · rcases (hmem s.g).1 hm with hm | hm
    · exact hO.apart s hs hne hm
    · exact h5 s hs hne hm.symm
theorem loose_make (hO : Own M w0 X R S w) {t e bytes : Nat} {x y : Operand} (ho : o.op = .makeSlice t x y) (ht : SliceT P t e 1 bytes) {z : Value} (hz : ZeroT P e [z]) {l c' : Int} (hx : a.eval x = .int .i64 l) (hy : a.eval y = .int .i64 c') {n c : Nat} (hl : l = (n : Int)) (hc : c' = (c : Int)) (hnc : n ≤ c) (hb : bytes ≤ 1024 ∧ c ≤ 1073741824) {xs : List Value} (hxs : List.replicate n z = xs) :
    looseUpon P (Own M w0 X R S) [] (IsMk w0.heap.size X R S n c xs e) w ((execOp a.eval o).run P w) := by
  obtain ⟨hu, _, i, z', hi, hz', hi1, hi2, _⟩ := ht
  subst hl
  subst hc
  subst hxs
  have hz2 : z'.cells = #[z] := by
    unfold ZeroT at hz
    simpa [hi, hz'] using hz
  have hbytes : (i.bytes : Int) * (c : Int) ≤ 281474976710656 := by
    have h1 : i.bytes * c ≤ 1024 * 1073741824 := Nat.mul_le_mul (by omega) hb.2
    have h2 : ((i.bytes * c : Nat) : Int) ≤ 281474976710656 := by omega
    rwa [Int.natCast_mul] at h2
  have hr := run_make (P := P) w t e i z' hu hi hz' .i64 .i64 (n : Int) (c : Int) (by omega) (by omega) hbytes (by omega)
  rw [Int.toNat_natCast, Int.toNat_natCast, hi1, Nat.mul_one, hz2] at hr
  have hm : c ≤ maxLen := by unfold maxLen; omega
  have hrun : (execOp a.eval o).run P w = .ok (.value (.slice (some ⟨w.heap.size, 0, none⟩) n c)) (w.alloc (.cells (madeCells #[z] c) e (0, 0))) := by
    unfold execOp; simp only [ho, hx, hy, Sem.run_bind, hr, Sem.run_pure, Result.andThen_ok]
  rw [hrun]
  refine ⟨keep_alloc _ _ _, hO.frame rfl rfl rfl (by simp) fun k hk => Below.heap_alloc _ _ _ hk, w.heap.size, rfl, ?_, hO.keep.size, fun hm => Nat.lt_irrefl _ (hO.lt _ hm), fun s hs hne e => ?_⟩
  · refine ⟨by simp, .inr ⟨w.heap.size, c, _, rfl, hO.keep.size, heap_alloc_new w _, hnc, hm, by rw [size_madeCells, Nat.mul_one], ?_⟩⟩
    rw [toList_madeCells_one, Nat.mul_one, List.take_replicate, Nat.min_eq_left hnc]
  · have := ro_lt (hO.ro s hs) hne
    omega
end
theorem encLen_if (p : Int) : (encLen p : Int) = if p == 6 then 40 else if p == 17 then 28 else if p == 1 then 28 else 20 := by
  unfold encLen
  rcases proto_cases p with h | h | h | ⟨q1, q2, q3⟩
  · rw [h]; rfl
  · rw [h]; rfl
  · rw [h]; rfl
  · rw [q1, q2, q3]; rfl
set_option maxHeartbeats 4000000 in
theorem rencode_err (s d p sp dp t f : Int) (pl : List Int) (pv : Value) (w : World) (k : PkOk ⟨⟨s, d, p, sp, dp⟩, t, f, pl⟩) (hv : IsB w pv pl) (hl : pl.length ≤ 1048576) (hE : encE ⟨⟨s, d, p, sp, dp⟩, t, f, pl⟩ ≠ 0) :
    Calls Tryd.prog 27 #[.agg (pcs ⟨s, d, p, sp, dp⟩ t f pv).toArray] w (EncPost (encE ⟨⟨s, d, p, sp, dp⟩, t, f, pl⟩) (encF ⟨⟨s, d, p, sp, dp⟩, t, f, pl⟩) w) := by
  have hO := own_roC hv
  obtain ⟨a, c, rfl, hc, -, h0, h1⟩ := IsCells.view hv
  obtain ⟨⟨s0, s1⟩, ⟨d0, d1⟩, ⟨p0, p1⟩, ⟨sp0, sp1⟩, dp0, dp1⟩ := k.h
  have hcod := fun w => rencodable_any ⟨s, d, p, sp, dp⟩ t f (.slice a pl.length c) w
  dsimp only at *
  have HF := Lib.hid (show encF ⟨⟨s, d, p, sp, dp⟩, t, f, pl⟩ = [] by unfold encF; rw [if_neg (by simpa using hE)])
  rw [HF.out]
  clear HF
  cases ho : encOkF ⟨s, d, p, sp, dp⟩ t f
  · have HE := Lib.hid (show encE ⟨⟨s, d, p, sp, dp⟩, t, f, pl⟩ = 1 by unfold encE; dsimp only; rw [ho]; rfl)
    rw [ho] at hcod
    rw [HE.out]
    clear hE
    go_enter Tryd.func27, Tryd.ntmps27
    go_wp2_with (first | ((with_reducible refine is_load ?_); (first | (refine own_ldP hO (h := ?_)) | (refine own_ld (h := ?_)))) | ((with_reducible refine is_store ?_); (first | (refine own_stRp (hO := hO) (h := ?_); clear hO; intro wv hO) | (refine own_st1p (hO := hO) (h := ?_); clear hO; intro wv hO) | (refine own_stR (hO := hO) (h := ?_); clear hO; intro wv hO) | (refine own_st1 (hO := hO) (h := ?_); clear hO; intro wv hO))) | ((with_reducible refine is_box ?_); (first | (refine own_bx (o := ⟨some 1, _, _, _, _, _⟩) (hO := hO) (h := ?_); clear hO; intro n1 wv hO))) | ((with_reducible refine is_alloc ?_); (first | (refine own_al (o := ⟨some 4, _, _, _, _, _⟩) (hO := hO) (h := ?_); clear hO; intro n4 wv hO))) | ((with_reducible refine is_append ?_); (first | (refine own_ap (o := ⟨some 29, _, _, _, _, _⟩) (hO := hO) (h := ?_); clear hO; intro g29 c29 wv hO))) | (go_at_call 50; refine (hcod _).mono ?_; rintro e wv ⟨rfl, hb⟩; replace hO := hO.call hb; clear hb) | ((with_reducible refine is_load ?_); (refine own_ldW (hO := hO) (h := ?_))) | ((with_reducible refine is_store ?_); (refine own_stW (hO := hO) (h := ?_); clear hO; intro wv hO)))
    go_ret2
    exact enc_nil hO.keep.below
  · rw [ho] at hcod
    by_cases hsz : 576 < encLen p + pl.length
    · have HE := Lib.hid (show encE ⟨⟨s, d, p, sp, dp⟩, t, f, pl⟩ = 3 by unfold encE; dsimp only; rw [ho, if_pos rfl, if_pos hsz])
      rw [HE.out]
      have hln := encLen_if p
      clear hE ho
      rcases proto_cases p with rfl | rfl | rfl | ⟨q1, q2, q3⟩
      · have hz : 536 < pl.length := by rw [show encLen 6 = 40 from rfl] at hsz; omega
        clear hsz hln
        go_enter Tryd.func27, Tryd.ntmps27
        go_wp2_with (first | ((with_reducible refine is_load ?_); (first | (refine own_ldP hO (h := ?_)) | (refine own_ld (h := ?_)))) | ((with_reducible refine is_store ?_); (first | (refine own_stRp (hO := hO) (h := ?_); clear hO; intro wv hO) | (refine own_st1p (hO := hO) (h := ?_); clear hO; intro wv hO) | (refine own_stR (hO := hO) (h := ?_); clear hO; intro wv hO) | (refine own_st1 (hO := hO) (h := ?_); clear hO; intro wv hO))) | ((with_reducible refine is_box ?_); (first | (refine own_bx (o := ⟨some 1, _, _, _, _, _⟩) (hO := hO) (h := ?_); clear hO; intro n1 wv hO))) | ((with_reducible refine is_alloc ?_); (first | (refine own_al (o := ⟨some 4, _, _, _, _, _⟩) (hO := hO) (h := ?_); clear hO; intro n4 wv hO))) | ((with_reducible refine is_append ?_); (first | (refine own_ap (o := ⟨some 29, _, _, _, _, _⟩) (hO := hO) (h := ?_); clear hO; intro g29 c29 wv hO))) | (go_at_call 50; refine (hcod _).mono ?_; rintro e wv ⟨rfl, hb⟩; replace hO := hO.call hb; clear hb) | ((with_reducible refine is_load ?_); (refine own_ldW (hO := hO) (h := ?_))) | ((with_reducible refine is_store ?_); (refine own_stW (hO := hO) (h := ?_); clear hO; intro wv hO)))
        go_ret2
        exact enc_nil hO.keep.below
      · have hz : 548 < pl.length := by rw [show encLen 17 = 28 from rfl] at hsz; omega
        clear hsz hln
        go_enter Tryd.func27, Tryd.ntmps27
        go_wp2_with (first | ((with_reducible refine is_load ?_); (first | (refine own_ldP hO (h := ?_)) | (refine own_ld (h := ?_)))) | ((with_reducible refine is_store ?_); (first | (refine own_stRp (hO := hO) (h := ?_); clear hO; intro wv hO) | (refine own_st1p (hO := hO) (h := ?_); clear hO; intro wv hO) | (refine own_stR (hO := hO) (h := ?_); clear hO; intro wv hO) | (refine own_st1 (hO := hO) (h := ?_); clear hO; intro wv hO))) | ((with_reducible refine is_box ?_); (first | (refine own_bx (o := ⟨some 1, _, _, _, _, _⟩) (hO := hO) (h := ?_); clear hO; intro n1 wv hO))) | ((with_reducible refine is_alloc ?_); (first | (refine own_al (o := ⟨some 4, _, _, _, _, _⟩) (hO := hO) (h := ?_); clear hO; intro n4 wv hO))) | ((with_reducible refine is_append ?_); (first | (refine own_ap (o := ⟨some 29, _, _, _, _, _⟩) (hO := hO) (h := ?_); clear hO; intro g29 c29 wv hO))) | (go_at_call 50; refine (hcod _).mono ?_; rintro e wv ⟨rfl, hb⟩; replace hO := hO.call hb; clear hb) | ((with_reducible refine is_load ?_); (refine own_ldW (hO := hO) (h := ?_))) | ((with_reducible refine is_store ?_); (refine own_stW (hO := hO) (h := ?_); clear hO; intro wv hO)))
        go_ret2
        exact enc_nil hO.keep.below
      · have hz : 548 < pl.length := by rw [show encLen 1 = 28 from rfl] at hsz; omega
        clear hsz hln
        go_enter Tryd.func27, Tryd.ntmps27
        go_wp2_with (first | ((with_reducible refine is_load ?_); (first | (refine own_ldP hO (h := ?_)) | (refine own_ld (h := ?_)))) | ((with_reducible refine is_store ?_); (first | (refine own_stRp (hO := hO) (h := ?_); clear hO; intro wv hO) | (refine own_st1p (hO := hO) (h := ?_); clear hO; intro wv hO) | (refine own_stR (hO := hO) (h := ?_); clear hO; intro wv hO) | (refine own_st1 (hO := hO) (h := ?_); clear hO; intro wv hO))) | ((with_reducible refine is_box ?_); (first | (refine own_bx (o := ⟨some 1, _, _, _, _, _⟩) (hO := hO) (h := ?_); clear hO; intro n1 wv hO))) | ((with_reducible refine is_alloc ?_); (first | (refine own_al (o := ⟨some 4, _, _, _, _, _⟩) (hO := hO) (h := ?_); clear hO; intro n4 wv hO))) | ((with_reducible refine is_append ?_); (first | (refine own_ap (o := ⟨some 29, _, _, _, _, _⟩) (hO := hO) (h := ?_); clear hO; intro g29 c29 wv hO))) | (go_at_call 50; refine (hcod _).mono ?_; rintro e wv ⟨rfl, hb⟩; replace hO := hO.call hb; clear hb) | ((with_reducible refine is_load ?_); (refine own_ldW (hO := hO) (h := ?_))) | ((with_reducible refine is_store ?_); (refine own_stW (hO := hO) (h := ?_); clear hO; intro wv hO)))
        go_ret2
        exact enc_nil hO.keep.below
      · have hz : 556 < pl.length := by rw [q1, q2, q3] at hln; simp at hln; omega
        clear hsz hln
        go_enter Tryd.func27, Tryd.ntmps27
        go_wp2_with (first | ((with_reducible refine is_load ?_); (first | (refine own_ldP hO (h := ?_)) | (refine own_ld (h := ?_)))) | ((with_reducible refine is_store ?_); (first | (refine own_stRp (hO := hO) (h := ?_); clear hO; intro wv hO) | (refine own_st1p (hO := hO) (h := ?_); clear hO; intro wv hO) | (refine own_stR (hO := hO) (h := ?_); clear hO; intro wv hO) | (refine own_st1 (hO := hO) (h := ?_); clear hO; intro wv hO))) | ((with_reducible refine is_box ?_); (first | (refine own_bx (o := ⟨some 1, _, _, _, _, _⟩) (hO := hO) (h := ?_); clear hO; intro n1 wv hO))) | ((with_reducible refine is_alloc ?_); (first | (refine own_al (o := ⟨some 4, _, _, _, _, _⟩) (hO := hO) (h := ?_); clear hO; intro n4 wv hO))) | ((with_reducible refine is_append ?_); (first | (refine own_ap (o := ⟨some 29, _, _, _, _, _⟩) (hO := hO) (h := ?_); clear hO; intro g29 c29 wv hO))) | (go_at_call 50; refine (hcod _).mono ?_; rintro e wv ⟨rfl, hb⟩; replace hO := hO.call hb; clear hb) | ((with_reducible refine is_load ?_); (refine own_ldW (hO := hO) (h := ?_))) | ((with_reducible refine is_store ?_); (refine own_stW (hO := hO) (h := ?_); clear hO; intro wv hO)))
        go_ret2
        exact enc_nil hO.keep.below
    · exfalso
      apply hE
      unfold encE
      dsimp only
      rw [ho, if_pos rfl, if_neg hsz]
end Go.Proofs.YtjfiipbjphabeaaDoor

/- Encode by the reference: the bytes. -/
namespace Go.Proofs.YtjfiipbjphabeaaDoor
open Go.RowKit
set_option maxRecDepth 100000

theorem p16_set {l : List Int} {k j : Nat} {x y : Int} (h : j ≠ k) (h' : j ≠ k + 1) : (p16 l k x).set j y = p16 (l.set j y) k x := by
  unfold p16
  rw [List.set_comm _ _ (Ne.symm h'), List.set_comm _ _ (Ne.symm h)]
theorem p32_set {l : List Int} {k j : Nat} {x y : Int} (h : j < k ∨ k + 3 < j) : (p32 l k x).set j y = p32 (l.set j y) k x := by
  unfold p32
  rw [p16_set (by omega) (by omega), p16_set (by omega) (by omega)]
theorem p32_p16 {l : List Int} {k j : Nat} {x y : Int} (h : j + 1 < k ∨ k + 3 < j) : p16 (p32 l k x) j y = p32 (p16 l j y) k x := by
  show ((p32 l k x).set j _).set (j + 1) _ = _
  rw [p32_set (by omega), p32_set (by omega)]
  rfl
theorem kind_comm (l : List Int) (p : Pk) (s d : Int) : kindF (p32 (p32 l 12 s) 16 d) p = p32 (p32 (kindF l p) 12 s) 16 d := by
  unfold kindF
  rw [p32_length, p32_length]
  repeat' split
  · rw [p32_set (by omega), p32_set (by omega), p32_set (by omega), p32_set (by omega)]
  · rw [p32_p16 (by omega), p32_p16 (by omega)]
  · rw [p32_set (by omega), p32_set (by omega)]
  · rfl
  · rfl
theorem encM_ref (p : Pk) : encM p = portsF (kindF (p32 (p32 (encHd p) 12 p.h.src) 16 p.h.dst) p) p.h := by
  rw [kind_comm]; rfl
set_option maxHeartbeats 8000000 in
theorem rencode_any (s d p sp dp t f : Int) (pl : List Int) (pv : Value) (w : World) (k : PkOk ⟨⟨s, d, p, sp, dp⟩, t, f, pl⟩) (hv : IsB w pv pl) (hl : pl.length ≤ 1048576) :
    Calls Tryd.prog 27 #[.agg (pcs ⟨s, d, p, sp, dp⟩ t f pv).toArray] w (EncPost (encE ⟨⟨s, d, p, sp, dp⟩, t, f, pl⟩) (encF ⟨⟨s, d, p, sp, dp⟩, t, f, pl⟩) w) := by
  by_cases hE : encE ⟨⟨s, d, p, sp, dp⟩, t, f, pl⟩ = 0
  case neg => exact rencode_err s d p sp dp t f pl pv w k hv hl hE
  have hE' : encOkF ⟨s, d, p, sp, dp⟩ t f = true ∧ ¬ 576 < encLen p + pl.length := by
    unfold encE at hE
    cases ho : encOkF ⟨s, d, p, sp, dp⟩ t f
    · rw [show encOkF (⟨⟨s, d, p, sp, dp⟩, t, f, pl⟩ : Pk).h t f = false from ho] at hE; cases hE
    · rw [show encOkF (⟨⟨s, d, p, sp, dp⟩, t, f, pl⟩ : Pk).h t f = true from ho, if_pos rfl] at hE
      refine ⟨rfl, fun h => ?_⟩
      rw [if_pos h] at hE; cases hE
  obtain ⟨ho, hsz⟩ := hE'
  have hO := own_roC hv
  obtain ⟨a, c, rfl, hc, -, h0, h1⟩ := IsCells.view hv
  obtain ⟨⟨s0, s1⟩, ⟨d0, d1⟩, ⟨p0, p1⟩, ⟨sp0, sp1⟩, dp0, dp1⟩ := k.h
  have hcod := fun w => rencodable_any ⟨s, d, p, sp, dp⟩ t f (.slice a pl.length c) w
  have ht := encOk_of k.f0 k.f1 ho
  obtain ⟨t0, t1, f0, f1, -, -, -, -⟩ := ht
  dsimp only at *
  rw [ho] at hcod
  have HE := Lib.hid hE
  have HF := Lib.hid (show encF ⟨⟨s, d, p, sp, dp⟩, t, f, pl⟩ = encB ⟨⟨s, d, p, sp, dp⟩, t, f, pl⟩ by unfold encF; rw [HE.out]; rfl)
  clear hE
  have hbM := encM_ok k ho (by dsimp only; omega)
  have hg9 := (encM_good k ho (by dsimp only; omega))
  have hnM := encM_length ⟨⟨s, d, p, sp, dp⟩, t, f, pl⟩
  have hgt9 : gt (encM ⟨⟨s, d, p, sp, dp⟩, t, f, pl⟩) 9 = p := by
    have := congrArg (fun q => q.h.proto) hg9.2.2.2.2
    exact this
  rw [HE.out, HF.out, encB_eq]
  have hsum := fun (hu : sumAtF p + 2 ≤ ((encLen p + pl.length : Nat) : Int)) v w hw => sums_any (v := v) (l := encM ⟨⟨s, d, p, sp, dp⟩, t, f, pl⟩) false w hw hbM (by rw [hnM]; have := encLen_le p; dsimp only; omega) (by rw [hnM]; dsimp only; omega) (by rw [hgt9, hnM]; exact hu)
  rw [sumsR_f] at hsum
  clear hg9 hgt9 hbM
  rcases proto_cases p with rfl | rfl | rfl | ⟨q1, q2, q3⟩
  · have hEL : encLen 6 = 40 := rfl
    have hSA : sumAtF 6 = 36 := rfl
    have hEM : encM ⟨⟨s, d, 6, sp, dp⟩, t, f, pl⟩ = portsF (((p32 (p32 (encHd ⟨⟨s, d, 6, sp, dp⟩, t, f, pl⟩) 12 s) 16 d).set 32 80).set 33 f) ⟨s, d, 6, sp, dp⟩ := encM_ref _
    have hEH : encHd ⟨⟨s, d, 6, sp, dp⟩, t, f, pl⟩ = p16 ((((List.replicate 40 0 ++ pl).set 0 69).set 8 t).set 9 6) 2 ((40 : Int) + pl.length) := by
      show p16 ((((List.replicate (encLen 6) 0 ++ pl).set 0 69).set 8 t).set 9 6) 2 ((encLen 6 : Int) + pl.length) = _
      rw [hEL]; rfl
    replace hsum := hsum (by rw [hSA, hEL]; omega)
    rw [hEM] at hsum hnM ⊢
    rw [hEH] at hsum hnM ⊢
    rw [hEL] at hsz
    dsimp only at hnM
    rw [hEL] at hnM
    have HZ := Lib.hid (bc_zero 40)
    have hZl : (List.replicate 40 (0 : Int)).length = 40 := List.length_replicate
    clear hEM hEH
    generalize List.replicate 40 (0 : Int) = Z at *
    obtain ⟨N, hN⟩ : ∃ N, 40 + pl.length = N := ⟨_, rfl⟩
    have hNi : (40 : Int) + pl.length = (N : Int) := by omega
    rw [hNi] at hsum hnM ⊢
    rw [hN] at hnM
    have hn0 : (Z ++ pl).length = N := by rw [List.length_append, hZl, hN]
    clear ho hNi hZl hEL hSA
    generalize hL0 : Z ++ pl = L0 at *
    have hn1 : (((L0.set 0 69).set 8 t).set 9 6).length = N := by simp [hn0]
    generalize hL1 : ((L0.set 0 69).set 8 t).set 9 6 = L1 at *
    have h1 := fun v w hw => set2_any (v := v) (l := L1) 2 (N : Int) w hw (by omega) (by omega) (by omega) (by omega)
    have hn2 : (p16 L1 2 (N : Int)).length = N := by rw [p16_length, hn1]
    generalize hL2 : p16 L1 2 (N : Int) = L2 at *
    have h2 := fun v w hw => set4_any (v := v) (l := L2) 12 s w hw (by omega) (by omega) (by omega) (by omega)
    have hn3 : (p32 L2 12 s).length = N := by rw [p32_length, hn2]
    generalize hL3 : p32 L2 12 s = L3 at *
    have h3 := fun v w hw => set4_any (v := v) (l := L3) 16 d w hw (by omega) (by omega) (by omega) (by omega)
    have hn4 : (p32 L3 16 d).length = N := by rw [p32_length, hn3]
    generalize hL4 : p32 L3 16 d = L4 at *
    have HN0 := Lib.hid hn0
    have HN1 := Lib.hid hn1
    have HN2 := Lib.hid hn2
    have HN3 := Lib.hid hn3
    have HN4 := Lib.hid hn4
    have HL0 := Lib.hid hL0
    have HL1 := Lib.hid hL1
    clear hn0 hn1 hn2 hn3 hL0 hL1 hL2 hL3 hL4
    have hn5 : ((L4.set 32 80).set 33 f).length = N := by simp [hn4]
    generalize hL5 : (L4.set 32 80).set 33 f = L5 at *
    have h6 := fun v w hw => ports_any (v := v) (l := L5) ⟨s, d, 6, sp, dp⟩ w hw (by omega) (by omega) k.h (fun _ => by omega)
    generalize hL6 : portsF L5 ⟨s, d, 6, sp, dp⟩ = L6 at *
    have HN6 := Lib.hid hnM
    clear hnM hL6
    generalize hL7 : sumsF L6 = L7 at *
    have HN7 := Lib.hid (show L7.length = N by rw [← hL7, sumsF_length, HN6.out])
    clear hL7
    have HN5 := Lib.hid hn5
    have HL5 := Lib.hid hL5
    clear hn4 hn5 hL5
    go_enter Tryd.func27, Tryd.ntmps27
    go_wp2_with (first | ((with_reducible refine is_load ?_); (first | (refine own_ldP hO (h := ?_)) | (refine own_ld (h := ?_)))) | ((with_reducible refine is_store ?_); (first | (refine own_stRp (hO := hO) (h := ?_); clear hO; intro wv hO) | (refine own_st1p (hO := hO) (h := ?_); clear hO; intro wv hO) | (refine own_stR (hO := hO) (h := ?_); clear hO; intro wv hO) | (refine own_st1 (hO := hO) (h := ?_); clear hO; intro wv hO))) | ((with_reducible refine is_box ?_); (first | (refine own_bx (o := ⟨some 1, _, _, _, _, _⟩) (hO := hO) (h := ?_); clear hO; intro n1 wv hO))) | ((with_reducible refine is_alloc ?_); (first | (refine own_al (o := ⟨some 4, _, _, _, _, _⟩) (hO := hO) (h := ?_); clear hO; intro n4 wv hO))) | ((with_reducible refine is_append ?_); (first | (refine own_ap (o := ⟨some 29, _, _, _, _, _⟩) (hO := hO) (h := ?_); clear hO; intro g29 c29 wv hO))) | (go_at_call 50; refine (hcod _).mono ?_; rintro e wv ⟨rfl, hb⟩; replace hO := hO.call hb; clear hb) | ((with_reducible refine is_load ?_); (refine own_ldW (hO := hO) (h := ?_))) | ((with_reducible refine is_store ?_); (refine own_stW (hO := hO) (h := ?_); clear hO; intro wv hO)))
    (try simp only [Act.put]); (try simp only [List.setIfInBounds_toArray, List.set_cons_zero, List.set_cons_succ]); (refine own_loose 4 [(26, IsMk w.heap.size [⟨n4, [.int .u32 s, .int .u32 d, .int .u8 6, .int .u16 sp, .int .u16 dp], 26⟩, ⟨n1, pcs ⟨s, d, 6, sp, dp⟩ t f (.slice a pl.length c), 43⟩] [] (roC (.slice a pl.length c) (bc pl)) 40 40 (bc Z) 5)] hO (by kernel_rfl) (by kernel_rfl) (by rfl) (by repeat (first | exact Split.zero _ | apply Split.succ)) ?_ ?_); (focus (repeat (first | exact lasts_nil | (refine lasts_cons (fun v w w' _ _ hk h => ?_) ?_; focus (first | exact h | exact h.keep hk | (obtain ⟨h1, h2⟩ := h; exact ⟨h1, h2.keep hk⟩)))))); clear hO; (repeat (first | (refine loose_plain (by (intro _ hd; cases hd; rfl)) (by rfl) (fun _ h => h) ?_; (first | go_big_quiet_skip | (go_big_quiet_want; (first | ((with_reducible refine is_loadQ ?_); (first | (refine q_ld (h := ?_))); (try simp only [Act.put]); (try simp only [List.setIfInBounds_toArray, List.set_cons_zero, List.set_cons_succ]); go_big_quiet_on) | (go_big_quiet_op; (first | go_big_quiet_on | ((refine ⟨_, fun _ _ => rfl, ?_⟩); go_big_quiet_on)))))); refine wpQuiet_nil ?_; (try simp only [Act.put]); (try simp only [List.setIfInBounds_toArray, List.set_cons_zero, List.set_cons_succ])) | (refine loose_fact (by rfl) rfl (by rfl) ?_ ?_ (Nat.le_of_ble_eq_true rfl); (focus (intro w1 hO hF; (first | (exact loose_make hO rfl slice_u8 zero_u8 rfl rfl (n := 40) (c := 40) (by rfl) (by rfl) (by omega) (by omega) HZ.out) | (go_simp; (first | fail))))); (intro u w1 hO hu; (try subst hu); (try simp only [Act.put]); (try simp only [List.setIfInBounds_toArray, List.set_cons_zero, List.set_cons_succ]))) | (refine loose_skip (by rfl) ?_; (try simp only [Act.put]); (try simp only [List.setIfInBounds_toArray, List.set_cons_zero, List.set_cons_succ])))); (refine wpLoose_nil ?_); intro wv hI; have hO := hI.1; (try refine wpList_done ?_)
    obtain ⟨g26, hg26, hO⟩ := own_isMk hO (hI.2 26 (by simp [insF]) _ rfl)
    cases hg26
    clear hI
    go_wp2_with (first | ((with_reducible refine is_load ?_); (first | (refine own_ldP hO (h := ?_)) | (refine own_ld (h := ?_)))) | ((with_reducible refine is_store ?_); (first | (refine own_stRp (hO := hO) (h := ?_); clear hO; intro wv hO) | (refine own_st1p (hO := hO) (h := ?_); clear hO; intro wv hO) | (refine own_stR (hO := hO) (h := ?_); clear hO; intro wv hO) | (refine own_st1 (hO := hO) (h := ?_); clear hO; intro wv hO))) | ((with_reducible refine is_box ?_); (first | (refine own_bx (o := ⟨some 1, _, _, _, _, _⟩) (hO := hO) (h := ?_); clear hO; intro n1 wv hO))) | ((with_reducible refine is_alloc ?_); (first | (refine own_al (o := ⟨some 4, _, _, _, _, _⟩) (hO := hO) (h := ?_); clear hO; intro n4 wv hO))) | ((with_reducible refine is_append ?_); (first | (refine own_ap (o := ⟨some 29, _, _, _, _, _⟩) (hO := hO) (h := ?_); clear hO; intro g29 c29 wv hO))) | ((with_reducible refine is_append ?_); (refine own_appendP (o := ⟨some 29, _, _, _, _, _⟩) hO rfl rfl slice_u8 rfl rfl (src_of_cells (IsCells.below hv hO.keep.below) (by simp [bc_length]; try omega)) (bc_one _) (fun _ => by repeat (first | exact UpdR.here | apply UpdR.there)) (by first | omega | (simp; omega)) (by unfold maxLen; first | omega | (simp; omega)) (by first | omega | (simp; done) | (simp; omega)) ?_); clear hO; intro g29 c29 wv hO) | ((with_reducible refine is_load ?_); (refine own_ldW (hO := hO) (h := ?_))) | ((with_reducible refine is_store ?_); (refine own_stW (hO := hO) (h := ?_); clear hO; intro wv hO)))
    rw [← bc_append, hN, HL0.out] at hO
    have hn0 := HN0.out
    apply wp_via
    case h =>
      refine wp_region_any (by kernel_rfl) ?_
      replace hO := hO.drew
      refine wpAny_takePL 0 rfl (by kernel_rfl) (by kernel_rfl) (by kernel_rfl) (by rintro c d v a w ⟨h, _⟩; cases h) (by rfl) ?_
      (first | go_big_quiet_skip | (go_big_quiet_want; (go_big_quiet_op; (first | go_big_quiet_on | ((refine ⟨_, fun _ _ => rfl, ?_⟩); go_big_quiet_on))))); (refine wpQuiet_nil ?_); (try simp only [Act.put]); (try simp only [List.setIfInBounds_toArray, List.set_cons_zero, List.set_cons_succ])
      refine wpAny_takePL 1 rfl (by kernel_rfl) (by kernel_rfl) (by kernel_rfl) (by rintro c d v a w ⟨h, _⟩; cases h) (by rfl) ?_
      (first | go_big_quiet_skip | (go_big_quiet_want; (go_big_quiet_op; (first | go_big_quiet_on | ((refine ⟨_, fun _ _ => rfl, ?_⟩); go_big_quiet_on))))); (refine wpQuiet_nil ?_); (try simp only [Act.put]); (try simp only [List.setIfInBounds_toArray, List.set_cons_zero, List.set_cons_succ])
      refine wpAny_takePL 2 rfl (by kernel_rfl) (by kernel_rfl) (by kernel_rfl) (by rintro c d v a w ⟨h, _⟩; cases h) (by rfl) ?_
      (first | go_big_quiet_skip | (go_big_quiet_want; (go_big_quiet_op; (first | go_big_quiet_on | ((refine ⟨_, fun _ _ => rfl, ?_⟩); go_big_quiet_on))))); (refine wpQuiet_nil ?_); (try simp only [Act.put]); (try simp only [List.setIfInBounds_toArray, List.set_cons_zero, List.set_cons_succ])
      refine wpAny_takePL 3 rfl (by kernel_rfl) (by kernel_rfl) (by kernel_rfl) (by rintro c d v a w ⟨h, _⟩; cases h) (by rfl) ?_
      (first | go_big_quiet_skip | (go_big_quiet_want; (go_big_quiet_op; (first | go_big_quiet_on | ((refine ⟨_, fun _ _ => rfl, ?_⟩); go_big_quiet_on))))); (refine wpQuiet_nil ?_); (try simp only [Act.put]); (try simp only [List.setIfInBounds_toArray, List.set_cons_zero, List.set_cons_succ])
      refine wpAny_takePL 6 rfl (by kernel_rfl) (by kernel_rfl) (by kernel_rfl) (by rintro c d v a w ⟨h, _⟩; cases h) (by rfl) ?_
      (first | go_big_quiet_skip | (go_big_quiet_want; (go_big_quiet_op; (first | go_big_quiet_on | ((refine ⟨_, fun _ _ => rfl, ?_⟩); go_big_quiet_on))))); (refine wpQuiet_nil ?_); (try simp only [Act.put]); (try simp only [List.setIfInBounds_toArray, List.set_cons_zero, List.set_cons_succ])
      refine wpAny_takePL 8 rfl (by kernel_rfl) (by kernel_rfl) (by kernel_rfl) (by rintro c d v a w ⟨h, _⟩; cases h) (by rfl) ?_
      (first | go_big_quiet_skip | (go_big_quiet_want; (go_big_quiet_op; (first | go_big_quiet_on | ((refine ⟨_, fun _ _ => rfl, ?_⟩); go_big_quiet_on))))); (refine wpQuiet_nil ?_); (try simp only [Act.put]); (try simp only [List.setIfInBounds_toArray, List.set_cons_zero, List.set_cons_succ])
      refine wpAny_all (rs := [4, 7, 9]) (by kernel_rfl) (by simp) (ord_cons ?_ (ord_cons ?_ (ord_cons ?_ ord_nil)))
      rotate_left 3
      all_goals
        refine wpOp_of_listL rfl ?_
        (first | ((with_reducible refine is_load ?_); (first | (refine own_ld (h := ?_)))) | ((with_reducible refine is_store ?_); (first | (refine own_stR (hO := hO) (h := ?_); clear hO; intro wv hO) | (refine own_st1 (hO := hO) (h := ?_); clear hO; intro wv hO))) | ((with_reducible refine is_load ?_); (refine own_ldW (hO := hO) (h := ?_))) | ((with_reducible refine is_store ?_); (refine own_stW (hO := hO) (h := ?_); clear hO; intro wv hO)) | ((refine wpList_step (fun K hK => ?_)); go_simp; (first | ((refine hK _ _ ?_); clear hK K)))); (try simp only [Act.put]); (try simp only [List.setIfInBounds_toArray, List.set_cons_zero, List.set_cons_succ])
        refine wpList_done (qk_intro ?_)
      refine wpAny_takePL 5 rfl (by kernel_rfl) (by kernel_rfl) (by kernel_rfl) (by rintro c d v a w ⟨h, _⟩; cases h) (by rfl) ?_
      (first | go_big_quiet_skip | (go_big_quiet_want; (go_big_quiet_op; (first | go_big_quiet_on | ((refine ⟨_, fun _ _ => rfl, ?_⟩); go_big_quiet_on))))); (refine wpQuiet_nil ?_); (try simp only [Act.put]); (try simp only [List.setIfInBounds_toArray, List.set_cons_zero, List.set_cons_succ])
      refine wpAny_all (rs := [7, 9]) (by kernel_rfl) (by simp) (ord_cons ?_ (ord_cons ?_ ord_nil))
      rotate_left 2
      refine wpAny_all (rs := [4, 9]) (by kernel_rfl) (by simp) (ord_cons ?_ (ord_cons ?_ ord_nil))
      rotate_left 2
      refine wpAny_all (rs := [4, 7]) (by kernel_rfl) (by simp) (ord_cons ?_ (ord_cons ?_ ord_nil))
      rotate_left 2
      all_goals
        refine wpOp_of_listL rfl ?_
        (first | ((with_reducible refine is_load ?_); (first | (refine own_ld (h := ?_)))) | ((with_reducible refine is_store ?_); (first | (refine own_stR (hO := hO) (h := ?_); clear hO; intro wv hO) | (refine own_st1 (hO := hO) (h := ?_); clear hO; intro wv hO))) | ((with_reducible refine is_load ?_); (refine own_ldW (hO := hO) (h := ?_))) | ((with_reducible refine is_store ?_); (refine own_stW (hO := hO) (h := ?_); clear hO; intro wv hO)) | ((refine wpList_step (fun K hK => ?_)); go_simp; (first | ((refine hK _ _ ?_); clear hK K)))); (try simp only [Act.put]); (try simp only [List.setIfInBounds_toArray, List.set_cons_zero, List.set_cons_succ])
        refine wpList_done (qk_intro ?_)
      refine wpAny_all (rs := [9]) (by kernel_rfl) (by simp) (ord_cons ?_ ord_nil)
      rotate_left 1
      refine wpAny_takePL 10 rfl (by kernel_rfl) (by kernel_rfl) (by kernel_rfl) (by rintro c d v a w ⟨h, _⟩; cases h) (by rfl) ?_
      (first | go_big_quiet_skip | (go_big_quiet_want; (go_big_quiet_op; (first | go_big_quiet_on | ((refine ⟨_, fun _ _ => rfl, ?_⟩); go_big_quiet_on))))); (refine wpQuiet_nil ?_); (try simp only [Act.put]); (try simp only [List.setIfInBounds_toArray, List.set_cons_zero, List.set_cons_succ])
      refine wpAny_all (rs := [7, 11]) (by kernel_rfl) (by simp) (ord_cons ?_ (ord_cons ?_ ord_nil))
      rotate_left 2
      refine wpAny_takePL 5 rfl (by kernel_rfl) (by kernel_rfl) (by kernel_rfl) (by rintro c d v a w ⟨h, _⟩; cases h) (by rfl) ?_
      (first | go_big_quiet_skip | (go_big_quiet_want; (go_big_quiet_op; (first | go_big_quiet_on | ((refine ⟨_, fun _ _ => rfl, ?_⟩); go_big_quiet_on))))); (refine wpQuiet_nil ?_); (try simp only [Act.put]); (try simp only [List.setIfInBounds_toArray, List.set_cons_zero, List.set_cons_succ])
      refine wpAny_all (rs := [9]) (by kernel_rfl) (by simp) (ord_cons ?_ ord_nil)
      rotate_left 1
      refine wpAny_all (rs := [4]) (by kernel_rfl) (by simp) (ord_cons ?_ ord_nil)
      rotate_left 1
      refine wpAny_takePL 5 rfl (by kernel_rfl) (by kernel_rfl) (by kernel_rfl) (by rintro c d v a w ⟨h, _⟩; cases h) (by rfl) ?_
      (first | go_big_quiet_skip | (go_big_quiet_want; (go_big_quiet_op; (first | go_big_quiet_on | ((refine ⟨_, fun _ _ => rfl, ?_⟩); go_big_quiet_on))))); (refine wpQuiet_nil ?_); (try simp only [Act.put]); (try simp only [List.setIfInBounds_toArray, List.set_cons_zero, List.set_cons_succ])
      refine wpAny_takePL 10 rfl (by kernel_rfl) (by kernel_rfl) (by kernel_rfl) (by rintro c d v a w ⟨h, _⟩; cases h) (by rfl) ?_
      (first | go_big_quiet_skip | (go_big_quiet_want; (go_big_quiet_op; (first | go_big_quiet_on | ((refine ⟨_, fun _ _ => rfl, ?_⟩); go_big_quiet_on))))); (refine wpQuiet_nil ?_); (try simp only [Act.put]); (try simp only [List.setIfInBounds_toArray, List.set_cons_zero, List.set_cons_succ])
      refine wpAny_all (rs := [7, 11]) (by kernel_rfl) (by simp) (ord_cons ?_ (ord_cons ?_ ord_nil))
      rotate_left 2
      refine wpAny_all (rs := [4]) (by kernel_rfl) (by simp) (ord_cons ?_ ord_nil)
      rotate_left 1
      all_goals
        refine wpOp_of_listL rfl ?_
        (first | ((with_reducible refine is_load ?_); (first | (refine own_ld (h := ?_)))) | ((with_reducible refine is_store ?_); (first | (refine own_stR (hO := hO) (h := ?_); clear hO; intro wv hO) | (refine own_st1 (hO := hO) (h := ?_); clear hO; intro wv hO))) | ((with_reducible refine is_load ?_); (refine own_ldW (hO := hO) (h := ?_))) | ((with_reducible refine is_store ?_); (refine own_stW (hO := hO) (h := ?_); clear hO; intro wv hO)) | ((refine wpList_step (fun K hK => ?_)); go_simp; (first | ((refine hK _ _ ?_); clear hK K)))); (try simp only [Act.put]); (try simp only [List.setIfInBounds_toArray, List.set_cons_zero, List.set_cons_succ])
        refine wpList_done (qk_intro ?_)
      refine wpAny_takePL 10 rfl (by kernel_rfl) (by kernel_rfl) (by kernel_rfl) (by rintro c d v a w ⟨h, _⟩; cases h) (by rfl) ?_
      (first | go_big_quiet_skip | (go_big_quiet_want; (go_big_quiet_op; (first | go_big_quiet_on | ((refine ⟨_, fun _ _ => rfl, ?_⟩); go_big_quiet_on))))); (refine wpQuiet_nil ?_); (try simp only [Act.put]); (try simp only [List.setIfInBounds_toArray, List.set_cons_zero, List.set_cons_succ])
      refine wpAny_all (rs := [11]) (by kernel_rfl) (by simp) (ord_cons ?_ ord_nil)
      rotate_left 1
      refine wpAny_all (rs := [11]) (by kernel_rfl) (by simp) (ord_cons ?_ ord_nil)
      rotate_left 1
      refine wpAny_all (rs := [7]) (by kernel_rfl) (by simp) (ord_cons ?_ ord_nil)
      rotate_left 1
      refine wpAny_takePL 10 rfl (by kernel_rfl) (by kernel_rfl) (by kernel_rfl) (by rintro c d v a w ⟨h, _⟩; cases h) (by rfl) ?_
      (first | go_big_quiet_skip | (go_big_quiet_want; (go_big_quiet_op; (first | go_big_quiet_on | ((refine ⟨_, fun _ _ => rfl, ?_⟩); go_big_quiet_on))))); (refine wpQuiet_nil ?_); (try simp only [Act.put]); (try simp only [List.setIfInBounds_toArray, List.set_cons_zero, List.set_cons_succ])
      refine wpAny_all (rs := [11]) (by kernel_rfl) (by simp) (ord_cons ?_ ord_nil)
      rotate_left 1
      refine wpAny_takePL 5 rfl (by kernel_rfl) (by kernel_rfl) (by kernel_rfl) (by rintro c d v a w ⟨h, _⟩; cases h) (by rfl) ?_
      (first | go_big_quiet_skip | (go_big_quiet_want; (go_big_quiet_op; (first | go_big_quiet_on | ((refine ⟨_, fun _ _ => rfl, ?_⟩); go_big_quiet_on))))); (refine wpQuiet_nil ?_); (try simp only [Act.put]); (try simp only [List.setIfInBounds_toArray, List.set_cons_zero, List.set_cons_succ])
      refine wpAny_takePL 10 rfl (by kernel_rfl) (by kernel_rfl) (by kernel_rfl) (by rintro c d v a w ⟨h, _⟩; cases h) (by rfl) ?_
      (first | go_big_quiet_skip | (go_big_quiet_want; (go_big_quiet_op; (first | go_big_quiet_on | ((refine ⟨_, fun _ _ => rfl, ?_⟩); go_big_quiet_on))))); (refine wpQuiet_nil ?_); (try simp only [Act.put]); (try simp only [List.setIfInBounds_toArray, List.set_cons_zero, List.set_cons_succ])
      refine wpAny_all (rs := [11]) (by kernel_rfl) (by simp) (ord_cons ?_ ord_nil)
      rotate_left 1
      refine wpAny_all (rs := [11]) (by kernel_rfl) (by simp) (ord_cons ?_ ord_nil)
      rotate_left 1
      refine wpAny_all (rs := [7]) (by kernel_rfl) (by simp) (ord_cons ?_ ord_nil)
      rotate_left 1
      refine wpAny_takePL 5 rfl (by kernel_rfl) (by kernel_rfl) (by kernel_rfl) (by rintro c d v a w ⟨h, _⟩; cases h) (by rfl) ?_
      (first | go_big_quiet_skip | (go_big_quiet_want; (go_big_quiet_op; (first | go_big_quiet_on | ((refine ⟨_, fun _ _ => rfl, ?_⟩); go_big_quiet_on))))); (refine wpQuiet_nil ?_); (try simp only [Act.put]); (try simp only [List.setIfInBounds_toArray, List.set_cons_zero, List.set_cons_succ])
      refine wpAny_takePL 10 rfl (by kernel_rfl) (by kernel_rfl) (by kernel_rfl) (by rintro c d v a w ⟨h, _⟩; cases h) (by rfl) ?_
      (first | go_big_quiet_skip | (go_big_quiet_want; (go_big_quiet_op; (first | go_big_quiet_on | ((refine ⟨_, fun _ _ => rfl, ?_⟩); go_big_quiet_on))))); (refine wpQuiet_nil ?_); (try simp only [Act.put]); (try simp only [List.setIfInBounds_toArray, List.set_cons_zero, List.set_cons_succ])
      refine wpAny_all (rs := [11]) (by kernel_rfl) (by simp) (ord_cons ?_ ord_nil)
      rotate_left 1
      all_goals
        refine wpOp_of_listL rfl ?_
        (first | ((with_reducible refine is_load ?_); (first | (refine own_ld (h := ?_)))) | ((with_reducible refine is_store ?_); (first | (refine own_stR (hO := hO) (h := ?_); clear hO; intro wv hO) | (refine own_st1 (hO := hO) (h := ?_); clear hO; intro wv hO))) | ((with_reducible refine is_load ?_); (refine own_ldW (hO := hO) (h := ?_))) | ((with_reducible refine is_store ?_); (refine own_stW (hO := hO) (h := ?_); clear hO; intro wv hO)) | ((refine wpList_step (fun K hK => ?_)); go_simp; (first | ((refine hK _ _ ?_); clear hK K)))); (try simp only [Act.put]); (try simp only [List.setIfInBounds_toArray, List.set_cons_zero, List.set_cons_succ])
        refine wpList_done (qk_intro ?_)
      refine wpAny_takePL 12 rfl (by kernel_rfl) (by kernel_rfl) (by kernel_rfl) (by rintro c d v a w ⟨h, _⟩; cases h) (by rfl) ?_
      (first | go_big_quiet_skip | (go_big_quiet_want; (go_big_quiet_op; (first | go_big_quiet_on | ((refine ⟨_, fun _ _ => rfl, ?_⟩); go_big_quiet_on))))); (refine wpQuiet_nil ?_); (try simp only [Act.put]); (try simp only [List.setIfInBounds_toArray, List.set_cons_zero, List.set_cons_succ])
      refine wpAny_all (rs := [13]) (by kernel_rfl) (by simp) (ord_cons ?_ ord_nil)
      rotate_left 1
      refine wpAny_takePL 12 rfl (by kernel_rfl) (by kernel_rfl) (by kernel_rfl) (by rintro c d v a w ⟨h, _⟩; cases h) (by rfl) ?_
      (first | go_big_quiet_skip | (go_big_quiet_want; (go_big_quiet_op; (first | go_big_quiet_on | ((refine ⟨_, fun _ _ => rfl, ?_⟩); go_big_quiet_on))))); (refine wpQuiet_nil ?_); (try simp only [Act.put]); (try simp only [List.setIfInBounds_toArray, List.set_cons_zero, List.set_cons_succ])
      refine wpAny_all (rs := [13]) (by kernel_rfl) (by simp) (ord_cons ?_ ord_nil)
      rotate_left 1
      refine wpAny_takePL 12 rfl (by kernel_rfl) (by kernel_rfl) (by kernel_rfl) (by rintro c d v a w ⟨h, _⟩; cases h) (by rfl) ?_
      (first | go_big_quiet_skip | (go_big_quiet_want; (go_big_quiet_op; (first | go_big_quiet_on | ((refine ⟨_, fun _ _ => rfl, ?_⟩); go_big_quiet_on))))); (refine wpQuiet_nil ?_); (try simp only [Act.put]); (try simp only [List.setIfInBounds_toArray, List.set_cons_zero, List.set_cons_succ])
      refine wpAny_all (rs := [13]) (by kernel_rfl) (by simp) (ord_cons ?_ ord_nil)
      rotate_left 1
      refine wpAny_takePL 12 rfl (by kernel_rfl) (by kernel_rfl) (by kernel_rfl) (by rintro c d v a w ⟨h, _⟩; cases h) (by rfl) ?_
      (first | go_big_quiet_skip | (go_big_quiet_want; (go_big_quiet_op; (first | go_big_quiet_on | ((refine ⟨_, fun _ _ => rfl, ?_⟩); go_big_quiet_on))))); (refine wpQuiet_nil ?_); (try simp only [Act.put]); (try simp only [List.setIfInBounds_toArray, List.set_cons_zero, List.set_cons_succ])
      refine wpAny_all (rs := [13]) (by kernel_rfl) (by simp) (ord_cons ?_ ord_nil)
      rotate_left 1
      refine wpAny_takePL 12 rfl (by kernel_rfl) (by kernel_rfl) (by kernel_rfl) (by rintro c d v a w ⟨h, _⟩; cases h) (by rfl) ?_
      (first | go_big_quiet_skip | (go_big_quiet_want; (go_big_quiet_op; (first | go_big_quiet_on | ((refine ⟨_, fun _ _ => rfl, ?_⟩); go_big_quiet_on))))); (refine wpQuiet_nil ?_); (try simp only [Act.put]); (try simp only [List.setIfInBounds_toArray, List.set_cons_zero, List.set_cons_succ])
      refine wpAny_all (rs := [13]) (by kernel_rfl) (by simp) (ord_cons ?_ ord_nil)
      rotate_left 1
      refine wpAny_takePL 12 rfl (by kernel_rfl) (by kernel_rfl) (by kernel_rfl) (by rintro c d v a w ⟨h, _⟩; cases h) (by rfl) ?_
      (first | go_big_quiet_skip | (go_big_quiet_want; (go_big_quiet_op; (first | go_big_quiet_on | ((refine ⟨_, fun _ _ => rfl, ?_⟩); go_big_quiet_on))))); (refine wpQuiet_nil ?_); (try simp only [Act.put]); (try simp only [List.setIfInBounds_toArray, List.set_cons_zero, List.set_cons_succ])
      refine wpAny_all (rs := [13]) (by kernel_rfl) (by simp) (ord_cons ?_ ord_nil)
      rotate_left 1
      refine wpAny_takePL 12 rfl (by kernel_rfl) (by kernel_rfl) (by kernel_rfl) (by rintro c d v a w ⟨h, _⟩; cases h) (by rfl) ?_
      (first | go_big_quiet_skip | (go_big_quiet_want; (go_big_quiet_op; (first | go_big_quiet_on | ((refine ⟨_, fun _ _ => rfl, ?_⟩); go_big_quiet_on))))); (refine wpQuiet_nil ?_); (try simp only [Act.put]); (try simp only [List.setIfInBounds_toArray, List.set_cons_zero, List.set_cons_succ])
      refine wpAny_all (rs := [13]) (by kernel_rfl) (by simp) (ord_cons ?_ ord_nil)
      rotate_left 1
      refine wpAny_takePL 12 rfl (by kernel_rfl) (by kernel_rfl) (by kernel_rfl) (by rintro c d v a w ⟨h, _⟩; cases h) (by rfl) ?_
      (first | go_big_quiet_skip | (go_big_quiet_want; (go_big_quiet_op; (first | go_big_quiet_on | ((refine ⟨_, fun _ _ => rfl, ?_⟩); go_big_quiet_on))))); (refine wpQuiet_nil ?_); (try simp only [Act.put]); (try simp only [List.setIfInBounds_toArray, List.set_cons_zero, List.set_cons_succ])
      refine wpAny_all (rs := [13]) (by kernel_rfl) (by simp) (ord_cons ?_ ord_nil)
      rotate_left 1
      all_goals
        refine wpOp_of_listL rfl ?_
        (first | ((with_reducible refine is_load ?_); (first | (refine own_ld (h := ?_)))) | ((with_reducible refine is_store ?_); (first | (refine own_stR (hO := hO) (h := ?_); clear hO; intro wv hO) | (refine own_st1 (hO := hO) (h := ?_); clear hO; intro wv hO))) | ((with_reducible refine is_load ?_); (refine own_ldW (hO := hO) (h := ?_))) | ((with_reducible refine is_store ?_); (refine own_stW (hO := hO) (h := ?_); clear hO; intro wv hO)) | ((refine wpList_step (fun K hK => ?_)); go_simp; (first | ((refine hK _ _ ?_); clear hK K)))); (try simp only [Act.put]); (try simp only [List.setIfInBounds_toArray, List.set_cons_zero, List.set_cons_succ])
        refine wpList_done (qk_intro ?_)
      exact wpAny_done (by kernel_rfl) ⟨rfl, rfl, hO⟩ _
      exact wpAny_done (by kernel_rfl) ⟨rfl, rfl, hO⟩ _
      exact wpAny_done (by kernel_rfl) ⟨rfl, rfl, hO⟩ _
      exact wpAny_done (by kernel_rfl) ⟨rfl, rfl, hO⟩ _
      exact wpAny_done (by kernel_rfl) ⟨rfl, rfl, hO⟩ _
      exact wpAny_done (by kernel_rfl) ⟨rfl, rfl, hO⟩ _
      exact wpAny_done (by kernel_rfl) ⟨rfl, rfl, hO⟩ _
      exact wpAny_done (by kernel_rfl) ⟨rfl, rfl, hO⟩ _
    clear hO
    intro wv hO
    clear hn0
    rw [HL1.out] at hO
    go_wp2_with (first | ((with_reducible refine is_load ?_); (first | (refine own_ldP hO (h := ?_)) | (refine own_ld (h := ?_)))) | ((with_reducible refine is_store ?_); (first | (refine own_stRp (hO := hO) (h := ?_); clear hO; intro wv hO) | (refine own_st1p (hO := hO) (h := ?_); clear hO; intro wv hO) | (refine own_stR (hO := hO) (h := ?_); clear hO; intro wv hO) | (refine own_st1 (hO := hO) (h := ?_); clear hO; intro wv hO))) | ((with_reducible refine is_box ?_); (first | (refine own_bx (o := ⟨some 1, _, _, _, _, _⟩) (hO := hO) (h := ?_); clear hO; intro n1 wv hO))) | ((with_reducible refine is_alloc ?_); (first | (refine own_al (o := ⟨some 4, _, _, _, _, _⟩) (hO := hO) (h := ?_); clear hO; intro n4 wv hO))) | ((with_reducible refine is_append ?_); (first | (refine own_ap (o := ⟨some 29, _, _, _, _, _⟩) (hO := hO) (h := ?_); clear hO; intro g29 c29 wv hO))) | (go_at_call 51; refine (h1 _ _ (by unfold OwnsB; rw [HN1.out]; exact hO.row _ List.mem_cons_self)).mono ?_; rintro e wv hw; obtain rfl := hw.1; have hw2 := hw.2.2; rw [HN1.out] at hw2; replace hO := hO.afterRow .here hw.2.1 hw2; clear hw hw2 h1) | (go_at_call 51; refine (h2 _ _ (by unfold OwnsB; rw [HN2.out]; exact hO.row _ List.mem_cons_self)).mono ?_; rintro e wv hw; obtain rfl := hw.1; have hw2 := hw.2.2; rw [HN2.out] at hw2; replace hO := hO.afterRow .here hw.2.1 hw2; clear hw hw2 h2) | (go_at_call 51; refine (h3 _ _ (by unfold OwnsB; rw [HN3.out]; exact hO.row _ List.mem_cons_self)).mono ?_; rintro e wv hw; obtain rfl := hw.1; have hw2 := hw.2.2; rw [HN3.out] at hw2; replace hO := hO.afterRow .here hw.2.1 hw2; clear hw hw2 h3) | ((with_reducible refine is_load ?_); (refine own_ldW (hO := hO) (h := ?_))) | ((with_reducible refine is_store ?_); (refine own_stW (hO := hO) (h := ?_); clear hO; intro wv hO)))
    have hn4 := HN4.out
    apply wp_via
    case h =>
      refine wp_region_any (by kernel_rfl) ?_
      replace hO := hO.drew
      refine wpAny_takePL 0 rfl (by kernel_rfl) (by kernel_rfl) (by kernel_rfl) (by rintro c d v a w ⟨h, _⟩; cases h) (by rfl) ?_
      (first | go_big_quiet_skip | (go_big_quiet_want; (go_big_quiet_op; (first | go_big_quiet_on | ((refine ⟨_, fun _ _ => rfl, ?_⟩); go_big_quiet_on))))); (refine wpQuiet_nil ?_); (try simp only [Act.put]); (try simp only [List.setIfInBounds_toArray, List.set_cons_zero, List.set_cons_succ])
      refine wpAny_takePL 1 rfl (by kernel_rfl) (by kernel_rfl) (by kernel_rfl) (by rintro c d v a w ⟨h, _⟩; cases h) (by rfl) ?_
      (first | go_big_quiet_skip | (go_big_quiet_want; (go_big_quiet_op; (first | go_big_quiet_on | ((refine ⟨_, fun _ _ => rfl, ?_⟩); go_big_quiet_on))))); (refine wpQuiet_nil ?_); (try simp only [Act.put]); (try simp only [List.setIfInBounds_toArray, List.set_cons_zero, List.set_cons_succ])
      refine wpAny_takePL 2 rfl (by kernel_rfl) (by kernel_rfl) (by kernel_rfl) (by rintro c d v a w ⟨h, _⟩; cases h) (by rfl) ?_
      (first | go_big_quiet_skip | (go_big_quiet_want; (go_big_quiet_op; (first | go_big_quiet_on | ((refine ⟨_, fun _ _ => rfl, ?_⟩); go_big_quiet_on))))); (refine wpQuiet_nil ?_); (try simp only [Act.put]); (try simp only [List.setIfInBounds_toArray, List.set_cons_zero, List.set_cons_succ])
      refine wpAny_takePL 5 rfl (by kernel_rfl) (by kernel_rfl) (by kernel_rfl) (by rintro c d v a w ⟨h, _⟩; cases h) (by rfl) ?_
      (first | go_big_quiet_skip | (go_big_quiet_want; (go_big_quiet_op; (first | go_big_quiet_on | ((refine ⟨_, fun _ _ => rfl, ?_⟩); go_big_quiet_on))))); (refine wpQuiet_nil ?_); (try simp only [Act.put]); (try simp only [List.setIfInBounds_toArray, List.set_cons_zero, List.set_cons_succ])
      refine wpAny_all (rs := [3, 6]) (by kernel_rfl) (by simp) (ord_cons ?_ (ord_cons ?_ ord_nil))
      rotate_left 2
      all_goals
        refine wpOp_of_listL rfl ?_
        (first | ((with_reducible refine is_load ?_); (first | (refine own_ld (h := ?_)))) | ((with_reducible refine is_store ?_); (first | (refine own_stR (hO := hO) (h := ?_); clear hO; intro wv hO) | (refine own_st1 (hO := hO) (h := ?_); clear hO; intro wv hO))) | ((with_reducible refine is_load ?_); (refine own_ldW (hO := hO) (h := ?_))) | ((with_reducible refine is_store ?_); (refine own_stW (hO := hO) (h := ?_); clear hO; intro wv hO)) | ((refine wpList_step (fun K hK => ?_)); go_simp; (first | ((refine hK _ _ ?_); clear hK K)))); (try simp only [Act.put]); (try simp only [List.setIfInBounds_toArray, List.set_cons_zero, List.set_cons_succ])
        refine wpList_done (qk_intro ?_)
      refine wpAny_takePL 4 rfl (by kernel_rfl) (by kernel_rfl) (by kernel_rfl) (by rintro c d v a w ⟨h, _⟩; cases h) (by rfl) ?_
      (first | go_big_quiet_skip | (go_big_quiet_want; (go_big_quiet_op; (first | go_big_quiet_on | ((refine ⟨_, fun _ _ => rfl, ?_⟩); go_big_quiet_on))))); (refine wpQuiet_nil ?_); (try simp only [Act.put]); (try simp only [List.setIfInBounds_toArray, List.set_cons_zero, List.set_cons_succ])
      refine wpAny_all (rs := [6]) (by kernel_rfl) (by simp) (ord_cons ?_ ord_nil)
      rotate_left 1
      refine wpAny_all (rs := [3]) (by kernel_rfl) (by simp) (ord_cons ?_ ord_nil)
      rotate_left 1
      all_goals
        refine wpOp_of_listL rfl ?_
        (first | ((with_reducible refine is_load ?_); (first | (refine own_ld (h := ?_)))) | ((with_reducible refine is_store ?_); (first | (refine own_stR (hO := hO) (h := ?_); clear hO; intro wv hO) | (refine own_st1 (hO := hO) (h := ?_); clear hO; intro wv hO))) | ((with_reducible refine is_load ?_); (refine own_ldW (hO := hO) (h := ?_))) | ((with_reducible refine is_store ?_); (refine own_stW (hO := hO) (h := ?_); clear hO; intro wv hO)) | ((refine wpList_step (fun K hK => ?_)); go_simp; (first | ((refine hK _ _ ?_); clear hK K)))); (try simp only [Act.put]); (try simp only [List.setIfInBounds_toArray, List.set_cons_zero, List.set_cons_succ])
        refine wpList_done (qk_intro ?_)
      refine wpAny_takePL 7 rfl (by kernel_rfl) (by kernel_rfl) (by kernel_rfl) (by rintro c d v a w ⟨h, _⟩; cases h) (by rfl) ?_
      (first | go_big_quiet_skip | (go_big_quiet_want; (go_big_quiet_op; (first | go_big_quiet_on | ((refine ⟨_, fun _ _ => rfl, ?_⟩); go_big_quiet_on))))); (refine wpQuiet_nil ?_); (try simp only [Act.put]); (try simp only [List.setIfInBounds_toArray, List.set_cons_zero, List.set_cons_succ])
      refine wpAny_all (rs := [8]) (by kernel_rfl) (by simp) (ord_cons ?_ ord_nil)
      rotate_left 1
      refine wpAny_takePL 4 rfl (by kernel_rfl) (by kernel_rfl) (by kernel_rfl) (by rintro c d v a w ⟨h, _⟩; cases h) (by rfl) ?_
      (first | go_big_quiet_skip | (go_big_quiet_want; (go_big_quiet_op; (first | go_big_quiet_on | ((refine ⟨_, fun _ _ => rfl, ?_⟩); go_big_quiet_on))))); (refine wpQuiet_nil ?_); (try simp only [Act.put]); (try simp only [List.setIfInBounds_toArray, List.set_cons_zero, List.set_cons_succ])
      refine wpAny_takePL 7 rfl (by kernel_rfl) (by kernel_rfl) (by kernel_rfl) (by rintro c d v a w ⟨h, _⟩; cases h) (by rfl) ?_
      (first | go_big_quiet_skip | (go_big_quiet_want; (go_big_quiet_op; (first | go_big_quiet_on | ((refine ⟨_, fun _ _ => rfl, ?_⟩); go_big_quiet_on))))); (refine wpQuiet_nil ?_); (try simp only [Act.put]); (try simp only [List.setIfInBounds_toArray, List.set_cons_zero, List.set_cons_succ])
      refine wpAny_all (rs := [8]) (by kernel_rfl) (by simp) (ord_cons ?_ ord_nil)
      rotate_left 1
      all_goals
        refine wpOp_of_listL rfl ?_
        (first | ((with_reducible refine is_load ?_); (first | (refine own_ld (h := ?_)))) | ((with_reducible refine is_store ?_); (first | (refine own_stR (hO := hO) (h := ?_); clear hO; intro wv hO) | (refine own_st1 (hO := hO) (h := ?_); clear hO; intro wv hO))) | ((with_reducible refine is_load ?_); (refine own_ldW (hO := hO) (h := ?_))) | ((with_reducible refine is_store ?_); (refine own_stW (hO := hO) (h := ?_); clear hO; intro wv hO)) | ((refine wpList_step (fun K hK => ?_)); go_simp; (first | ((refine hK _ _ ?_); clear hK K)))); (try simp only [Act.put]); (try simp only [List.setIfInBounds_toArray, List.set_cons_zero, List.set_cons_succ])
        refine wpList_done (qk_intro ?_)
      exact wpAny_done (by kernel_rfl) ⟨rfl, rfl, hO⟩ _
      exact wpAny_done (by kernel_rfl) ⟨rfl, rfl, hO⟩ _
    clear hO
    intro wv hO
    clear hn4
    rw [HL5.out] at hO
    go_wp2_with (first | ((with_reducible refine is_load ?_); (first | (refine own_ldP hO (h := ?_)) | (refine own_ld (h := ?_)))) | ((with_reducible refine is_store ?_); (first | (refine own_stRp (hO := hO) (h := ?_); clear hO; intro wv hO) | (refine own_st1p (hO := hO) (h := ?_); clear hO; intro wv hO) | (refine own_stR (hO := hO) (h := ?_); clear hO; intro wv hO) | (refine own_st1 (hO := hO) (h := ?_); clear hO; intro wv hO))) | ((with_reducible refine is_box ?_); (first | (refine own_bx (o := ⟨some 1, _, _, _, _, _⟩) (hO := hO) (h := ?_); clear hO; intro n1 wv hO))) | ((with_reducible refine is_alloc ?_); (first | (refine own_al (o := ⟨some 4, _, _, _, _, _⟩) (hO := hO) (h := ?_); clear hO; intro n4 wv hO))) | ((with_reducible refine is_append ?_); (first | (refine own_ap (o := ⟨some 29, _, _, _, _, _⟩) (hO := hO) (h := ?_); clear hO; intro g29 c29 wv hO))) | (go_at_call 52; refine (h6 _ _ (by unfold OwnsB; rw [HN5.out]; exact hO.row _ List.mem_cons_self)).mono ?_; rintro e wv hw; obtain rfl := hw.1; have hw2 := hw.2.2; rw [HN5.out] at hw2; replace hO := hO.afterRow .here hw.2.1 hw2; clear hw hw2 h6) | (go_at_call 53; refine (hsum _ _ (by unfold OwnsB; rw [HN6.out]; exact hO.row _ List.mem_cons_self)).mono ?_; rintro e wv hw; obtain rfl := hw.1; have hw2 := hw.2.2; rw [HN6.out] at hw2; replace hO := hO.afterRow .here hw.2.1 hw2; clear hw hw2 hsum) | ((with_reducible refine is_load ?_); (refine own_ldW (hO := hO) (h := ?_))) | ((with_reducible refine is_store ?_); (refine own_stW (hO := hO) (h := ?_); clear hO; intro wv hO)))
    go_ret2
    exact ⟨_, rfl, by rw [HN7.out]; exact hO.newRow List.mem_cons_self, hO.keep.below⟩
  · have hEL : encLen 17 = 28 := rfl
    have hSA : sumAtF 17 = 26 := rfl
    have hEM : encM ⟨⟨s, d, 17, sp, dp⟩, t, f, pl⟩ = portsF (p16 (p32 (p32 (encHd ⟨⟨s, d, 17, sp, dp⟩, t, f, pl⟩) 12 s) 16 d) 24 (((p32 (p32 (encHd ⟨⟨s, d, 17, sp, dp⟩, t, f, pl⟩) 12 s) 16 d).length : Int) - 20)) ⟨s, d, 17, sp, dp⟩ := encM_ref _
    have hEH : encHd ⟨⟨s, d, 17, sp, dp⟩, t, f, pl⟩ = p16 ((((List.replicate 28 0 ++ pl).set 0 69).set 8 t).set 9 17) 2 ((28 : Int) + pl.length) := by
      show p16 ((((List.replicate (encLen 17) 0 ++ pl).set 0 69).set 8 t).set 9 17) 2 ((encLen 17 : Int) + pl.length) = _
      rw [hEL]; rfl
    replace hsum := hsum (by rw [hSA, hEL]; omega)
    rw [hEM] at hsum hnM ⊢
    rw [hEH] at hsum hnM ⊢
    rw [hEL] at hsz
    dsimp only at hnM
    rw [hEL] at hnM
    have HZ := Lib.hid (bc_zero 28)
    have hZl : (List.replicate 28 (0 : Int)).length = 28 := List.length_replicate
    clear hEM hEH
    generalize List.replicate 28 (0 : Int) = Z at *
    obtain ⟨N, hN⟩ : ∃ N, 28 + pl.length = N := ⟨_, rfl⟩
    have hNi : (28 : Int) + pl.length = (N : Int) := by omega
    rw [hNi] at hsum hnM ⊢
    rw [hN] at hnM
    have hn0 : (Z ++ pl).length = N := by rw [List.length_append, hZl, hN]
    clear ho hNi hZl hEL hSA
    generalize hL0 : Z ++ pl = L0 at *
    have hn1 : (((L0.set 0 69).set 8 t).set 9 17).length = N := by simp [hn0]
    generalize hL1 : ((L0.set 0 69).set 8 t).set 9 17 = L1 at *
    have h1 := fun v w hw => set2_any (v := v) (l := L1) 2 (N : Int) w hw (by omega) (by omega) (by omega) (by omega)
    have hn2 : (p16 L1 2 (N : Int)).length = N := by rw [p16_length, hn1]
    generalize hL2 : p16 L1 2 (N : Int) = L2 at *
    have h2 := fun v w hw => set4_any (v := v) (l := L2) 12 s w hw (by omega) (by omega) (by omega) (by omega)
    have hn3 : (p32 L2 12 s).length = N := by rw [p32_length, hn2]
    generalize hL3 : p32 L2 12 s = L3 at *
    have h3 := fun v w hw => set4_any (v := v) (l := L3) 16 d w hw (by omega) (by omega) (by omega) (by omega)
    have hn4 : (p32 L3 16 d).length = N := by rw [p32_length, hn3]
    generalize hL4 : p32 L3 16 d = L4 at *
    have HN0 := Lib.hid hn0
    have HN1 := Lib.hid hn1
    have HN2 := Lib.hid hn2
    have HN3 := Lib.hid hn3
    have HN4 := Lib.hid hn4
    have HL0 := Lib.hid hL0
    have HL1 := Lib.hid hL1
    clear hn0 hn1 hn2 hn3 hL0 hL1 hL2 hL3 hL4
    rw [hn4] at hsum hnM ⊢
    have h5 := fun v w hw => set2_any (v := v) (l := L4) 24 ((N : Int) - 20) w hw (by omega) (by omega) (by omega) (by omega)
    have hn5 : (p16 L4 24 ((N : Int) - 20)).length = N := by rw [p16_length, hn4]
    generalize hL5 : p16 L4 24 ((N : Int) - 20) = L5 at *
    have h6 := fun v w hw => ports_any (v := v) (l := L5) ⟨s, d, 17, sp, dp⟩ w hw (by omega) (by omega) k.h (fun _ => by omega)
    generalize hL6 : portsF L5 ⟨s, d, 17, sp, dp⟩ = L6 at *
    have HN6 := Lib.hid hnM
    clear hnM hL6
    generalize hL7 : sumsF L6 = L7 at *
    have HN7 := Lib.hid (show L7.length = N by rw [← hL7, sumsF_length, HN6.out])
    clear hL7
    have HN5 := Lib.hid hn5
    clear hn4 hn5 hL5
    go_enter Tryd.func27, Tryd.ntmps27
    go_wp2_with (first | ((with_reducible refine is_load ?_); (first | (refine own_ldP hO (h := ?_)) | (refine own_ld (h := ?_)))) | ((with_reducible refine is_store ?_); (first | (refine own_stRp (hO := hO) (h := ?_); clear hO; intro wv hO) | (refine own_st1p (hO := hO) (h := ?_); clear hO; intro wv hO) | (refine own_stR (hO := hO) (h := ?_); clear hO; intro wv hO) | (refine own_st1 (hO := hO) (h := ?_); clear hO; intro wv hO))) | ((with_reducible refine is_box ?_); (first | (refine own_bx (o := ⟨some 1, _, _, _, _, _⟩) (hO := hO) (h := ?_); clear hO; intro n1 wv hO))) | ((with_reducible refine is_alloc ?_); (first | (refine own_al (o := ⟨some 4, _, _, _, _, _⟩) (hO := hO) (h := ?_); clear hO; intro n4 wv hO))) | ((with_reducible refine is_append ?_); (first | (refine own_ap (o := ⟨some 29, _, _, _, _, _⟩) (hO := hO) (h := ?_); clear hO; intro g29 c29 wv hO))) | (go_at_call 50; refine (hcod _).mono ?_; rintro e wv ⟨rfl, hb⟩; replace hO := hO.call hb; clear hb) | ((with_reducible refine is_load ?_); (refine own_ldW (hO := hO) (h := ?_))) | ((with_reducible refine is_store ?_); (refine own_stW (hO := hO) (h := ?_); clear hO; intro wv hO)))
    (try simp only [Act.put]); (try simp only [List.setIfInBounds_toArray, List.set_cons_zero, List.set_cons_succ]); (refine own_loose 4 [(26, IsMk w.heap.size [⟨n4, [.int .u32 s, .int .u32 d, .int .u8 17, .int .u16 sp, .int .u16 dp], 26⟩, ⟨n1, pcs ⟨s, d, 17, sp, dp⟩ t f (.slice a pl.length c), 43⟩] [] (roC (.slice a pl.length c) (bc pl)) 28 28 (bc Z) 5)] hO (by kernel_rfl) (by kernel_rfl) (by rfl) (by repeat (first | exact Split.zero _ | apply Split.succ)) ?_ ?_); (focus (repeat (first | exact lasts_nil | (refine lasts_cons (fun v w w' _ _ hk h => ?_) ?_; focus (first | exact h | exact h.keep hk | (obtain ⟨h1, h2⟩ := h; exact ⟨h1, h2.keep hk⟩)))))); clear hO; (repeat (first | (refine loose_plain (by (intro _ hd; cases hd; rfl)) (by rfl) (fun _ h => h) ?_; (first | go_big_quiet_skip | (go_big_quiet_want; (first | ((with_reducible refine is_loadQ ?_); (first | (refine q_ld (h := ?_))); (try simp only [Act.put]); (try simp only [List.setIfInBounds_toArray, List.set_cons_zero, List.set_cons_succ]); go_big_quiet_on) | (go_big_quiet_op; (first | go_big_quiet_on | ((refine ⟨_, fun _ _ => rfl, ?_⟩); go_big_quiet_on)))))); refine wpQuiet_nil ?_; (try simp only [Act.put]); (try simp only [List.setIfInBounds_toArray, List.set_cons_zero, List.set_cons_succ])) | (refine loose_fact (by rfl) rfl (by rfl) ?_ ?_ (Nat.le_of_ble_eq_true rfl); (focus (intro w1 hO hF; (first | (exact loose_make hO rfl slice_u8 zero_u8 rfl rfl (n := 28) (c := 28) (by rfl) (by rfl) (by omega) (by omega) HZ.out) | (go_simp; (first | fail))))); (intro u w1 hO hu; (try subst hu); (try simp only [Act.put]); (try simp only [List.setIfInBounds_toArray, List.set_cons_zero, List.set_cons_succ]))) | (refine loose_skip (by rfl) ?_; (try simp only [Act.put]); (try simp only [List.setIfInBounds_toArray, List.set_cons_zero, List.set_cons_succ])))); (refine wpLoose_nil ?_); intro wv hI; have hO := hI.1; (try refine wpList_done ?_)
    obtain ⟨g26, hg26, hO⟩ := own_isMk hO (hI.2 26 (by simp [insF]) _ rfl)
    cases hg26
    clear hI
    go_wp2_with (first | ((with_reducible refine is_load ?_); (first | (refine own_ldP hO (h := ?_)) | (refine own_ld (h := ?_)))) | ((with_reducible refine is_store ?_); (first | (refine own_stRp (hO := hO) (h := ?_); clear hO; intro wv hO) | (refine own_st1p (hO := hO) (h := ?_); clear hO; intro wv hO) | (refine own_stR (hO := hO) (h := ?_); clear hO; intro wv hO) | (refine own_st1 (hO := hO) (h := ?_); clear hO; intro wv hO))) | ((with_reducible refine is_box ?_); (first | (refine own_bx (o := ⟨some 1, _, _, _, _, _⟩) (hO := hO) (h := ?_); clear hO; intro n1 wv hO))) | ((with_reducible refine is_alloc ?_); (first | (refine own_al (o := ⟨some 4, _, _, _, _, _⟩) (hO := hO) (h := ?_); clear hO; intro n4 wv hO))) | ((with_reducible refine is_append ?_); (first | (refine own_ap (o := ⟨some 29, _, _, _, _, _⟩) (hO := hO) (h := ?_); clear hO; intro g29 c29 wv hO))) | ((with_reducible refine is_append ?_); (refine own_appendP (o := ⟨some 29, _, _, _, _, _⟩) hO rfl rfl slice_u8 rfl rfl (src_of_cells (IsCells.below hv hO.keep.below) (by simp [bc_length]; try omega)) (bc_one _) (fun _ => by repeat (first | exact UpdR.here | apply UpdR.there)) (by first | omega | (simp; omega)) (by unfold maxLen; first | omega | (simp; omega)) (by first | omega | (simp; done) | (simp; omega)) ?_); clear hO; intro g29 c29 wv hO) | ((with_reducible refine is_load ?_); (refine own_ldW (hO := hO) (h := ?_))) | ((with_reducible refine is_store ?_); (refine own_stW (hO := hO) (h := ?_); clear hO; intro wv hO)))
    rw [← bc_append, hN, HL0.out] at hO
    have hn0 := HN0.out
    apply wp_via
    case h =>
      refine wp_region_any (by kernel_rfl) ?_
      replace hO := hO.drew
      refine wpAny_takePL 0 rfl (by kernel_rfl) (by kernel_rfl) (by kernel_rfl) (by rintro c d v a w ⟨h, _⟩; cases h) (by rfl) ?_
      (first | go_big_quiet_skip | (go_big_quiet_want; (go_big_quiet_op; (first | go_big_quiet_on | ((refine ⟨_, fun _ _ => rfl, ?_⟩); go_big_quiet_on))))); (refine wpQuiet_nil ?_); (try simp only [Act.put]); (try simp only [List.setIfInBounds_toArray, List.set_cons_zero, List.set_cons_succ])
      refine wpAny_takePL 1 rfl (by kernel_rfl) (by kernel_rfl) (by kernel_rfl) (by rintro c d v a w ⟨h, _⟩; cases h) (by rfl) ?_
      (first | go_big_quiet_skip | (go_big_quiet_want; (go_big_quiet_op; (first | go_big_quiet_on | ((refine ⟨_, fun _ _ => rfl, ?_⟩); go_big_quiet_on))))); (refine wpQuiet_nil ?_); (try simp only [Act.put]); (try simp only [List.setIfInBounds_toArray, List.set_cons_zero, List.set_cons_succ])
      refine wpAny_takePL 2 rfl (by kernel_rfl) (by kernel_rfl) (by kernel_rfl) (by rintro c d v a w ⟨h, _⟩; cases h) (by rfl) ?_
      (first | go_big_quiet_skip | (go_big_quiet_want; (go_big_quiet_op; (first | go_big_quiet_on | ((refine ⟨_, fun _ _ => rfl, ?_⟩); go_big_quiet_on))))); (refine wpQuiet_nil ?_); (try simp only [Act.put]); (try simp only [List.setIfInBounds_toArray, List.set_cons_zero, List.set_cons_succ])
      refine wpAny_takePL 3 rfl (by kernel_rfl) (by kernel_rfl) (by kernel_rfl) (by rintro c d v a w ⟨h, _⟩; cases h) (by rfl) ?_
      (first | go_big_quiet_skip | (go_big_quiet_want; (go_big_quiet_op; (first | go_big_quiet_on | ((refine ⟨_, fun _ _ => rfl, ?_⟩); go_big_quiet_on))))); (refine wpQuiet_nil ?_); (try simp only [Act.put]); (try simp only [List.setIfInBounds_toArray, List.set_cons_zero, List.set_cons_succ])
      refine wpAny_takePL 6 rfl (by kernel_rfl) (by kernel_rfl) (by kernel_rfl) (by rintro c d v a w ⟨h, _⟩; cases h) (by rfl) ?_
      (first | go_big_quiet_skip | (go_big_quiet_want; (go_big_quiet_op; (first | go_big_quiet_on | ((refine ⟨_, fun _ _ => rfl, ?_⟩); go_big_quiet_on))))); (refine wpQuiet_nil ?_); (try simp only [Act.put]); (try simp only [List.setIfInBounds_toArray, List.set_cons_zero, List.set_cons_succ])
      refine wpAny_takePL 8 rfl (by kernel_rfl) (by kernel_rfl) (by kernel_rfl) (by rintro c d v a w ⟨h, _⟩; cases h) (by rfl) ?_
      (first | go_big_quiet_skip | (go_big_quiet_want; (go_big_quiet_op; (first | go_big_quiet_on | ((refine ⟨_, fun _ _ => rfl, ?_⟩); go_big_quiet_on))))); (refine wpQuiet_nil ?_); (try simp only [Act.put]); (try simp only [List.setIfInBounds_toArray, List.set_cons_zero, List.set_cons_succ])
      refine wpAny_all (rs := [4, 7, 9]) (by kernel_rfl) (by simp) (ord_cons ?_ (ord_cons ?_ (ord_cons ?_ ord_nil)))
      rotate_left 3
      all_goals
        refine wpOp_of_listL rfl ?_
        (first | ((with_reducible refine is_load ?_); (first | (refine own_ld (h := ?_)))) | ((with_reducible refine is_store ?_); (first | (refine own_stR (hO := hO) (h := ?_); clear hO; intro wv hO) | (refine own_st1 (hO := hO) (h := ?_); clear hO; intro wv hO))) | ((with_reducible refine is_load ?_); (refine own_ldW (hO := hO) (h := ?_))) | ((with_reducible refine is_store ?_); (refine own_stW (hO := hO) (h := ?_); clear hO; intro wv hO)) | ((refine wpList_step (fun K hK => ?_)); go_simp; (first | ((refine hK _ _ ?_); clear hK K)))); (try simp only [Act.put]); (try simp only [List.setIfInBounds_toArray, List.set_cons_zero, List.set_cons_succ])
        refine wpList_done (qk_intro ?_)
      refine wpAny_takePL 5 rfl (by kernel_rfl) (by kernel_rfl) (by kernel_rfl) (by rintro c d v a w ⟨h, _⟩; cases h) (by rfl) ?_
      (first | go_big_quiet_skip | (go_big_quiet_want; (go_big_quiet_op; (first | go_big_quiet_on | ((refine ⟨_, fun _ _ => rfl, ?_⟩); go_big_quiet_on))))); (refine wpQuiet_nil ?_); (try simp only [Act.put]); (try simp only [List.setIfInBounds_toArray, List.set_cons_zero, List.set_cons_succ])
      refine wpAny_all (rs := [7, 9]) (by kernel_rfl) (by simp) (ord_cons ?_ (ord_cons ?_ ord_nil))
      rotate_left 2
      refine wpAny_all (rs := [4, 9]) (by kernel_rfl) (by simp) (ord_cons ?_ (ord_cons ?_ ord_nil))
      rotate_left 2
      refine wpAny_all (rs := [4, 7]) (by kernel_rfl) (by simp) (ord_cons ?_ (ord_cons ?_ ord_nil))
      rotate_left 2
      all_goals
        refine wpOp_of_listL rfl ?_
        (first | ((with_reducible refine is_load ?_); (first | (refine own_ld (h := ?_)))) | ((with_reducible refine is_store ?_); (first | (refine own_stR (hO := hO) (h := ?_); clear hO; intro wv hO) | (refine own_st1 (hO := hO) (h := ?_); clear hO; intro wv hO))) | ((with_reducible refine is_load ?_); (refine own_ldW (hO := hO) (h := ?_))) | ((with_reducible refine is_store ?_); (refine own_stW (hO := hO) (h := ?_); clear hO; intro wv hO)) | ((refine wpList_step (fun K hK => ?_)); go_simp; (first | ((refine hK _ _ ?_); clear hK K)))); (try simp only [Act.put]); (try simp only [List.setIfInBounds_toArray, List.set_cons_zero, List.set_cons_succ])
        refine wpList_done (qk_intro ?_)
      refine wpAny_all (rs := [9]) (by kernel_rfl) (by simp) (ord_cons ?_ ord_nil)
      rotate_left 1
      refine wpAny_takePL 10 rfl (by kernel_rfl) (by kernel_rfl) (by kernel_rfl) (by rintro c d v a w ⟨h, _⟩; cases h) (by rfl) ?_
      (first | go_big_quiet_skip | (go_big_quiet_want; (go_big_quiet_op; (first | go_big_quiet_on | ((refine ⟨_, fun _ _ => rfl, ?_⟩); go_big_quiet_on))))); (refine wpQuiet_nil ?_); (try simp only [Act.put]); (try simp only [List.setIfInBounds_toArray, List.set_cons_zero, List.set_cons_succ])
      refine wpAny_all (rs := [7, 11]) (by kernel_rfl) (by simp) (ord_cons ?_ (ord_cons ?_ ord_nil))
      rotate_left 2
      refine wpAny_takePL 5 rfl (by kernel_rfl) (by kernel_rfl) (by kernel_rfl) (by rintro c d v a w ⟨h, _⟩; cases h) (by rfl) ?_
      (first | go_big_quiet_skip | (go_big_quiet_want; (go_big_quiet_op; (first | go_big_quiet_on | ((refine ⟨_, fun _ _ => rfl, ?_⟩); go_big_quiet_on))))); (refine wpQuiet_nil ?_); (try simp only [Act.put]); (try simp only [List.setIfInBounds_toArray, List.set_cons_zero, List.set_cons_succ])
      refine wpAny_all (rs := [9]) (by kernel_rfl) (by simp) (ord_cons ?_ ord_nil)
      rotate_left 1
      refine wpAny_all (rs := [4]) (by kernel_rfl) (by simp) (ord_cons ?_ ord_nil)
      rotate_left 1
      refine wpAny_takePL 5 rfl (by kernel_rfl) (by kernel_rfl) (by kernel_rfl) (by rintro c d v a w ⟨h, _⟩; cases h) (by rfl) ?_
      (first | go_big_quiet_skip | (go_big_quiet_want; (go_big_quiet_op; (first | go_big_quiet_on | ((refine ⟨_, fun _ _ => rfl, ?_⟩); go_big_quiet_on))))); (refine wpQuiet_nil ?_); (try simp only [Act.put]); (try simp only [List.setIfInBounds_toArray, List.set_cons_zero, List.set_cons_succ])
      refine wpAny_takePL 10 rfl (by kernel_rfl) (by kernel_rfl) (by kernel_rfl) (by rintro c d v a w ⟨h, _⟩; cases h) (by rfl) ?_
      (first | go_big_quiet_skip | (go_big_quiet_want; (go_big_quiet_op; (first | go_big_quiet_on | ((refine ⟨_, fun _ _ => rfl, ?_⟩); go_big_quiet_on))))); (refine wpQuiet_nil ?_); (try simp only [Act.put]); (try simp only [List.setIfInBounds_toArray, List.set_cons_zero, List.set_cons_succ])
      refine wpAny_all (rs := [7, 11]) (by kernel_rfl) (by simp) (ord_cons ?_ (ord_cons ?_ ord_nil))
      rotate_left 2
      refine wpAny_all (rs := [4]) (by kernel_rfl) (by simp) (ord_cons ?_ ord_nil)
      rotate_left 1
      all_goals
        refine wpOp_of_listL rfl ?_
        (first | ((with_reducible refine is_load ?_); (first | (refine own_ld (h := ?_)))) | ((with_reducible refine is_store ?_); (first | (refine own_stR (hO := hO) (h := ?_); clear hO; intro wv hO) | (refine own_st1 (hO := hO) (h := ?_); clear hO; intro wv hO))) | ((with_reducible refine is_load ?_); (refine own_ldW (hO := hO) (h := ?_))) | ((with_reducible refine is_store ?_); (refine own_stW (hO := hO) (h := ?_); clear hO; intro wv hO)) | ((refine wpList_step (fun K hK => ?_)); go_simp; (first | ((refine hK _ _ ?_); clear hK K)))); (try simp only [Act.put]); (try simp only [List.setIfInBounds_toArray, List.set_cons_zero, List.set_cons_succ])
        refine wpList_done (qk_intro ?_)
      refine wpAny_takePL 10 rfl (by kernel_rfl) (by kernel_rfl) (by kernel_rfl) (by rintro c d v a w ⟨h, _⟩; cases h) (by rfl) ?_
      (first | go_big_quiet_skip | (go_big_quiet_want; (go_big_quiet_op; (first | go_big_quiet_on | ((refine ⟨_, fun _ _ => rfl, ?_⟩); go_big_quiet_on))))); (refine wpQuiet_nil ?_); (try simp only [Act.put]); (try simp only [List.setIfInBounds_toArray, List.set_cons_zero, List.set_cons_succ])
      refine wpAny_all (rs := [11]) (by kernel_rfl) (by simp) (ord_cons ?_ ord_nil)
      rotate_left 1
      refine wpAny_all (rs := [11]) (by kernel_rfl) (by simp) (ord_cons ?_ ord_nil)
      rotate_left 1
      refine wpAny_all (rs := [7]) (by kernel_rfl) (by simp) (ord_cons ?_ ord_nil)
      rotate_left 1
      refine wpAny_takePL 10 rfl (by kernel_rfl) (by kernel_rfl) (by kernel_rfl) (by rintro c d v a w ⟨h, _⟩; cases h) (by rfl) ?_
      (first | go_big_quiet_skip | (go_big_quiet_want; (go_big_quiet_op; (first | go_big_quiet_on | ((refine ⟨_, fun _ _ => rfl, ?_⟩); go_big_quiet_on))))); (refine wpQuiet_nil ?_); (try simp only [Act.put]); (try simp only [List.setIfInBounds_toArray, List.set_cons_zero, List.set_cons_succ])
      refine wpAny_all (rs := [11]) (by kernel_rfl) (by simp) (ord_cons ?_ ord_nil)
      rotate_left 1
      refine wpAny_takePL 5 rfl (by kernel_rfl) (by kernel_rfl) (by kernel_rfl) (by rintro c d v a w ⟨h, _⟩; cases h) (by rfl) ?_
      (first | go_big_quiet_skip | (go_big_quiet_want; (go_big_quiet_op; (first | go_big_quiet_on | ((refine ⟨_, fun _ _ => rfl, ?_⟩); go_big_quiet_on))))); (refine wpQuiet_nil ?_); (try simp only [Act.put]); (try simp only [List.setIfInBounds_toArray, List.set_cons_zero, List.set_cons_succ])
      refine wpAny_takePL 10 rfl (by kernel_rfl) (by kernel_rfl) (by kernel_rfl) (by rintro c d v a w ⟨h, _⟩; cases h) (by rfl) ?_
      (first | go_big_quiet_skip | (go_big_quiet_want; (go_big_quiet_op; (first | go_big_quiet_on | ((refine ⟨_, fun _ _ => rfl, ?_⟩); go_big_quiet_on))))); (refine wpQuiet_nil ?_); (try simp only [Act.put]); (try simp only [List.setIfInBounds_toArray, List.set_cons_zero, List.set_cons_succ])
      refine wpAny_all (rs := [11]) (by kernel_rfl) (by simp) (ord_cons ?_ ord_nil)
      rotate_left 1
      refine wpAny_all (rs := [11]) (by kernel_rfl) (by simp) (ord_cons ?_ ord_nil)
      rotate_left 1
      refine wpAny_all (rs := [7]) (by kernel_rfl) (by simp) (ord_cons ?_ ord_nil)
      rotate_left 1
      refine wpAny_takePL 5 rfl (by kernel_rfl) (by kernel_rfl) (by kernel_rfl) (by rintro c d v a w ⟨h, _⟩; cases h) (by rfl) ?_
      (first | go_big_quiet_skip | (go_big_quiet_want; (go_big_quiet_op; (first | go_big_quiet_on | ((refine ⟨_, fun _ _ => rfl, ?_⟩); go_big_quiet_on))))); (refine wpQuiet_nil ?_); (try simp only [Act.put]); (try simp only [List.setIfInBounds_toArray, List.set_cons_zero, List.set_cons_succ])
      refine wpAny_takePL 10 rfl (by kernel_rfl) (by kernel_rfl) (by kernel_rfl) (by rintro c d v a w ⟨h, _⟩; cases h) (by rfl) ?_
      (first | go_big_quiet_skip | (go_big_quiet_want; (go_big_quiet_op; (first | go_big_quiet_on | ((refine ⟨_, fun _ _ => rfl, ?_⟩); go_big_quiet_on))))); (refine wpQuiet_nil ?_); (try simp only [Act.put]); (try simp only [List.setIfInBounds_toArray, List.set_cons_zero, List.set_cons_succ])
      refine wpAny_all (rs := [11]) (by kernel_rfl) (by simp) (ord_cons ?_ ord_nil)
      rotate_left 1
      all_goals
        refine wpOp_of_listL rfl ?_
        (first | ((with_reducible refine is_load ?_); (first | (refine own_ld (h := ?_)))) | ((with_reducible refine is_store ?_); (first | (refine own_stR (hO := hO) (h := ?_); clear hO; intro wv hO) | (refine own_st1 (hO := hO) (h := ?_); clear hO; intro wv hO))) | ((with_reducible refine is_load ?_); (refine own_ldW (hO := hO) (h := ?_))) | ((with_reducible refine is_store ?_); (refine own_stW (hO := hO) (h := ?_); clear hO; intro wv hO)) | ((refine wpList_step (fun K hK => ?_)); go_simp; (first | ((refine hK _ _ ?_); clear hK K)))); (try simp only [Act.put]); (try simp only [List.setIfInBounds_toArray, List.set_cons_zero, List.set_cons_succ])
        refine wpList_done (qk_intro ?_)
      refine wpAny_takePL 12 rfl (by kernel_rfl) (by kernel_rfl) (by kernel_rfl) (by rintro c d v a w ⟨h, _⟩; cases h) (by rfl) ?_
      (first | go_big_quiet_skip | (go_big_quiet_want; (go_big_quiet_op; (first | go_big_quiet_on | ((refine ⟨_, fun _ _ => rfl, ?_⟩); go_big_quiet_on))))); (refine wpQuiet_nil ?_); (try simp only [Act.put]); (try simp only [List.setIfInBounds_toArray, List.set_cons_zero, List.set_cons_succ])
      refine wpAny_all (rs := [13]) (by kernel_rfl) (by simp) (ord_cons ?_ ord_nil)
      rotate_left 1
      refine wpAny_takePL 12 rfl (by kernel_rfl) (by kernel_rfl) (by kernel_rfl) (by rintro c d v a w ⟨h, _⟩; cases h) (by rfl) ?_
      (first | go_big_quiet_skip | (go_big_quiet_want; (go_big_quiet_op; (first | go_big_quiet_on | ((refine ⟨_, fun _ _ => rfl, ?_⟩); go_big_quiet_on))))); (refine wpQuiet_nil ?_); (try simp only [Act.put]); (try simp only [List.setIfInBounds_toArray, List.set_cons_zero, List.set_cons_succ])
      refine wpAny_all (rs := [13]) (by kernel_rfl) (by simp) (ord_cons ?_ ord_nil)
      rotate_left 1
      refine wpAny_takePL 12 rfl (by kernel_rfl) (by kernel_rfl) (by kernel_rfl) (by rintro c d v a w ⟨h, _⟩; cases h) (by rfl) ?_
      (first | go_big_quiet_skip | (go_big_quiet_want; (go_big_quiet_op; (first | go_big_quiet_on | ((refine ⟨_, fun _ _ => rfl, ?_⟩); go_big_quiet_on))))); (refine wpQuiet_nil ?_); (try simp only [Act.put]); (try simp only [List.setIfInBounds_toArray, List.set_cons_zero, List.set_cons_succ])
      refine wpAny_all (rs := [13]) (by kernel_rfl) (by simp) (ord_cons ?_ ord_nil)
      rotate_left 1
      refine wpAny_takePL 12 rfl (by kernel_rfl) (by kernel_rfl) (by kernel_rfl) (by rintro c d v a w ⟨h, _⟩; cases h) (by rfl) ?_
      (first | go_big_quiet_skip | (go_big_quiet_want; (go_big_quiet_op; (first | go_big_quiet_on | ((refine ⟨_, fun _ _ => rfl, ?_⟩); go_big_quiet_on))))); (refine wpQuiet_nil ?_); (try simp only [Act.put]); (try simp only [List.setIfInBounds_toArray, List.set_cons_zero, List.set_cons_succ])
      refine wpAny_all (rs := [13]) (by kernel_rfl) (by simp) (ord_cons ?_ ord_nil)
      rotate_left 1
      refine wpAny_takePL 12 rfl (by kernel_rfl) (by kernel_rfl) (by kernel_rfl) (by rintro c d v a w ⟨h, _⟩; cases h) (by rfl) ?_
      (first | go_big_quiet_skip | (go_big_quiet_want; (go_big_quiet_op; (first | go_big_quiet_on | ((refine ⟨_, fun _ _ => rfl, ?_⟩); go_big_quiet_on))))); (refine wpQuiet_nil ?_); (try simp only [Act.put]); (try simp only [List.setIfInBounds_toArray, List.set_cons_zero, List.set_cons_succ])
      refine wpAny_all (rs := [13]) (by kernel_rfl) (by simp) (ord_cons ?_ ord_nil)
      rotate_left 1
      refine wpAny_takePL 12 rfl (by kernel_rfl) (by kernel_rfl) (by kernel_rfl) (by rintro c d v a w ⟨h, _⟩; cases h) (by rfl) ?_
      (first | go_big_quiet_skip | (go_big_quiet_want; (go_big_quiet_op; (first | go_big_quiet_on | ((refine ⟨_, fun _ _ => rfl, ?_⟩); go_big_quiet_on))))); (refine wpQuiet_nil ?_); (try simp only [Act.put]); (try simp only [List.setIfInBounds_toArray, List.set_cons_zero, List.set_cons_succ])
      refine wpAny_all (rs := [13]) (by kernel_rfl) (by simp) (ord_cons ?_ ord_nil)
      rotate_left 1
      refine wpAny_takePL 12 rfl (by kernel_rfl) (by kernel_rfl) (by kernel_rfl) (by rintro c d v a w ⟨h, _⟩; cases h) (by rfl) ?_
      (first | go_big_quiet_skip | (go_big_quiet_want; (go_big_quiet_op; (first | go_big_quiet_on | ((refine ⟨_, fun _ _ => rfl, ?_⟩); go_big_quiet_on))))); (refine wpQuiet_nil ?_); (try simp only [Act.put]); (try simp only [List.setIfInBounds_toArray, List.set_cons_zero, List.set_cons_succ])
      refine wpAny_all (rs := [13]) (by kernel_rfl) (by simp) (ord_cons ?_ ord_nil)
      rotate_left 1
      refine wpAny_takePL 12 rfl (by kernel_rfl) (by kernel_rfl) (by kernel_rfl) (by rintro c d v a w ⟨h, _⟩; cases h) (by rfl) ?_
      (first | go_big_quiet_skip | (go_big_quiet_want; (go_big_quiet_op; (first | go_big_quiet_on | ((refine ⟨_, fun _ _ => rfl, ?_⟩); go_big_quiet_on))))); (refine wpQuiet_nil ?_); (try simp only [Act.put]); (try simp only [List.setIfInBounds_toArray, List.set_cons_zero, List.set_cons_succ])
      refine wpAny_all (rs := [13]) (by kernel_rfl) (by simp) (ord_cons ?_ ord_nil)
      rotate_left 1
      all_goals
        refine wpOp_of_listL rfl ?_
        (first | ((with_reducible refine is_load ?_); (first | (refine own_ld (h := ?_)))) | ((with_reducible refine is_store ?_); (first | (refine own_stR (hO := hO) (h := ?_); clear hO; intro wv hO) | (refine own_st1 (hO := hO) (h := ?_); clear hO; intro wv hO))) | ((with_reducible refine is_load ?_); (refine own_ldW (hO := hO) (h := ?_))) | ((with_reducible refine is_store ?_); (refine own_stW (hO := hO) (h := ?_); clear hO; intro wv hO)) | ((refine wpList_step (fun K hK => ?_)); go_simp; (first | ((refine hK _ _ ?_); clear hK K)))); (try simp only [Act.put]); (try simp only [List.setIfInBounds_toArray, List.set_cons_zero, List.set_cons_succ])
        refine wpList_done (qk_intro ?_)
      exact wpAny_done (by kernel_rfl) ⟨rfl, rfl, hO⟩ _
      exact wpAny_done (by kernel_rfl) ⟨rfl, rfl, hO⟩ _
      exact wpAny_done (by kernel_rfl) ⟨rfl, rfl, hO⟩ _
      exact wpAny_done (by kernel_rfl) ⟨rfl, rfl, hO⟩ _
      exact wpAny_done (by kernel_rfl) ⟨rfl, rfl, hO⟩ _
      exact wpAny_done (by kernel_rfl) ⟨rfl, rfl, hO⟩ _
      exact wpAny_done (by kernel_rfl) ⟨rfl, rfl, hO⟩ _
      exact wpAny_done (by kernel_rfl) ⟨rfl, rfl, hO⟩ _
    clear hO
    intro wv hO
    clear hn0
    rw [HL1.out] at hO
    go_wp2_with (first | ((with_reducible refine is_load ?_); (first | (refine own_ldP hO (h := ?_)) | (refine own_ld (h := ?_)))) | ((with_reducible refine is_store ?_); (first | (refine own_stRp (hO := hO) (h := ?_); clear hO; intro wv hO) | (refine own_st1p (hO := hO) (h := ?_); clear hO; intro wv hO) | (refine own_stR (hO := hO) (h := ?_); clear hO; intro wv hO) | (refine own_st1 (hO := hO) (h := ?_); clear hO; intro wv hO))) | ((with_reducible refine is_box ?_); (first | (refine own_bx (o := ⟨some 1, _, _, _, _, _⟩) (hO := hO) (h := ?_); clear hO; intro n1 wv hO))) | ((with_reducible refine is_alloc ?_); (first | (refine own_al (o := ⟨some 4, _, _, _, _, _⟩) (hO := hO) (h := ?_); clear hO; intro n4 wv hO))) | ((with_reducible refine is_append ?_); (first | (refine own_ap (o := ⟨some 29, _, _, _, _, _⟩) (hO := hO) (h := ?_); clear hO; intro g29 c29 wv hO))) | (go_at_call 51; refine (h1 _ _ (by unfold OwnsB; rw [HN1.out]; exact hO.row _ List.mem_cons_self)).mono ?_; rintro e wv hw; obtain rfl := hw.1; have hw2 := hw.2.2; rw [HN1.out] at hw2; replace hO := hO.afterRow .here hw.2.1 hw2; clear hw hw2 h1) | (go_at_call 51; refine (h2 _ _ (by unfold OwnsB; rw [HN2.out]; exact hO.row _ List.mem_cons_self)).mono ?_; rintro e wv hw; obtain rfl := hw.1; have hw2 := hw.2.2; rw [HN2.out] at hw2; replace hO := hO.afterRow .here hw.2.1 hw2; clear hw hw2 h2) | (go_at_call 51; refine (h3 _ _ (by unfold OwnsB; rw [HN3.out]; exact hO.row _ List.mem_cons_self)).mono ?_; rintro e wv hw; obtain rfl := hw.1; have hw2 := hw.2.2; rw [HN3.out] at hw2; replace hO := hO.afterRow .here hw.2.1 hw2; clear hw hw2 h3) | (go_at_call 51; refine (h5 _ _ (by unfold OwnsB; rw [HN4.out]; exact hO.row _ List.mem_cons_self)).mono ?_; rintro e wv hw; obtain rfl := hw.1; have hw2 := hw.2.2; rw [HN4.out] at hw2; replace hO := hO.afterRow .here hw.2.1 hw2; clear hw hw2 h5) | (go_at_call 52; refine (h6 _ _ (by unfold OwnsB; rw [HN5.out]; exact hO.row _ List.mem_cons_self)).mono ?_; rintro e wv hw; obtain rfl := hw.1; have hw2 := hw.2.2; rw [HN5.out] at hw2; replace hO := hO.afterRow .here hw.2.1 hw2; clear hw hw2 h6) | (go_at_call 53; refine (hsum _ _ (by unfold OwnsB; rw [HN6.out]; exact hO.row _ List.mem_cons_self)).mono ?_; rintro e wv hw; obtain rfl := hw.1; have hw2 := hw.2.2; rw [HN6.out] at hw2; replace hO := hO.afterRow .here hw.2.1 hw2; clear hw hw2 hsum) | ((with_reducible refine is_load ?_); (refine own_ldW (hO := hO) (h := ?_))) | ((with_reducible refine is_store ?_); (refine own_stW (hO := hO) (h := ?_); clear hO; intro wv hO)))
    go_ret2
    exact ⟨_, rfl, by rw [HN7.out]; exact hO.newRow List.mem_cons_self, hO.keep.below⟩
  · have hEL : encLen 1 = 28 := rfl
    have hSA : sumAtF 1 = 22 := rfl
    cases hd8 : dp == 8
    · have hEM : encM ⟨⟨s, d, 1, sp, dp⟩, t, f, pl⟩ = portsF (p32 (p32 (encHd ⟨⟨s, d, 1, sp, dp⟩, t, f, pl⟩) 12 s) 16 d) ⟨s, d, 1, sp, dp⟩ := by
        rw [encM_ref]; unfold kindF; dsimp only; rw [if_neg (by decide), if_neg (by decide), if_pos b11, hd8]; rfl
      have hEH : encHd ⟨⟨s, d, 1, sp, dp⟩, t, f, pl⟩ = p16 ((((List.replicate 28 0 ++ pl).set 0 69).set 8 t).set 9 1) 2 ((28 : Int) + pl.length) := by
        show p16 ((((List.replicate (encLen 1) 0 ++ pl).set 0 69).set 8 t).set 9 1) 2 ((encLen 1 : Int) + pl.length) = _
        rw [hEL]; rfl
      replace hsum := hsum (by rw [hSA, hEL]; omega)
      rw [hEM] at hsum hnM ⊢
      rw [hEH] at hsum hnM ⊢
      rw [hEL] at hsz
      dsimp only at hnM
      rw [hEL] at hnM
      have HZ := Lib.hid (bc_zero 28)
      have hZl : (List.replicate 28 (0 : Int)).length = 28 := List.length_replicate
      clear hEM hEH
      generalize List.replicate 28 (0 : Int) = Z at *
      obtain ⟨N, hN⟩ : ∃ N, 28 + pl.length = N := ⟨_, rfl⟩
      have hNi : (28 : Int) + pl.length = (N : Int) := by omega
      rw [hNi] at hsum hnM ⊢
      rw [hN] at hnM
      have hn0 : (Z ++ pl).length = N := by rw [List.length_append, hZl, hN]
      clear ho hNi hZl hEL hSA
      generalize hL0 : Z ++ pl = L0 at *
      have hn1 : (((L0.set 0 69).set 8 t).set 9 1).length = N := by simp [hn0]
      generalize hL1 : ((L0.set 0 69).set 8 t).set 9 1 = L1 at *
      have h1 := fun v w hw => set2_any (v := v) (l := L1) 2 (N : Int) w hw (by omega) (by omega) (by omega) (by omega)
      have hn2 : (p16 L1 2 (N : Int)).length = N := by rw [p16_length, hn1]
      generalize hL2 : p16 L1 2 (N : Int) = L2 at *
      have h2 := fun v w hw => set4_any (v := v) (l := L2) 12 s w hw (by omega) (by omega) (by omega) (by omega)
      have hn3 : (p32 L2 12 s).length = N := by rw [p32_length, hn2]
      generalize hL3 : p32 L2 12 s = L3 at *
      have h3 := fun v w hw => set4_any (v := v) (l := L3) 16 d w hw (by omega) (by omega) (by omega) (by omega)
      have hn4 : (p32 L3 16 d).length = N := by rw [p32_length, hn3]
      generalize hL4 : p32 L3 16 d = L4 at *
      have HN0 := Lib.hid hn0
      have HN1 := Lib.hid hn1
      have HN2 := Lib.hid hn2
      have HN3 := Lib.hid hn3
      have HN4 := Lib.hid hn4
      have HL0 := Lib.hid hL0
      have HL1 := Lib.hid hL1
      clear hn0 hn1 hn2 hn3 hL0 hL1 hL2 hL3 hL4
      have h6 := fun v w hw => ports_any (v := v) (l := L4) ⟨s, d, 1, sp, dp⟩ w hw (by omega) (by omega) k.h (fun _ => by omega)
      generalize hL6 : portsF L4 ⟨s, d, 1, sp, dp⟩ = L6 at *
      have HN6 := Lib.hid hnM
      clear hnM hL6
      generalize hL7 : sumsF L6 = L7 at *
      have HN7 := Lib.hid (show L7.length = N by rw [← hL7, sumsF_length, HN6.out])
      clear hL7
      clear hn4
      go_enter Tryd.func27, Tryd.ntmps27
      go_wp2_with (first | ((with_reducible refine is_load ?_); (first | (refine own_ldP hO (h := ?_)) | (refine own_ld (h := ?_)))) | ((with_reducible refine is_store ?_); (first | (refine own_stRp (hO := hO) (h := ?_); clear hO; intro wv hO) | (refine own_st1p (hO := hO) (h := ?_); clear hO; intro wv hO) | (refine own_stR (hO := hO) (h := ?_); clear hO; intro wv hO) | (refine own_st1 (hO := hO) (h := ?_); clear hO; intro wv hO))) | ((with_reducible refine is_box ?_); (first | (refine own_bx (o := ⟨some 1, _, _, _, _, _⟩) (hO := hO) (h := ?_); clear hO; intro n1 wv hO))) | ((with_reducible refine is_alloc ?_); (first | (refine own_al (o := ⟨some 4, _, _, _, _, _⟩) (hO := hO) (h := ?_); clear hO; intro n4 wv hO))) | ((with_reducible refine is_append ?_); (first | (refine own_ap (o := ⟨some 29, _, _, _, _, _⟩) (hO := hO) (h := ?_); clear hO; intro g29 c29 wv hO))) | (go_at_call 50; refine (hcod _).mono ?_; rintro e wv ⟨rfl, hb⟩; replace hO := hO.call hb; clear hb) | ((with_reducible refine is_load ?_); (refine own_ldW (hO := hO) (h := ?_))) | ((with_reducible refine is_store ?_); (refine own_stW (hO := hO) (h := ?_); clear hO; intro wv hO)))
      (try simp only [Act.put]); (try simp only [List.setIfInBounds_toArray, List.set_cons_zero, List.set_cons_succ]); (refine own_loose 4 [(26, IsMk w.heap.size [⟨n4, [.int .u32 s, .int .u32 d, .int .u8 1, .int .u16 sp, .int .u16 dp], 26⟩, ⟨n1, pcs ⟨s, d, 1, sp, dp⟩ t f (.slice a pl.length c), 43⟩] [] (roC (.slice a pl.length c) (bc pl)) 28 28 (bc Z) 5)] hO (by kernel_rfl) (by kernel_rfl) (by rfl) (by repeat (first | exact Split.zero _ | apply Split.succ)) ?_ ?_); (focus (repeat (first | exact lasts_nil | (refine lasts_cons (fun v w w' _ _ hk h => ?_) ?_; focus (first | exact h | exact h.keep hk | (obtain ⟨h1, h2⟩ := h; exact ⟨h1, h2.keep hk⟩)))))); clear hO; (repeat (first | (refine loose_plain (by (intro _ hd; cases hd; rfl)) (by rfl) (fun _ h => h) ?_; (first | go_big_quiet_skip | (go_big_quiet_want; (first | ((with_reducible refine is_loadQ ?_); (first | (refine q_ld (h := ?_))); (try simp only [Act.put]); (try simp only [List.setIfInBounds_toArray, List.set_cons_zero, List.set_cons_succ]); go_big_quiet_on) | (go_big_quiet_op; (first | go_big_quiet_on | ((refine ⟨_, fun _ _ => rfl, ?_⟩); go_big_quiet_on)))))); refine wpQuiet_nil ?_; (try simp only [Act.put]); (try simp only [List.setIfInBounds_toArray, List.set_cons_zero, List.set_cons_succ])) | (refine loose_fact (by rfl) rfl (by rfl) ?_ ?_ (Nat.le_of_ble_eq_true rfl); (focus (intro w1 hO hF; (first | (exact loose_make hO rfl slice_u8 zero_u8 rfl rfl (n := 28) (c := 28) (by rfl) (by rfl) (by omega) (by omega) HZ.out) | (go_simp; (first | fail))))); (intro u w1 hO hu; (try subst hu); (try simp only [Act.put]); (try simp only [List.setIfInBounds_toArray, List.set_cons_zero, List.set_cons_succ]))) | (refine loose_skip (by rfl) ?_; (try simp only [Act.put]); (try simp only [List.setIfInBounds_toArray, List.set_cons_zero, List.set_cons_succ])))); (refine wpLoose_nil ?_); intro wv hI; have hO := hI.1; (try refine wpList_done ?_)
      obtain ⟨g26, hg26, hO⟩ := own_isMk hO (hI.2 26 (by simp [insF]) _ rfl)
      cases hg26
      clear hI
      go_wp2_with (first | ((with_reducible refine is_load ?_); (first | (refine own_ldP hO (h := ?_)) | (refine own_ld (h := ?_)))) | ((with_reducible refine is_store ?_); (first | (refine own_stRp (hO := hO) (h := ?_); clear hO; intro wv hO) | (refine own_st1p (hO := hO) (h := ?_); clear hO; intro wv hO) | (refine own_stR (hO := hO) (h := ?_); clear hO; intro wv hO) | (refine own_st1 (hO := hO) (h := ?_); clear hO; intro wv hO))) | ((with_reducible refine is_box ?_); (first | (refine own_bx (o := ⟨some 1, _, _, _, _, _⟩) (hO := hO) (h := ?_); clear hO; intro n1 wv hO))) | ((with_reducible refine is_alloc ?_); (first | (refine own_al (o := ⟨some 4, _, _, _, _, _⟩) (hO := hO) (h := ?_); clear hO; intro n4 wv hO))) | ((with_reducible refine is_append ?_); (first | (refine own_ap (o := ⟨some 29, _, _, _, _, _⟩) (hO := hO) (h := ?_); clear hO; intro g29 c29 wv hO))) | ((with_reducible refine is_append ?_); (refine own_appendP (o := ⟨some 29, _, _, _, _, _⟩) hO rfl rfl slice_u8 rfl rfl (src_of_cells (IsCells.below hv hO.keep.below) (by simp [bc_length]; try omega)) (bc_one _) (fun _ => by repeat (first | exact UpdR.here | apply UpdR.there)) (by first | omega | (simp; omega)) (by unfold maxLen; first | omega | (simp; omega)) (by first | omega | (simp; done) | (simp; omega)) ?_); clear hO; intro g29 c29 wv hO) | ((with_reducible refine is_load ?_); (refine own_ldW (hO := hO) (h := ?_))) | ((with_reducible refine is_store ?_); (refine own_stW (hO := hO) (h := ?_); clear hO; intro wv hO)))
      rw [← bc_append, hN, HL0.out] at hO
      have hn0 := HN0.out
      apply wp_via
      case h =>
        refine wp_region_any (by kernel_rfl) ?_
        replace hO := hO.drew
        refine wpAny_takePL 0 rfl (by kernel_rfl) (by kernel_rfl) (by kernel_rfl) (by rintro c d v a w ⟨h, _⟩; cases h) (by rfl) ?_
        (first | go_big_quiet_skip | (go_big_quiet_want; (go_big_quiet_op; (first | go_big_quiet_on | ((refine ⟨_, fun _ _ => rfl, ?_⟩); go_big_quiet_on))))); (refine wpQuiet_nil ?_); (try simp only [Act.put]); (try simp only [List.setIfInBounds_toArray, List.set_cons_zero, List.set_cons_succ])
        refine wpAny_takePL 1 rfl (by kernel_rfl) (by kernel_rfl) (by kernel_rfl) (by rintro c d v a w ⟨h, _⟩; cases h) (by rfl) ?_
        (first | go_big_quiet_skip | (go_big_quiet_want; (go_big_quiet_op; (first | go_big_quiet_on | ((refine ⟨_, fun _ _ => rfl, ?_⟩); go_big_quiet_on))))); (refine wpQuiet_nil ?_); (try simp only [Act.put]); (try simp only [List.setIfInBounds_toArray, List.set_cons_zero, List.set_cons_succ])
        refine wpAny_takePL 2 rfl (by kernel_rfl) (by kernel_rfl) (by kernel_rfl) (by rintro c d v a w ⟨h, _⟩; cases h) (by rfl) ?_
        (first | go_big_quiet_skip | (go_big_quiet_want; (go_big_quiet_op; (first | go_big_quiet_on | ((refine ⟨_, fun _ _ => rfl, ?_⟩); go_big_quiet_on))))); (refine wpQuiet_nil ?_); (try simp only [Act.put]); (try simp only [List.setIfInBounds_toArray, List.set_cons_zero, List.set_cons_succ])
        refine wpAny_takePL 3 rfl (by kernel_rfl) (by kernel_rfl) (by kernel_rfl) (by rintro c d v a w ⟨h, _⟩; cases h) (by rfl) ?_
        (first | go_big_quiet_skip | (go_big_quiet_want; (go_big_quiet_op; (first | go_big_quiet_on | ((refine ⟨_, fun _ _ => rfl, ?_⟩); go_big_quiet_on))))); (refine wpQuiet_nil ?_); (try simp only [Act.put]); (try simp only [List.setIfInBounds_toArray, List.set_cons_zero, List.set_cons_succ])
        refine wpAny_takePL 6 rfl (by kernel_rfl) (by kernel_rfl) (by kernel_rfl) (by rintro c d v a w ⟨h, _⟩; cases h) (by rfl) ?_
        (first | go_big_quiet_skip | (go_big_quiet_want; (go_big_quiet_op; (first | go_big_quiet_on | ((refine ⟨_, fun _ _ => rfl, ?_⟩); go_big_quiet_on))))); (refine wpQuiet_nil ?_); (try simp only [Act.put]); (try simp only [List.setIfInBounds_toArray, List.set_cons_zero, List.set_cons_succ])
        refine wpAny_takePL 8 rfl (by kernel_rfl) (by kernel_rfl) (by kernel_rfl) (by rintro c d v a w ⟨h, _⟩; cases h) (by rfl) ?_
        (first | go_big_quiet_skip | (go_big_quiet_want; (go_big_quiet_op; (first | go_big_quiet_on | ((refine ⟨_, fun _ _ => rfl, ?_⟩); go_big_quiet_on))))); (refine wpQuiet_nil ?_); (try simp only [Act.put]); (try simp only [List.setIfInBounds_toArray, List.set_cons_zero, List.set_cons_succ])
        refine wpAny_all (rs := [4, 7, 9]) (by kernel_rfl) (by simp) (ord_cons ?_ (ord_cons ?_ (ord_cons ?_ ord_nil)))
        rotate_left 3
        all_goals
          refine wpOp_of_listL rfl ?_
          (first | ((with_reducible refine is_load ?_); (first | (refine own_ld (h := ?_)))) | ((with_reducible refine is_store ?_); (first | (refine own_stR (hO := hO) (h := ?_); clear hO; intro wv hO) | (refine own_st1 (hO := hO) (h := ?_); clear hO; intro wv hO))) | ((with_reducible refine is_load ?_); (refine own_ldW (hO := hO) (h := ?_))) | ((with_reducible refine is_store ?_); (refine own_stW (hO := hO) (h := ?_); clear hO; intro wv hO)) | ((refine wpList_step (fun K hK => ?_)); go_simp; (first | ((refine hK _ _ ?_); clear hK K)))); (try simp only [Act.put]); (try simp only [List.setIfInBounds_toArray, List.set_cons_zero, List.set_cons_succ])
          refine wpList_done (qk_intro ?_)
        refine wpAny_takePL 5 rfl (by kernel_rfl) (by kernel_rfl) (by kernel_rfl) (by rintro c d v a w ⟨h, _⟩; cases h) (by rfl) ?_
        (first | go_big_quiet_skip | (go_big_quiet_want; (go_big_quiet_op; (first | go_big_quiet_on | ((refine ⟨_, fun _ _ => rfl, ?_⟩); go_big_quiet_on))))); (refine wpQuiet_nil ?_); (try simp only [Act.put]); (try simp only [List.setIfInBounds_toArray, List.set_cons_zero, List.set_cons_succ])
        refine wpAny_all (rs := [7, 9]) (by kernel_rfl) (by simp) (ord_cons ?_ (ord_cons ?_ ord_nil))
        rotate_left 2
        refine wpAny_all (rs := [4, 9]) (by kernel_rfl) (by simp) (ord_cons ?_ (ord_cons ?_ ord_nil))
        rotate_left 2
        refine wpAny_all (rs := [4, 7]) (by kernel_rfl) (by simp) (ord_cons ?_ (ord_cons ?_ ord_nil))
        rotate_left 2
        all_goals
          refine wpOp_of_listL rfl ?_
          (first | ((with_reducible refine is_load ?_); (first | (refine own_ld (h := ?_)))) | ((with_reducible refine is_store ?_); (first | (refine own_stR (hO := hO) (h := ?_); clear hO; intro wv hO) | (refine own_st1 (hO := hO) (h := ?_); clear hO; intro wv hO))) | ((with_reducible refine is_load ?_); (refine own_ldW (hO := hO) (h := ?_))) | ((with_reducible refine is_store ?_); (refine own_stW (hO := hO) (h := ?_); clear hO; intro wv hO)) | ((refine wpList_step (fun K hK => ?_)); go_simp; (first | ((refine hK _ _ ?_); clear hK K)))); (try simp only [Act.put]); (try simp only [List.setIfInBounds_toArray, List.set_cons_zero, List.set_cons_succ])
          refine wpList_done (qk_intro ?_)
        refine wpAny_all (rs := [9]) (by kernel_rfl) (by simp) (ord_cons ?_ ord_nil)
        rotate_left 1
        refine wpAny_takePL 10 rfl (by kernel_rfl) (by kernel_rfl) (by kernel_rfl) (by rintro c d v a w ⟨h, _⟩; cases h) (by rfl) ?_
        (first | go_big_quiet_skip | (go_big_quiet_want; (go_big_quiet_op; (first | go_big_quiet_on | ((refine ⟨_, fun _ _ => rfl, ?_⟩); go_big_quiet_on))))); (refine wpQuiet_nil ?_); (try simp only [Act.put]); (try simp only [List.setIfInBounds_toArray, List.set_cons_zero, List.set_cons_succ])
        refine wpAny_all (rs := [7, 11]) (by kernel_rfl) (by simp) (ord_cons ?_ (ord_cons ?_ ord_nil))
        rotate_left 2
        refine wpAny_takePL 5 rfl (by kernel_rfl) (by kernel_rfl) (by kernel_rfl) (by rintro c d v a w ⟨h, _⟩; cases h) (by rfl) ?_
        (first | go_big_quiet_skip | (go_big_quiet_want; (go_big_quiet_op; (first | go_big_quiet_on | ((refine ⟨_, fun _ _ => rfl, ?_⟩); go_big_quiet_on))))); (refine wpQuiet_nil ?_); (try simp only [Act.put]); (try simp only [List.setIfInBounds_toArray, List.set_cons_zero, List.set_cons_succ])
        refine wpAny_all (rs := [9]) (by kernel_rfl) (by simp) (ord_cons ?_ ord_nil)
        rotate_left 1
        refine wpAny_all (rs := [4]) (by kernel_rfl) (by simp) (ord_cons ?_ ord_nil)
        rotate_left 1
        refine wpAny_takePL 5 rfl (by kernel_rfl) (by kernel_rfl) (by kernel_rfl) (by rintro c d v a w ⟨h, _⟩; cases h) (by rfl) ?_
        (first | go_big_quiet_skip | (go_big_quiet_want; (go_big_quiet_op; (first | go_big_quiet_on | ((refine ⟨_, fun _ _ => rfl, ?_⟩); go_big_quiet_on))))); (refine wpQuiet_nil ?_); (try simp only [Act.put]); (try simp only [List.setIfInBounds_toArray, List.set_cons_zero, List.set_cons_succ])
        refine wpAny_takePL 10 rfl (by kernel_rfl) (by kernel_rfl) (by kernel_rfl) (by rintro c d v a w ⟨h, _⟩; cases h) (by rfl) ?_
        (first | go_big_quiet_skip | (go_big_quiet_want; (go_big_quiet_op; (first | go_big_quiet_on | ((refine ⟨_, fun _ _ => rfl, ?_⟩); go_big_quiet_on))))); (refine wpQuiet_nil ?_); (try simp only [Act.put]); (try simp only [List.setIfInBounds_toArray, List.set_cons_zero, List.set_cons_succ])
        refine wpAny_all (rs := [7, 11]) (by kernel_rfl) (by simp) (ord_cons ?_ (ord_cons ?_ ord_nil))
        rotate_left 2
        refine wpAny_all (rs := [4]) (by kernel_rfl) (by simp) (ord_cons ?_ ord_nil)
        rotate_left 1
        all_goals
          refine wpOp_of_listL rfl ?_
          (first | ((with_reducible refine is_load ?_); (first | (refine own_ld (h := ?_)))) | ((with_reducible refine is_store ?_); (first | (refine own_stR (hO := hO) (h := ?_); clear hO; intro wv hO) | (refine own_st1 (hO := hO) (h := ?_); clear hO; intro wv hO))) | ((with_reducible refine is_load ?_); (refine own_ldW (hO := hO) (h := ?_))) | ((with_reducible refine is_store ?_); (refine own_stW (hO := hO) (h := ?_); clear hO; intro wv hO)) | ((refine wpList_step (fun K hK => ?_)); go_simp; (first | ((refine hK _ _ ?_); clear hK K)))); (try simp only [Act.put]); (try simp only [List.setIfInBounds_toArray, List.set_cons_zero, List.set_cons_succ])
          refine wpList_done (qk_intro ?_)
        refine wpAny_takePL 10 rfl (by kernel_rfl) (by kernel_rfl) (by kernel_rfl) (by rintro c d v a w ⟨h, _⟩; cases h) (by rfl) ?_
        (first | go_big_quiet_skip | (go_big_quiet_want; (go_big_quiet_op; (first | go_big_quiet_on | ((refine ⟨_, fun _ _ => rfl, ?_⟩); go_big_quiet_on))))); (refine wpQuiet_nil ?_); (try simp only [Act.put]); (try simp only [List.setIfInBounds_toArray, List.set_cons_zero, List.set_cons_succ])
        refine wpAny_all (rs := [11]) (by kernel_rfl) (by simp) (ord_cons ?_ ord_nil)
        rotate_left 1
        refine wpAny_all (rs := [11]) (by kernel_rfl) (by simp) (ord_cons ?_ ord_nil)
        rotate_left 1
        refine wpAny_all (rs := [7]) (by kernel_rfl) (by simp) (ord_cons ?_ ord_nil)
        rotate_left 1
        refine wpAny_takePL 10 rfl (by kernel_rfl) (by kernel_rfl) (by kernel_rfl) (by rintro c d v a w ⟨h, _⟩; cases h) (by rfl) ?_
        (first | go_big_quiet_skip | (go_big_quiet_want; (go_big_quiet_op; (first | go_big_quiet_on | ((refine ⟨_, fun _ _ => rfl, ?_⟩); go_big_quiet_on))))); (refine wpQuiet_nil ?_); (try simp only [Act.put]); (try simp only [List.setIfInBounds_toArray, List.set_cons_zero, List.set_cons_succ])
        refine wpAny_all (rs := [11]) (by kernel_rfl) (by simp) (ord_cons ?_ ord_nil)
        rotate_left 1
        refine wpAny_takePL 5 rfl (by kernel_rfl) (by kernel_rfl) (by kernel_rfl) (by rintro c d v a w ⟨h, _⟩; cases h) (by rfl) ?_
        (first | go_big_quiet_skip | (go_big_quiet_want; (go_big_quiet_op; (first | go_big_quiet_on | ((refine ⟨_, fun _ _ => rfl, ?_⟩); go_big_quiet_on))))); (refine wpQuiet_nil ?_); (try simp only [Act.put]); (try simp only [List.setIfInBounds_toArray, List.set_cons_zero, List.set_cons_succ])
        refine wpAny_takePL 10 rfl (by kernel_rfl) (by kernel_rfl) (by kernel_rfl) (by rintro c d v a w ⟨h, _⟩; cases h) (by rfl) ?_
        (first | go_big_quiet_skip | (go_big_quiet_want; (go_big_quiet_op; (first | go_big_quiet_on | ((refine ⟨_, fun _ _ => rfl, ?_⟩); go_big_quiet_on))))); (refine wpQuiet_nil ?_); (try simp only [Act.put]); (try simp only [List.setIfInBounds_toArray, List.set_cons_zero, List.set_cons_succ])
        refine wpAny_all (rs := [11]) (by kernel_rfl) (by simp) (ord_cons ?_ ord_nil)
        rotate_left 1
        refine wpAny_all (rs := [11]) (by kernel_rfl) (by simp) (ord_cons ?_ ord_nil)
        rotate_left 1
        refine wpAny_all (rs := [7]) (by kernel_rfl) (by simp) (ord_cons ?_ ord_nil)
        rotate_left 1
        refine wpAny_takePL 5 rfl (by kernel_rfl) (by kernel_rfl) (by kernel_rfl) (by rintro c d v a w ⟨h, _⟩; cases h) (by rfl) ?_
        (first | go_big_quiet_skip | (go_big_quiet_want; (go_big_quiet_op; (first | go_big_quiet_on | ((refine ⟨_, fun _ _ => rfl, ?_⟩); go_big_quiet_on))))); (refine wpQuiet_nil ?_); (try simp only [Act.put]); (try simp only [List.setIfInBounds_toArray, List.set_cons_zero, List.set_cons_succ])
        refine wpAny_takePL 10 rfl (by kernel_rfl) (by kernel_rfl) (by kernel_rfl) (by rintro c d v a w ⟨h, _⟩; cases h) (by rfl) ?_
        (first | go_big_quiet_skip | (go_big_quiet_want; (go_big_quiet_op; (first | go_big_quiet_on | ((refine ⟨_, fun _ _ => rfl, ?_⟩); go_big_quiet_on))))); (refine wpQuiet_nil ?_); (try simp only [Act.put]); (try simp only [List.setIfInBounds_toArray, List.set_cons_zero, List.set_cons_succ])
        refine wpAny_all (rs := [11]) (by kernel_rfl) (by simp) (ord_cons ?_ ord_nil)
        rotate_left 1
        all_goals
          refine wpOp_of_listL rfl ?_
          (first | ((with_reducible refine is_load ?_); (first | (refine own_ld (h := ?_)))) | ((with_reducible refine is_store ?_); (first | (refine own_stR (hO := hO) (h := ?_); clear hO; intro wv hO) | (refine own_st1 (hO := hO) (h := ?_); clear hO; intro wv hO))) | ((with_reducible refine is_load ?_); (refine own_ldW (hO := hO) (h := ?_))) | ((with_reducible refine is_store ?_); (refine own_stW (hO := hO) (h := ?_); clear hO; intro wv hO)) | ((refine wpList_step (fun K hK => ?_)); go_simp; (first | ((refine hK _ _ ?_); clear hK K)))); (try simp only [Act.put]); (try simp only [List.setIfInBounds_toArray, List.set_cons_zero, List.set_cons_succ])
          refine wpList_done (qk_intro ?_)
        refine wpAny_takePL 12 rfl (by kernel_rfl) (by kernel_rfl) (by kernel_rfl) (by rintro c d v a w ⟨h, _⟩; cases h) (by rfl) ?_
        (first | go_big_quiet_skip | (go_big_quiet_want; (go_big_quiet_op; (first | go_big_quiet_on | ((refine ⟨_, fun _ _ => rfl, ?_⟩); go_big_quiet_on))))); (refine wpQuiet_nil ?_); (try simp only [Act.put]); (try simp only [List.setIfInBounds_toArray, List.set_cons_zero, List.set_cons_succ])
        refine wpAny_all (rs := [13]) (by kernel_rfl) (by simp) (ord_cons ?_ ord_nil)
        rotate_left 1
        refine wpAny_takePL 12 rfl (by kernel_rfl) (by kernel_rfl) (by kernel_rfl) (by rintro c d v a w ⟨h, _⟩; cases h) (by rfl) ?_
        (first | go_big_quiet_skip | (go_big_quiet_want; (go_big_quiet_op; (first | go_big_quiet_on | ((refine ⟨_, fun _ _ => rfl, ?_⟩); go_big_quiet_on))))); (refine wpQuiet_nil ?_); (try simp only [Act.put]); (try simp only [List.setIfInBounds_toArray, List.set_cons_zero, List.set_cons_succ])
        refine wpAny_all (rs := [13]) (by kernel_rfl) (by simp) (ord_cons ?_ ord_nil)
        rotate_left 1
        refine wpAny_takePL 12 rfl (by kernel_rfl) (by kernel_rfl) (by kernel_rfl) (by rintro c d v a w ⟨h, _⟩; cases h) (by rfl) ?_
        (first | go_big_quiet_skip | (go_big_quiet_want; (go_big_quiet_op; (first | go_big_quiet_on | ((refine ⟨_, fun _ _ => rfl, ?_⟩); go_big_quiet_on))))); (refine wpQuiet_nil ?_); (try simp only [Act.put]); (try simp only [List.setIfInBounds_toArray, List.set_cons_zero, List.set_cons_succ])
        refine wpAny_all (rs := [13]) (by kernel_rfl) (by simp) (ord_cons ?_ ord_nil)
        rotate_left 1
        refine wpAny_takePL 12 rfl (by kernel_rfl) (by kernel_rfl) (by kernel_rfl) (by rintro c d v a w ⟨h, _⟩; cases h) (by rfl) ?_
        (first | go_big_quiet_skip | (go_big_quiet_want; (go_big_quiet_op; (first | go_big_quiet_on | ((refine ⟨_, fun _ _ => rfl, ?_⟩); go_big_quiet_on))))); (refine wpQuiet_nil ?_); (try simp only [Act.put]); (try simp only [List.setIfInBounds_toArray, List.set_cons_zero, List.set_cons_succ])
        refine wpAny_all (rs := [13]) (by kernel_rfl) (by simp) (ord_cons ?_ ord_nil)
        rotate_left 1
        refine wpAny_takePL 12 rfl (by kernel_rfl) (by kernel_rfl) (by kernel_rfl) (by rintro c d v a w ⟨h, _⟩; cases h) (by rfl) ?_
        (first | go_big_quiet_skip | (go_big_quiet_want; (go_big_quiet_op; (first | go_big_quiet_on | ((refine ⟨_, fun _ _ => rfl, ?_⟩); go_big_quiet_on))))); (refine wpQuiet_nil ?_); (try simp only [Act.put]); (try simp only [List.setIfInBounds_toArray, List.set_cons_zero, List.set_cons_succ])
        refine wpAny_all (rs := [13]) (by kernel_rfl) (by simp) (ord_cons ?_ ord_nil)
        rotate_left 1
        refine wpAny_takePL 12 rfl (by kernel_rfl) (by kernel_rfl) (by kernel_rfl) (by rintro c d v a w ⟨h, _⟩; cases h) (by rfl) ?_
        (first | go_big_quiet_skip | (go_big_quiet_want; (go_big_quiet_op; (first | go_big_quiet_on | ((refine ⟨_, fun _ _ => rfl, ?_⟩); go_big_quiet_on))))); (refine wpQuiet_nil ?_); (try simp only [Act.put]); (try simp only [List.setIfInBounds_toArray, List.set_cons_zero, List.set_cons_succ])
        refine wpAny_all (rs := [13]) (by kernel_rfl) (by simp) (ord_cons ?_ ord_nil)
        rotate_left 1
        refine wpAny_takePL 12 rfl (by kernel_rfl) (by kernel_rfl) (by kernel_rfl) (by rintro c d v a w ⟨h, _⟩; cases h) (by rfl) ?_
        (first | go_big_quiet_skip | (go_big_quiet_want; (go_big_quiet_op; (first | go_big_quiet_on | ((refine ⟨_, fun _ _ => rfl, ?_⟩); go_big_quiet_on))))); (refine wpQuiet_nil ?_); (try simp only [Act.put]); (try simp only [List.setIfInBounds_toArray, List.set_cons_zero, List.set_cons_succ])
        refine wpAny_all (rs := [13]) (by kernel_rfl) (by simp) (ord_cons ?_ ord_nil)
        rotate_left 1
        refine wpAny_takePL 12 rfl (by kernel_rfl) (by kernel_rfl) (by kernel_rfl) (by rintro c d v a w ⟨h, _⟩; cases h) (by rfl) ?_
        (first | go_big_quiet_skip | (go_big_quiet_want; (go_big_quiet_op; (first | go_big_quiet_on | ((refine ⟨_, fun _ _ => rfl, ?_⟩); go_big_quiet_on))))); (refine wpQuiet_nil ?_); (try simp only [Act.put]); (try simp only [List.setIfInBounds_toArray, List.set_cons_zero, List.set_cons_succ])
        refine wpAny_all (rs := [13]) (by kernel_rfl) (by simp) (ord_cons ?_ ord_nil)
        rotate_left 1
        all_goals
          refine wpOp_of_listL rfl ?_
          (first | ((with_reducible refine is_load ?_); (first | (refine own_ld (h := ?_)))) | ((with_reducible refine is_store ?_); (first | (refine own_stR (hO := hO) (h := ?_); clear hO; intro wv hO) | (refine own_st1 (hO := hO) (h := ?_); clear hO; intro wv hO))) | ((with_reducible refine is_load ?_); (refine own_ldW (hO := hO) (h := ?_))) | ((with_reducible refine is_store ?_); (refine own_stW (hO := hO) (h := ?_); clear hO; intro wv hO)) | ((refine wpList_step (fun K hK => ?_)); go_simp; (first | ((refine hK _ _ ?_); clear hK K)))); (try simp only [Act.put]); (try simp only [List.setIfInBounds_toArray, List.set_cons_zero, List.set_cons_succ])
          refine wpList_done (qk_intro ?_)
        exact wpAny_done (by kernel_rfl) ⟨rfl, rfl, hO⟩ _
        exact wpAny_done (by kernel_rfl) ⟨rfl, rfl, hO⟩ _
        exact wpAny_done (by kernel_rfl) ⟨rfl, rfl, hO⟩ _
        exact wpAny_done (by kernel_rfl) ⟨rfl, rfl, hO⟩ _
        exact wpAny_done (by kernel_rfl) ⟨rfl, rfl, hO⟩ _
        exact wpAny_done (by kernel_rfl) ⟨rfl, rfl, hO⟩ _
        exact wpAny_done (by kernel_rfl) ⟨rfl, rfl, hO⟩ _
        exact wpAny_done (by kernel_rfl) ⟨rfl, rfl, hO⟩ _
      clear hO
      intro wv hO
      clear hn0
      rw [HL1.out] at hO
      go_wp2_with (first | ((with_reducible refine is_load ?_); (first | (refine own_ldP hO (h := ?_)) | (refine own_ld (h := ?_)))) | ((with_reducible refine is_store ?_); (first | (refine own_stRp (hO := hO) (h := ?_); clear hO; intro wv hO) | (refine own_st1p (hO := hO) (h := ?_); clear hO; intro wv hO) | (refine own_stR (hO := hO) (h := ?_); clear hO; intro wv hO) | (refine own_st1 (hO := hO) (h := ?_); clear hO; intro wv hO))) | ((with_reducible refine is_box ?_); (first | (refine own_bx (o := ⟨some 1, _, _, _, _, _⟩) (hO := hO) (h := ?_); clear hO; intro n1 wv hO))) | ((with_reducible refine is_alloc ?_); (first | (refine own_al (o := ⟨some 4, _, _, _, _, _⟩) (hO := hO) (h := ?_); clear hO; intro n4 wv hO))) | ((with_reducible refine is_append ?_); (first | (refine own_ap (o := ⟨some 29, _, _, _, _, _⟩) (hO := hO) (h := ?_); clear hO; intro g29 c29 wv hO))) | (go_at_call 51; refine (h1 _ _ (by unfold OwnsB; rw [HN1.out]; exact hO.row _ List.mem_cons_self)).mono ?_; rintro e wv hw; obtain rfl := hw.1; have hw2 := hw.2.2; rw [HN1.out] at hw2; replace hO := hO.afterRow .here hw.2.1 hw2; clear hw hw2 h1) | (go_at_call 51; refine (h2 _ _ (by unfold OwnsB; rw [HN2.out]; exact hO.row _ List.mem_cons_self)).mono ?_; rintro e wv hw; obtain rfl := hw.1; have hw2 := hw.2.2; rw [HN2.out] at hw2; replace hO := hO.afterRow .here hw.2.1 hw2; clear hw hw2 h2) | (go_at_call 51; refine (h3 _ _ (by unfold OwnsB; rw [HN3.out]; exact hO.row _ List.mem_cons_self)).mono ?_; rintro e wv hw; obtain rfl := hw.1; have hw2 := hw.2.2; rw [HN3.out] at hw2; replace hO := hO.afterRow .here hw.2.1 hw2; clear hw hw2 h3) | (go_at_call 52; refine (h6 _ _ (by unfold OwnsB; rw [HN4.out]; exact hO.row _ List.mem_cons_self)).mono ?_; rintro e wv hw; obtain rfl := hw.1; have hw2 := hw.2.2; rw [HN4.out] at hw2; replace hO := hO.afterRow .here hw.2.1 hw2; clear hw hw2 h6) | (go_at_call 53; refine (hsum _ _ (by unfold OwnsB; rw [HN6.out]; exact hO.row _ List.mem_cons_self)).mono ?_; rintro e wv hw; obtain rfl := hw.1; have hw2 := hw.2.2; rw [HN6.out] at hw2; replace hO := hO.afterRow .here hw.2.1 hw2; clear hw hw2 hsum) | ((with_reducible refine is_load ?_); (refine own_ldW (hO := hO) (h := ?_))) | ((with_reducible refine is_store ?_); (refine own_stW (hO := hO) (h := ?_); clear hO; intro wv hO)))
      go_ret2
      exact ⟨_, rfl, by rw [HN7.out]; exact hO.newRow List.mem_cons_self, hO.keep.below⟩
    · have hEM : encM ⟨⟨s, d, 1, sp, dp⟩, t, f, pl⟩ = portsF ((p32 (p32 (encHd ⟨⟨s, d, 1, sp, dp⟩, t, f, pl⟩) 12 s) 16 d).set 20 8) ⟨s, d, 1, sp, dp⟩ := by
        rw [encM_ref]; unfold kindF; dsimp only; rw [if_neg (by decide), if_neg (by decide), if_pos b11, hd8]; rfl
      have hEH : encHd ⟨⟨s, d, 1, sp, dp⟩, t, f, pl⟩ = p16 ((((List.replicate 28 0 ++ pl).set 0 69).set 8 t).set 9 1) 2 ((28 : Int) + pl.length) := by
        show p16 ((((List.replicate (encLen 1) 0 ++ pl).set 0 69).set 8 t).set 9 1) 2 ((encLen 1 : Int) + pl.length) = _
        rw [hEL]; rfl
      replace hsum := hsum (by rw [hSA, hEL]; omega)
      rw [hEM] at hsum hnM ⊢
      rw [hEH] at hsum hnM ⊢
      rw [hEL] at hsz
      dsimp only at hnM
      rw [hEL] at hnM
      have HZ := Lib.hid (bc_zero 28)
      have hZl : (List.replicate 28 (0 : Int)).length = 28 := List.length_replicate
      clear hEM hEH
      generalize List.replicate 28 (0 : Int) = Z at *
      obtain ⟨N, hN⟩ : ∃ N, 28 + pl.length = N := ⟨_, rfl⟩
      have hNi : (28 : Int) + pl.length = (N : Int) := by omega
      rw [hNi] at hsum hnM ⊢
      rw [hN] at hnM
      have hn0 : (Z ++ pl).length = N := by rw [List.length_append, hZl, hN]
      clear ho hNi hZl hEL hSA
      generalize hL0 : Z ++ pl = L0 at *
      have hn1 : (((L0.set 0 69).set 8 t).set 9 1).length = N := by simp [hn0]
      generalize hL1 : ((L0.set 0 69).set 8 t).set 9 1 = L1 at *
      have h1 := fun v w hw => set2_any (v := v) (l := L1) 2 (N : Int) w hw (by omega) (by omega) (by omega) (by omega)
      have hn2 : (p16 L1 2 (N : Int)).length = N := by rw [p16_length, hn1]
      generalize hL2 : p16 L1 2 (N : Int) = L2 at *
      have h2 := fun v w hw => set4_any (v := v) (l := L2) 12 s w hw (by omega) (by omega) (by omega) (by omega)
      have hn3 : (p32 L2 12 s).length = N := by rw [p32_length, hn2]
      generalize hL3 : p32 L2 12 s = L3 at *
      have h3 := fun v w hw => set4_any (v := v) (l := L3) 16 d w hw (by omega) (by omega) (by omega) (by omega)
      have hn4 : (p32 L3 16 d).length = N := by rw [p32_length, hn3]
      generalize hL4 : p32 L3 16 d = L4 at *
      have HN0 := Lib.hid hn0
      have HN1 := Lib.hid hn1
      have HN2 := Lib.hid hn2
      have HN3 := Lib.hid hn3
      have HN4 := Lib.hid hn4
      have HL0 := Lib.hid hL0
      have HL1 := Lib.hid hL1
      clear hn0 hn1 hn2 hn3 hL0 hL1 hL2 hL3 hL4
      have hn5 : (L4.set 20 8).length = N := by simp [hn4]
      generalize hL5 : L4.set 20 8 = L5 at *
      have h6 := fun v w hw => ports_any (v := v) (l := L5) ⟨s, d, 1, sp, dp⟩ w hw (by omega) (by omega) k.h (fun _ => by omega)
      generalize hL6 : portsF L5 ⟨s, d, 1, sp, dp⟩ = L6 at *
      have HN6 := Lib.hid hnM
      clear hnM hL6
      generalize hL7 : sumsF L6 = L7 at *
      have HN7 := Lib.hid (show L7.length = N by rw [← hL7, sumsF_length, HN6.out])
      clear hL7
      have HN5 := Lib.hid hn5
      clear hn5
      go_enter Tryd.func27, Tryd.ntmps27
      go_wp2_with (first | ((with_reducible refine is_load ?_); (first | (refine own_ldP hO (h := ?_)) | (refine own_ld (h := ?_)))) | ((with_reducible refine is_store ?_); (first | (refine own_stRp (hO := hO) (h := ?_); clear hO; intro wv hO) | (refine own_st1p (hO := hO) (h := ?_); clear hO; intro wv hO) | (refine own_stR (hO := hO) (h := ?_); clear hO; intro wv hO) | (refine own_st1 (hO := hO) (h := ?_); clear hO; intro wv hO))) | ((with_reducible refine is_box ?_); (first | (refine own_bx (o := ⟨some 1, _, _, _, _, _⟩) (hO := hO) (h := ?_); clear hO; intro n1 wv hO))) | ((with_reducible refine is_alloc ?_); (first | (refine own_al (o := ⟨some 4, _, _, _, _, _⟩) (hO := hO) (h := ?_); clear hO; intro n4 wv hO))) | ((with_reducible refine is_append ?_); (first | (refine own_ap (o := ⟨some 29, _, _, _, _, _⟩) (hO := hO) (h := ?_); clear hO; intro g29 c29 wv hO))) | (go_at_call 50; refine (hcod _).mono ?_; rintro e wv ⟨rfl, hb⟩; replace hO := hO.call hb; clear hb) | ((with_reducible refine is_load ?_); (refine own_ldW (hO := hO) (h := ?_))) | ((with_reducible refine is_store ?_); (refine own_stW (hO := hO) (h := ?_); clear hO; intro wv hO)))
      (try simp only [Act.put]); (try simp only [List.setIfInBounds_toArray, List.set_cons_zero, List.set_cons_succ]); (refine own_loose 4 [(26, IsMk w.heap.size [⟨n4, [.int .u32 s, .int .u32 d, .int .u8 1, .int .u16 sp, .int .u16 dp], 26⟩, ⟨n1, pcs ⟨s, d, 1, sp, dp⟩ t f (.slice a pl.length c), 43⟩] [] (roC (.slice a pl.length c) (bc pl)) 28 28 (bc Z) 5)] hO (by kernel_rfl) (by kernel_rfl) (by rfl) (by repeat (first | exact Split.zero _ | apply Split.succ)) ?_ ?_); (focus (repeat (first | exact lasts_nil | (refine lasts_cons (fun v w w' _ _ hk h => ?_) ?_; focus (first | exact h | exact h.keep hk | (obtain ⟨h1, h2⟩ := h; exact ⟨h1, h2.keep hk⟩)))))); clear hO; (repeat (first | (refine loose_plain (by (intro _ hd; cases hd; rfl)) (by rfl) (fun _ h => h) ?_; (first | go_big_quiet_skip | (go_big_quiet_want; (first | ((with_reducible refine is_loadQ ?_); (first | (refine q_ld (h := ?_))); (try simp only [Act.put]); (try simp only [List.setIfInBounds_toArray, List.set_cons_zero, List.set_cons_succ]); go_big_quiet_on) | (go_big_quiet_op; (first | go_big_quiet_on | ((refine ⟨_, fun _ _ => rfl, ?_⟩); go_big_quiet_on)))))); refine wpQuiet_nil ?_; (try simp only [Act.put]); (try simp only [List.setIfInBounds_toArray, List.set_cons_zero, List.set_cons_succ])) | (refine loose_fact (by rfl) rfl (by rfl) ?_ ?_ (Nat.le_of_ble_eq_true rfl); (focus (intro w1 hO hF; (first | (exact loose_make hO rfl slice_u8 zero_u8 rfl rfl (n := 28) (c := 28) (by rfl) (by rfl) (by omega) (by omega) HZ.out) | (go_simp; (first | fail))))); (intro u w1 hO hu; (try subst hu); (try simp only [Act.put]); (try simp only [List.setIfInBounds_toArray, List.set_cons_zero, List.set_cons_succ]))) | (refine loose_skip (by rfl) ?_; (try simp only [Act.put]); (try simp only [List.setIfInBounds_toArray, List.set_cons_zero, List.set_cons_succ])))); (refine wpLoose_nil ?_); intro wv hI; have hO := hI.1; (try refine wpList_done ?_)
      obtain ⟨g26, hg26, hO⟩ := own_isMk hO (hI.2 26 (by simp [insF]) _ rfl)
      cases hg26
      clear hI
      go_wp2_with (first | ((with_reducible refine is_load ?_); (first | (refine own_ldP hO (h := ?_)) | (refine own_ld (h := ?_)))) | ((with_reducible refine is_store ?_); (first | (refine own_stRp (hO := hO) (h := ?_); clear hO; intro wv hO) | (refine own_st1p (hO := hO) (h := ?_); clear hO; intro wv hO) | (refine own_stR (hO := hO) (h := ?_); clear hO; intro wv hO) | (refine own_st1 (hO := hO) (h := ?_); clear hO; intro wv hO))) | ((with_reducible refine is_box ?_); (first | (refine own_bx (o := ⟨some 1, _, _, _, _, _⟩) (hO := hO) (h := ?_); clear hO; intro n1 wv hO))) | ((with_reducible refine is_alloc ?_); (first | (refine own_al (o := ⟨some 4, _, _, _, _, _⟩) (hO := hO) (h := ?_); clear hO; intro n4 wv hO))) | ((with_reducible refine is_append ?_); (first | (refine own_ap (o := ⟨some 29, _, _, _, _, _⟩) (hO := hO) (h := ?_); clear hO; intro g29 c29 wv hO))) | ((with_reducible refine is_append ?_); (refine own_appendP (o := ⟨some 29, _, _, _, _, _⟩) hO rfl rfl slice_u8 rfl rfl (src_of_cells (IsCells.below hv hO.keep.below) (by simp [bc_length]; try omega)) (bc_one _) (fun _ => by repeat (first | exact UpdR.here | apply UpdR.there)) (by first | omega | (simp; omega)) (by unfold maxLen; first | omega | (simp; omega)) (by first | omega | (simp; done) | (simp; omega)) ?_); clear hO; intro g29 c29 wv hO) | ((with_reducible refine is_load ?_); (refine own_ldW (hO := hO) (h := ?_))) | ((with_reducible refine is_store ?_); (refine own_stW (hO := hO) (h := ?_); clear hO; intro wv hO)))
      rw [← bc_append, hN, HL0.out] at hO
      have hn0 := HN0.out
      apply wp_via
      case h =>
        refine wp_region_any (by kernel_rfl) ?_
        replace hO := hO.drew
        refine wpAny_takePL 0 rfl (by kernel_rfl) (by kernel_rfl) (by kernel_rfl) (by rintro c d v a w ⟨h, _⟩; cases h) (by rfl) ?_
        (first | go_big_quiet_skip | (go_big_quiet_want; (go_big_quiet_op; (first | go_big_quiet_on | ((refine ⟨_, fun _ _ => rfl, ?_⟩); go_big_quiet_on))))); (refine wpQuiet_nil ?_); (try simp only [Act.put]); (try simp only [List.setIfInBounds_toArray, List.set_cons_zero, List.set_cons_succ])
        refine wpAny_takePL 1 rfl (by kernel_rfl) (by kernel_rfl) (by kernel_rfl) (by rintro c d v a w ⟨h, _⟩; cases h) (by rfl) ?_
        (first | go_big_quiet_skip | (go_big_quiet_want; (go_big_quiet_op; (first | go_big_quiet_on | ((refine ⟨_, fun _ _ => rfl, ?_⟩); go_big_quiet_on))))); (refine wpQuiet_nil ?_); (try simp only [Act.put]); (try simp only [List.setIfInBounds_toArray, List.set_cons_zero, List.set_cons_succ])
        refine wpAny_takePL 2 rfl (by kernel_rfl) (by kernel_rfl) (by kernel_rfl) (by rintro c d v a w ⟨h, _⟩; cases h) (by rfl) ?_
        (first | go_big_quiet_skip | (go_big_quiet_want; (go_big_quiet_op; (first | go_big_quiet_on | ((refine ⟨_, fun _ _ => rfl, ?_⟩); go_big_quiet_on))))); (refine wpQuiet_nil ?_); (try simp only [Act.put]); (try simp only [List.setIfInBounds_toArray, List.set_cons_zero, List.set_cons_succ])
        refine wpAny_takePL 3 rfl (by kernel_rfl) (by kernel_rfl) (by kernel_rfl) (by rintro c d v a w ⟨h, _⟩; cases h) (by rfl) ?_
        (first | go_big_quiet_skip | (go_big_quiet_want; (go_big_quiet_op; (first | go_big_quiet_on | ((refine ⟨_, fun _ _ => rfl, ?_⟩); go_big_quiet_on))))); (refine wpQuiet_nil ?_); (try simp only [Act.put]); (try simp only [List.setIfInBounds_toArray, List.set_cons_zero, List.set_cons_succ])
        refine wpAny_takePL 6 rfl (by kernel_rfl) (by kernel_rfl) (by kernel_rfl) (by rintro c d v a w ⟨h, _⟩; cases h) (by rfl) ?_
        (first | go_big_quiet_skip | (go_big_quiet_want; (go_big_quiet_op; (first | go_big_quiet_on | ((refine ⟨_, fun _ _ => rfl, ?_⟩); go_big_quiet_on))))); (refine wpQuiet_nil ?_); (try simp only [Act.put]); (try simp only [List.setIfInBounds_toArray, List.set_cons_zero, List.set_cons_succ])
        refine wpAny_takePL 8 rfl (by kernel_rfl) (by kernel_rfl) (by kernel_rfl) (by rintro c d v a w ⟨h, _⟩; cases h) (by rfl) ?_
        (first | go_big_quiet_skip | (go_big_quiet_want; (go_big_quiet_op; (first | go_big_quiet_on | ((refine ⟨_, fun _ _ => rfl, ?_⟩); go_big_quiet_on))))); (refine wpQuiet_nil ?_); (try simp only [Act.put]); (try simp only [List.setIfInBounds_toArray, List.set_cons_zero, List.set_cons_succ])
        refine wpAny_all (rs := [4, 7, 9]) (by kernel_rfl) (by simp) (ord_cons ?_ (ord_cons ?_ (ord_cons ?_ ord_nil)))
        rotate_left 3
        all_goals
          refine wpOp_of_listL rfl ?_
          (first | ((with_reducible refine is_load ?_); (first | (refine own_ld (h := ?_)))) | ((with_reducible refine is_store ?_); (first | (refine own_stR (hO := hO) (h := ?_); clear hO; intro wv hO) | (refine own_st1 (hO := hO) (h := ?_); clear hO; intro wv hO))) | ((with_reducible refine is_load ?_); (refine own_ldW (hO := hO) (h := ?_))) | ((with_reducible refine is_store ?_); (refine own_stW (hO := hO) (h := ?_); clear hO; intro wv hO)) | ((refine wpList_step (fun K hK => ?_)); go_simp; (first | ((refine hK _ _ ?_); clear hK K)))); (try simp only [Act.put]); (try simp only [List.setIfInBounds_toArray, List.set_cons_zero, List.set_cons_succ])
          refine wpList_done (qk_intro ?_)
        refine wpAny_takePL 5 rfl (by kernel_rfl) (by kernel_rfl) (by kernel_rfl) (by rintro c d v a w ⟨h, _⟩; cases h) (by rfl) ?_
        (first | go_big_quiet_skip | (go_big_quiet_want; (go_big_quiet_op; (first | go_big_quiet_on | ((refine ⟨_, fun _ _ => rfl, ?_⟩); go_big_quiet_on))))); (refine wpQuiet_nil ?_); (try simp only [Act.put]); (try simp only [List.setIfInBounds_toArray, List.set_cons_zero, List.set_cons_succ])
        refine wpAny_all (rs := [7, 9]) (by kernel_rfl) (by simp) (ord_cons ?_ (ord_cons ?_ ord_nil))
        rotate_left 2
        refine wpAny_all (rs := [4, 9]) (by kernel_rfl) (by simp) (ord_cons ?_ (ord_cons ?_ ord_nil))
        rotate_left 2
        refine wpAny_all (rs := [4, 7]) (by kernel_rfl) (by simp) (ord_cons ?_ (ord_cons ?_ ord_nil))
        rotate_left 2
        all_goals
          refine wpOp_of_listL rfl ?_
          (first | ((with_reducible refine is_load ?_); (first | (refine own_ld (h := ?_)))) | ((with_reducible refine is_store ?_); (first | (refine own_stR (hO := hO) (h := ?_); clear hO; intro wv hO) | (refine own_st1 (hO := hO) (h := ?_); clear hO; intro wv hO))) | ((with_reducible refine is_load ?_); (refine own_ldW (hO := hO) (h := ?_))) | ((with_reducible refine is_store ?_); (refine own_stW (hO := hO) (h := ?_); clear hO; intro wv hO)) | ((refine wpList_step (fun K hK => ?_)); go_simp; (first | ((refine hK _ _ ?_); clear hK K)))); (try simp only [Act.put]); (try simp only [List.setIfInBounds_toArray, List.set_cons_zero, List.set_cons_succ])
          refine wpList_done (qk_intro ?_)
        refine wpAny_all (rs := [9]) (by kernel_rfl) (by simp) (ord_cons ?_ ord_nil)
        rotate_left 1
        refine wpAny_takePL 10 rfl (by kernel_rfl) (by kernel_rfl) (by kernel_rfl) (by rintro c d v a w ⟨h, _⟩; cases h) (by rfl) ?_
        (first | go_big_quiet_skip | (go_big_quiet_want; (go_big_quiet_op; (first | go_big_quiet_on | ((refine ⟨_, fun _ _ => rfl, ?_⟩); go_big_quiet_on))))); (refine wpQuiet_nil ?_); (try simp only [Act.put]); (try simp only [List.setIfInBounds_toArray, List.set_cons_zero, List.set_cons_succ])
        refine wpAny_all (rs := [7, 11]) (by kernel_rfl) (by simp) (ord_cons ?_ (ord_cons ?_ ord_nil))
        rotate_left 2
        refine wpAny_takePL 5 rfl (by kernel_rfl) (by kernel_rfl) (by kernel_rfl) (by rintro c d v a w ⟨h, _⟩; cases h) (by rfl) ?_
        (first | go_big_quiet_skip | (go_big_quiet_want; (go_big_quiet_op; (first | go_big_quiet_on | ((refine ⟨_, fun _ _ => rfl, ?_⟩); go_big_quiet_on))))); (refine wpQuiet_nil ?_); (try simp only [Act.put]); (try simp only [List.setIfInBounds_toArray, List.set_cons_zero, List.set_cons_succ])
        refine wpAny_all (rs := [9]) (by kernel_rfl) (by simp) (ord_cons ?_ ord_nil)
        rotate_left 1
        refine wpAny_all (rs := [4]) (by kernel_rfl) (by simp) (ord_cons ?_ ord_nil)
        rotate_left 1
        refine wpAny_takePL 5 rfl (by kernel_rfl) (by kernel_rfl) (by kernel_rfl) (by rintro c d v a w ⟨h, _⟩; cases h) (by rfl) ?_
        (first | go_big_quiet_skip | (go_big_quiet_want; (go_big_quiet_op; (first | go_big_quiet_on | ((refine ⟨_, fun _ _ => rfl, ?_⟩); go_big_quiet_on))))); (refine wpQuiet_nil ?_); (try simp only [Act.put]); (try simp only [List.setIfInBounds_toArray, List.set_cons_zero, List.set_cons_succ])
        refine wpAny_takePL 10 rfl (by kernel_rfl) (by kernel_rfl) (by kernel_rfl) (by rintro c d v a w ⟨h, _⟩; cases h) (by rfl) ?_
        (first | go_big_quiet_skip | (go_big_quiet_want; (go_big_quiet_op; (first | go_big_quiet_on | ((refine ⟨_, fun _ _ => rfl, ?_⟩); go_big_quiet_on))))); (refine wpQuiet_nil ?_); (try simp only [Act.put]); (try simp only [List.setIfInBounds_toArray, List.set_cons_zero, List.set_cons_succ])
        refine wpAny_all (rs := [7, 11]) (by kernel_rfl) (by simp) (ord_cons ?_ (ord_cons ?_ ord_nil))
        rotate_left 2
        refine wpAny_all (rs := [4]) (by kernel_rfl) (by simp) (ord_cons ?_ ord_nil)
        rotate_left 1
        all_goals
          refine wpOp_of_listL rfl ?_
          (first | ((with_reducible refine is_load ?_); (first | (refine own_ld (h := ?_)))) | ((with_reducible refine is_store ?_); (first | (refine own_stR (hO := hO) (h := ?_); clear hO; intro wv hO) | (refine own_st1 (hO := hO) (h := ?_); clear hO; intro wv hO))) | ((with_reducible refine is_load ?_); (refine own_ldW (hO := hO) (h := ?_))) | ((with_reducible refine is_store ?_); (refine own_stW (hO := hO) (h := ?_); clear hO; intro wv hO)) | ((refine wpList_step (fun K hK => ?_)); go_simp; (first | ((refine hK _ _ ?_); clear hK K)))); (try simp only [Act.put]); (try simp only [List.setIfInBounds_toArray, List.set_cons_zero, List.set_cons_succ])
          refine wpList_done (qk_intro ?_)
        refine wpAny_takePL 10 rfl (by kernel_rfl) (by kernel_rfl) (by kernel_rfl) (by rintro c d v a w ⟨h, _⟩; cases h) (by rfl) ?_
        (first | go_big_quiet_skip | (go_big_quiet_want; (go_big_quiet_op; (first | go_big_quiet_on | ((refine ⟨_, fun _ _ => rfl, ?_⟩); go_big_quiet_on))))); (refine wpQuiet_nil ?_); (try simp only [Act.put]); (try simp only [List.setIfInBounds_toArray, List.set_cons_zero, List.set_cons_succ])
        refine wpAny_all (rs := [11]) (by kernel_rfl) (by simp) (ord_cons ?_ ord_nil)
        rotate_left 1
        refine wpAny_all (rs := [11]) (by kernel_rfl) (by simp) (ord_cons ?_ ord_nil)
        rotate_left 1
        refine wpAny_all (rs := [7]) (by kernel_rfl) (by simp) (ord_cons ?_ ord_nil)
        rotate_left 1
        refine wpAny_takePL 10 rfl (by kernel_rfl) (by kernel_rfl) (by kernel_rfl) (by rintro c d v a w ⟨h, _⟩; cases h) (by rfl) ?_
        (first | go_big_quiet_skip | (go_big_quiet_want; (go_big_quiet_op; (first | go_big_quiet_on | ((refine ⟨_, fun _ _ => rfl, ?_⟩); go_big_quiet_on))))); (refine wpQuiet_nil ?_); (try simp only [Act.put]); (try simp only [List.setIfInBounds_toArray, List.set_cons_zero, List.set_cons_succ])
        refine wpAny_all (rs := [11]) (by kernel_rfl) (by simp) (ord_cons ?_ ord_nil)
        rotate_left 1
        refine wpAny_takePL 5 rfl (by kernel_rfl) (by kernel_rfl) (by kernel_rfl) (by rintro c d v a w ⟨h, _⟩; cases h) (by rfl) ?_
        (first | go_big_quiet_skip | (go_big_quiet_want; (go_big_quiet_op; (first | go_big_quiet_on | ((refine ⟨_, fun _ _ => rfl, ?_⟩); go_big_quiet_on))))); (refine wpQuiet_nil ?_); (try simp only [Act.put]); (try simp only [List.setIfInBounds_toArray, List.set_cons_zero, List.set_cons_succ])
        refine wpAny_takePL 10 rfl (by kernel_rfl) (by kernel_rfl) (by kernel_rfl) (by rintro c d v a w ⟨h, _⟩; cases h) (by rfl) ?_
        (first | go_big_quiet_skip | (go_big_quiet_want; (go_big_quiet_op; (first | go_big_quiet_on | ((refine ⟨_, fun _ _ => rfl, ?_⟩); go_big_quiet_on))))); (refine wpQuiet_nil ?_); (try simp only [Act.put]); (try simp only [List.setIfInBounds_toArray, List.set_cons_zero, List.set_cons_succ])
        refine wpAny_all (rs := [11]) (by kernel_rfl) (by simp) (ord_cons ?_ ord_nil)
        rotate_left 1
        refine wpAny_all (rs := [11]) (by kernel_rfl) (by simp) (ord_cons ?_ ord_nil)
        rotate_left 1
        refine wpAny_all (rs := [7]) (by kernel_rfl) (by simp) (ord_cons ?_ ord_nil)
        rotate_left 1
        refine wpAny_takePL 5 rfl (by kernel_rfl) (by kernel_rfl) (by kernel_rfl) (by rintro c d v a w ⟨h, _⟩; cases h) (by rfl) ?_
        (first | go_big_quiet_skip | (go_big_quiet_want; (go_big_quiet_op; (first | go_big_quiet_on | ((refine ⟨_, fun _ _ => rfl, ?_⟩); go_big_quiet_on))))); (refine wpQuiet_nil ?_); (try simp only [Act.put]); (try simp only [List.setIfInBounds_toArray, List.set_cons_zero, List.set_cons_succ])
        refine wpAny_takePL 10 rfl (by kernel_rfl) (by kernel_rfl) (by kernel_rfl) (by rintro c d v a w ⟨h, _⟩; cases h) (by rfl) ?_
        (first | go_big_quiet_skip | (go_big_quiet_want; (go_big_quiet_op; (first | go_big_quiet_on | ((refine ⟨_, fun _ _ => rfl, ?_⟩); go_big_quiet_on))))); (refine wpQuiet_nil ?_); (try simp only [Act.put]); (try simp only [List.setIfInBounds_toArray, List.set_cons_zero, List.set_cons_succ])
        refine wpAny_all (rs := [11]) (by kernel_rfl) (by simp) (ord_cons ?_ ord_nil)
        rotate_left 1
        all_goals
          refine wpOp_of_listL rfl ?_
          (first | ((with_reducible refine is_load ?_); (first | (refine own_ld (h := ?_)))) | ((with_reducible refine is_store ?_); (first | (refine own_stR (hO := hO) (h := ?_); clear hO; intro wv hO) | (refine own_st1 (hO := hO) (h := ?_); clear hO; intro wv hO))) | ((with_reducible refine is_load ?_); (refine own_ldW (hO := hO) (h := ?_))) | ((with_reducible refine is_store ?_); (refine own_stW (hO := hO) (h := ?_); clear hO; intro wv hO)) | ((refine wpList_step (fun K hK => ?_)); go_simp; (first | ((refine hK _ _ ?_); clear hK K)))); (try simp only [Act.put]); (try simp only [List.setIfInBounds_toArray, List.set_cons_zero, List.set_cons_succ])
          refine wpList_done (qk_intro ?_)
        refine wpAny_takePL 12 rfl (by kernel_rfl) (by kernel_rfl) (by kernel_rfl) (by rintro c d v a w ⟨h, _⟩; cases h) (by rfl) ?_
        (first | go_big_quiet_skip | (go_big_quiet_want; (go_big_quiet_op; (first | go_big_quiet_on | ((refine ⟨_, fun _ _ => rfl, ?_⟩); go_big_quiet_on))))); (refine wpQuiet_nil ?_); (try simp only [Act.put]); (try simp only [List.setIfInBounds_toArray, List.set_cons_zero, List.set_cons_succ])
        refine wpAny_all (rs := [13]) (by kernel_rfl) (by simp) (ord_cons ?_ ord_nil)
        rotate_left 1
        refine wpAny_takePL 12 rfl (by kernel_rfl) (by kernel_rfl) (by kernel_rfl) (by rintro c d v a w ⟨h, _⟩; cases h) (by rfl) ?_
        (first | go_big_quiet_skip | (go_big_quiet_want; (go_big_quiet_op; (first | go_big_quiet_on | ((refine ⟨_, fun _ _ => rfl, ?_⟩); go_big_quiet_on))))); (refine wpQuiet_nil ?_); (try simp only [Act.put]); (try simp only [List.setIfInBounds_toArray, List.set_cons_zero, List.set_cons_succ])
        refine wpAny_all (rs := [13]) (by kernel_rfl) (by simp) (ord_cons ?_ ord_nil)
        rotate_left 1
        refine wpAny_takePL 12 rfl (by kernel_rfl) (by kernel_rfl) (by kernel_rfl) (by rintro c d v a w ⟨h, _⟩; cases h) (by rfl) ?_
        (first | go_big_quiet_skip | (go_big_quiet_want; (go_big_quiet_op; (first | go_big_quiet_on | ((refine ⟨_, fun _ _ => rfl, ?_⟩); go_big_quiet_on))))); (refine wpQuiet_nil ?_); (try simp only [Act.put]); (try simp only [List.setIfInBounds_toArray, List.set_cons_zero, List.set_cons_succ])
        refine wpAny_all (rs := [13]) (by kernel_rfl) (by simp) (ord_cons ?_ ord_nil)
        rotate_left 1
        refine wpAny_takePL 12 rfl (by kernel_rfl) (by kernel_rfl) (by kernel_rfl) (by rintro c d v a w ⟨h, _⟩; cases h) (by rfl) ?_
        (first | go_big_quiet_skip | (go_big_quiet_want; (go_big_quiet_op; (first | go_big_quiet_on | ((refine ⟨_, fun _ _ => rfl, ?_⟩); go_big_quiet_on))))); (refine wpQuiet_nil ?_); (try simp only [Act.put]); (try simp only [List.setIfInBounds_toArray, List.set_cons_zero, List.set_cons_succ])
        refine wpAny_all (rs := [13]) (by kernel_rfl) (by simp) (ord_cons ?_ ord_nil)
        rotate_left 1
        refine wpAny_takePL 12 rfl (by kernel_rfl) (by kernel_rfl) (by kernel_rfl) (by rintro c d v a w ⟨h, _⟩; cases h) (by rfl) ?_
        (first | go_big_quiet_skip | (go_big_quiet_want; (go_big_quiet_op; (first | go_big_quiet_on | ((refine ⟨_, fun _ _ => rfl, ?_⟩); go_big_quiet_on))))); (refine wpQuiet_nil ?_); (try simp only [Act.put]); (try simp only [List.setIfInBounds_toArray, List.set_cons_zero, List.set_cons_succ])
        refine wpAny_all (rs := [13]) (by kernel_rfl) (by simp) (ord_cons ?_ ord_nil)
        rotate_left 1
        refine wpAny_takePL 12 rfl (by kernel_rfl) (by kernel_rfl) (by kernel_rfl) (by rintro c d v a w ⟨h, _⟩; cases h) (by rfl) ?_
        (first | go_big_quiet_skip | (go_big_quiet_want; (go_big_quiet_op; (first | go_big_quiet_on | ((refine ⟨_, fun _ _ => rfl, ?_⟩); go_big_quiet_on))))); (refine wpQuiet_nil ?_); (try simp only [Act.put]); (try simp only [List.setIfInBounds_toArray, List.set_cons_zero, List.set_cons_succ])
        refine wpAny_all (rs := [13]) (by kernel_rfl) (by simp) (ord_cons ?_ ord_nil)
        rotate_left 1
        refine wpAny_takePL 12 rfl (by kernel_rfl) (by kernel_rfl) (by kernel_rfl) (by rintro c d v a w ⟨h, _⟩; cases h) (by rfl) ?_
        (first | go_big_quiet_skip | (go_big_quiet_want; (go_big_quiet_op; (first | go_big_quiet_on | ((refine ⟨_, fun _ _ => rfl, ?_⟩); go_big_quiet_on))))); (refine wpQuiet_nil ?_); (try simp only [Act.put]); (try simp only [List.setIfInBounds_toArray, List.set_cons_zero, List.set_cons_succ])
        refine wpAny_all (rs := [13]) (by kernel_rfl) (by simp) (ord_cons ?_ ord_nil)
        rotate_left 1
        refine wpAny_takePL 12 rfl (by kernel_rfl) (by kernel_rfl) (by kernel_rfl) (by rintro c d v a w ⟨h, _⟩; cases h) (by rfl) ?_
        (first | go_big_quiet_skip | (go_big_quiet_want; (go_big_quiet_op; (first | go_big_quiet_on | ((refine ⟨_, fun _ _ => rfl, ?_⟩); go_big_quiet_on))))); (refine wpQuiet_nil ?_); (try simp only [Act.put]); (try simp only [List.setIfInBounds_toArray, List.set_cons_zero, List.set_cons_succ])
        refine wpAny_all (rs := [13]) (by kernel_rfl) (by simp) (ord_cons ?_ ord_nil)
        rotate_left 1
        all_goals
          refine wpOp_of_listL rfl ?_
          (first | ((with_reducible refine is_load ?_); (first | (refine own_ld (h := ?_)))) | ((with_reducible refine is_store ?_); (first | (refine own_stR (hO := hO) (h := ?_); clear hO; intro wv hO) | (refine own_st1 (hO := hO) (h := ?_); clear hO; intro wv hO))) | ((with_reducible refine is_load ?_); (refine own_ldW (hO := hO) (h := ?_))) | ((with_reducible refine is_store ?_); (refine own_stW (hO := hO) (h := ?_); clear hO; intro wv hO)) | ((refine wpList_step (fun K hK => ?_)); go_simp; (first | ((refine hK _ _ ?_); clear hK K)))); (try simp only [Act.put]); (try simp only [List.setIfInBounds_toArray, List.set_cons_zero, List.set_cons_succ])
          refine wpList_done (qk_intro ?_)
        exact wpAny_done (by kernel_rfl) ⟨rfl, rfl, hO⟩ _
        exact wpAny_done (by kernel_rfl) ⟨rfl, rfl, hO⟩ _
        exact wpAny_done (by kernel_rfl) ⟨rfl, rfl, hO⟩ _
        exact wpAny_done (by kernel_rfl) ⟨rfl, rfl, hO⟩ _
        exact wpAny_done (by kernel_rfl) ⟨rfl, rfl, hO⟩ _
        exact wpAny_done (by kernel_rfl) ⟨rfl, rfl, hO⟩ _
        exact wpAny_done (by kernel_rfl) ⟨rfl, rfl, hO⟩ _
        exact wpAny_done (by kernel_rfl) ⟨rfl, rfl, hO⟩ _
      clear hO
      intro wv hO
      clear hn0
      rw [HL1.out] at hO
      go_wp2_with (first | ((with_reducible refine is_load ?_); (first | (refine own_ldP hO (h := ?_)) | (refine own_ld (h := ?_)))) | ((with_reducible refine is_store ?_); (first | (refine own_stRp (hO := hO) (h := ?_); clear hO; intro wv hO) | (refine own_st1p (hO := hO) (h := ?_); clear hO; intro wv hO) | (refine own_stR (hO := hO) (h := ?_); clear hO; intro wv hO) | (refine own_st1 (hO := hO) (h := ?_); clear hO; intro wv hO))) | ((with_reducible refine is_box ?_); (first | (refine own_bx (o := ⟨some 1, _, _, _, _, _⟩) (hO := hO) (h := ?_); clear hO; intro n1 wv hO))) | ((with_reducible refine is_alloc ?_); (first | (refine own_al (o := ⟨some 4, _, _, _, _, _⟩) (hO := hO) (h := ?_); clear hO; intro n4 wv hO))) | ((with_reducible refine is_append ?_); (first | (refine own_ap (o := ⟨some 29, _, _, _, _, _⟩) (hO := hO) (h := ?_); clear hO; intro g29 c29 wv hO))) | (go_at_call 51; refine (h1 _ _ (by unfold OwnsB; rw [HN1.out]; exact hO.row _ List.mem_cons_self)).mono ?_; rintro e wv hw; obtain rfl := hw.1; have hw2 := hw.2.2; rw [HN1.out] at hw2; replace hO := hO.afterRow .here hw.2.1 hw2; clear hw hw2 h1) | (go_at_call 51; refine (h2 _ _ (by unfold OwnsB; rw [HN2.out]; exact hO.row _ List.mem_cons_self)).mono ?_; rintro e wv hw; obtain rfl := hw.1; have hw2 := hw.2.2; rw [HN2.out] at hw2; replace hO := hO.afterRow .here hw.2.1 hw2; clear hw hw2 h2) | (go_at_call 51; refine (h3 _ _ (by unfold OwnsB; rw [HN3.out]; exact hO.row _ List.mem_cons_self)).mono ?_; rintro e wv hw; obtain rfl := hw.1; have hw2 := hw.2.2; rw [HN3.out] at hw2; replace hO := hO.afterRow .here hw.2.1 hw2; clear hw hw2 h3) | (go_at_call 52; rw [hL5] at hO; refine (h6 _ _ (by unfold OwnsB; rw [HN5.out]; exact hO.row _ List.mem_cons_self)).mono ?_; rintro e wv hw; obtain rfl := hw.1; have hw2 := hw.2.2; rw [HN5.out] at hw2; replace hO := hO.afterRow .here hw.2.1 hw2; clear hw hw2 h6) | (go_at_call 53; refine (hsum _ _ (by unfold OwnsB; rw [HN6.out]; exact hO.row _ List.mem_cons_self)).mono ?_; rintro e wv hw; obtain rfl := hw.1; have hw2 := hw.2.2; rw [HN6.out] at hw2; replace hO := hO.afterRow .here hw.2.1 hw2; clear hw hw2 hsum) | ((with_reducible refine is_load ?_); (refine own_ldW (hO := hO) (h := ?_))) | ((with_reducible refine is_store ?_); (refine own_stW (hO := hO) (h := ?_); clear hO; intro wv hO)))
      go_ret2
      exact ⟨_, rfl, by rw [HN7.out]; exact hO.newRow List.mem_cons_self, hO.keep.below⟩
  · have hEL : encLen p = 20 := by unfold encLen; rw [q1, q2, q3]; rfl
    have hSA : sumAtF p = 0 := by unfold sumAtF; rw [q1, q2, q3]; rfl
    have hEM : encM ⟨⟨s, d, p, sp, dp⟩, t, f, pl⟩ = portsF (p32 (p32 (encHd ⟨⟨s, d, p, sp, dp⟩, t, f, pl⟩) 12 s) 16 d) ⟨s, d, p, sp, dp⟩ := by
      rw [encM_ref]; unfold kindF; dsimp only; rw [q1, q2, q3]; rfl
    have hEH : encHd ⟨⟨s, d, p, sp, dp⟩, t, f, pl⟩ = p16 ((((List.replicate 20 0 ++ pl).set 0 69).set 8 t).set 9 p) 2 ((20 : Int) + pl.length) := by
      show p16 ((((List.replicate (encLen p) 0 ++ pl).set 0 69).set 8 t).set 9 p) 2 ((encLen p : Int) + pl.length) = _
      rw [hEL]; rfl
    replace hsum := hsum (by rw [hSA, hEL]; omega)
    rw [hEM] at hsum hnM ⊢
    rw [hEH] at hsum hnM ⊢
    rw [hEL] at hsz
    dsimp only at hnM
    rw [hEL] at hnM
    have HZ := Lib.hid (bc_zero 20)
    have hZl : (List.replicate 20 (0 : Int)).length = 20 := List.length_replicate
    clear hEM hEH
    generalize List.replicate 20 (0 : Int) = Z at *
    obtain ⟨N, hN⟩ : ∃ N, 20 + pl.length = N := ⟨_, rfl⟩
    have hNi : (20 : Int) + pl.length = (N : Int) := by omega
    rw [hNi] at hsum hnM ⊢
    rw [hN] at hnM
    have hn0 : (Z ++ pl).length = N := by rw [List.length_append, hZl, hN]
    clear ho hNi hZl hEL hSA
    generalize hL0 : Z ++ pl = L0 at *
    have hn1 : (((L0.set 0 69).set 8 t).set 9 p).length = N := by simp [hn0]
    generalize hL1 : ((L0.set 0 69).set 8 t).set 9 p = L1 at *
    have h1 := fun v w hw => set2_any (v := v) (l := L1) 2 (N : Int) w hw (by omega) (by omega) (by omega) (by omega)
    have hn2 : (p16 L1 2 (N : Int)).length = N := by rw [p16_length, hn1]
    generalize hL2 : p16 L1 2 (N : Int) = L2 at *
    have h2 := fun v w hw => set4_any (v := v) (l := L2) 12 s w hw (by omega) (by omega) (by omega) (by omega)
    have hn3 : (p32 L2 12 s).length = N := by rw [p32_length, hn2]
    generalize hL3 : p32 L2 12 s = L3 at *
    have h3 := fun v w hw => set4_any (v := v) (l := L3) 16 d w hw (by omega) (by omega) (by omega) (by omega)
    have hn4 : (p32 L3 16 d).length = N := by rw [p32_length, hn3]
    generalize hL4 : p32 L3 16 d = L4 at *
    have HN0 := Lib.hid hn0
    have HN1 := Lib.hid hn1
    have HN2 := Lib.hid hn2
    have HN3 := Lib.hid hn3
    have HN4 := Lib.hid hn4
    have HL0 := Lib.hid hL0
    have HL1 := Lib.hid hL1
    clear hn0 hn1 hn2 hn3 hL0 hL1 hL2 hL3 hL4
    have h6 := fun v w hw => ports_any (v := v) (l := L4) ⟨s, d, p, sp, dp⟩ w hw (by omega) (by omega) k.h (fun h => by dsimp only at h; simp only [beq_eq_false_iff_ne, ne_eq] at q1 q2 q3; omega)
    generalize hL6 : portsF L4 ⟨s, d, p, sp, dp⟩ = L6 at *
    have HN6 := Lib.hid hnM
    clear hnM hL6
    generalize hL7 : sumsF L6 = L7 at *
    have HN7 := Lib.hid (show L7.length = N by rw [← hL7, sumsF_length, HN6.out])
    clear hL7
    clear hn4
    go_enter Tryd.func27, Tryd.ntmps27
    go_wp2_with (first | ((with_reducible refine is_load ?_); (first | (refine own_ldP hO (h := ?_)) | (refine own_ld (h := ?_)))) | ((with_reducible refine is_store ?_); (first | (refine own_stRp (hO := hO) (h := ?_); clear hO; intro wv hO) | (refine own_st1p (hO := hO) (h := ?_); clear hO; intro wv hO) | (refine own_stR (hO := hO) (h := ?_); clear hO; intro wv hO) | (refine own_st1 (hO := hO) (h := ?_); clear hO; intro wv hO))) | ((with_reducible refine is_box ?_); (first | (refine own_bx (o := ⟨some 1, _, _, _, _, _⟩) (hO := hO) (h := ?_); clear hO; intro n1 wv hO))) | ((with_reducible refine is_alloc ?_); (first | (refine own_al (o := ⟨some 4, _, _, _, _, _⟩) (hO := hO) (h := ?_); clear hO; intro n4 wv hO))) | ((with_reducible refine is_append ?_); (first | (refine own_ap (o := ⟨some 29, _, _, _, _, _⟩) (hO := hO) (h := ?_); clear hO; intro g29 c29 wv hO))) | (go_at_call 50; refine (hcod _).mono ?_; rintro e wv ⟨rfl, hb⟩; replace hO := hO.call hb; clear hb) | ((with_reducible refine is_load ?_); (refine own_ldW (hO := hO) (h := ?_))) | ((with_reducible refine is_store ?_); (refine own_stW (hO := hO) (h := ?_); clear hO; intro wv hO)))
    (try simp only [Act.put]); (try simp only [List.setIfInBounds_toArray, List.set_cons_zero, List.set_cons_succ]); (refine own_loose 4 [(26, IsMk w.heap.size [⟨n4, [.int .u32 s, .int .u32 d, .int .u8 p, .int .u16 sp, .int .u16 dp], 26⟩, ⟨n1, pcs ⟨s, d, p, sp, dp⟩ t f (.slice a pl.length c), 43⟩] [] (roC (.slice a pl.length c) (bc pl)) 20 20 (bc Z) 5)] hO (by kernel_rfl) (by kernel_rfl) (by rfl) (by repeat (first | exact Split.zero _ | apply Split.succ)) ?_ ?_); (focus (repeat (first | exact lasts_nil | (refine lasts_cons (fun v w w' _ _ hk h => ?_) ?_; focus (first | exact h | exact h.keep hk | (obtain ⟨h1, h2⟩ := h; exact ⟨h1, h2.keep hk⟩)))))); clear hO; (repeat (first | (refine loose_plain (by (intro _ hd; cases hd; rfl)) (by rfl) (fun _ h => h) ?_; (first | go_big_quiet_skip | (go_big_quiet_want; (first | ((with_reducible refine is_loadQ ?_); (first | (refine q_ld (h := ?_))); (try simp only [Act.put]); (try simp only [List.setIfInBounds_toArray, List.set_cons_zero, List.set_cons_succ]); go_big_quiet_on) | (go_big_quiet_op; (first | go_big_quiet_on | ((refine ⟨_, fun _ _ => rfl, ?_⟩); go_big_quiet_on)))))); refine wpQuiet_nil ?_; (try simp only [Act.put]); (try simp only [List.setIfInBounds_toArray, List.set_cons_zero, List.set_cons_succ])) | (refine loose_fact (by rfl) rfl (by rfl) ?_ ?_ (Nat.le_of_ble_eq_true rfl); (focus (intro w1 hO hF; (first | (exact loose_make hO rfl slice_u8 zero_u8 rfl rfl (n := 20) (c := 20) (by rfl) (by rfl) (by omega) (by omega) HZ.out) | (go_simp; (first | fail))))); (intro u w1 hO hu; (try subst hu); (try simp only [Act.put]); (try simp only [List.setIfInBounds_toArray, List.set_cons_zero, List.set_cons_succ]))) | (refine loose_skip (by rfl) ?_; (try simp only [Act.put]); (try simp only [List.setIfInBounds_toArray, List.set_cons_zero, List.set_cons_succ])))); (refine wpLoose_nil ?_); intro wv hI; have hO := hI.1; (try refine wpList_done ?_)
    obtain ⟨g26, hg26, hO⟩ := own_isMk hO (hI.2 26 (by simp [insF]) _ rfl)
    cases hg26
    clear hI
    go_wp2_with (first | ((with_reducible refine is_load ?_); (first | (refine own_ldP hO (h := ?_)) | (refine own_ld (h := ?_)))) | ((with_reducible refine is_store ?_); (first | (refine own_stRp (hO := hO) (h := ?_); clear hO; intro wv hO) | (refine own_st1p (hO := hO) (h := ?_); clear hO; intro wv hO) | (refine own_stR (hO := hO) (h := ?_); clear hO; intro wv hO) | (refine own_st1 (hO := hO) (h := ?_); clear hO; intro wv hO))) | ((with_reducible refine is_box ?_); (first | (refine own_bx (o := ⟨some 1, _, _, _, _, _⟩) (hO := hO) (h := ?_); clear hO; intro n1 wv hO))) | ((with_reducible refine is_alloc ?_); (first | (refine own_al (o := ⟨some 4, _, _, _, _, _⟩) (hO := hO) (h := ?_); clear hO; intro n4 wv hO))) | ((with_reducible refine is_append ?_); (first | (refine own_ap (o := ⟨some 29, _, _, _, _, _⟩) (hO := hO) (h := ?_); clear hO; intro g29 c29 wv hO))) | ((with_reducible refine is_append ?_); (refine own_appendP (o := ⟨some 29, _, _, _, _, _⟩) hO rfl rfl slice_u8 rfl rfl (src_of_cells (IsCells.below hv hO.keep.below) (by simp [bc_length]; try omega)) (bc_one _) (fun _ => by repeat (first | exact UpdR.here | apply UpdR.there)) (by first | omega | (simp; omega)) (by unfold maxLen; first | omega | (simp; omega)) (by first | omega | (simp; done) | (simp; omega)) ?_); clear hO; intro g29 c29 wv hO) | ((with_reducible refine is_load ?_); (refine own_ldW (hO := hO) (h := ?_))) | ((with_reducible refine is_store ?_); (refine own_stW (hO := hO) (h := ?_); clear hO; intro wv hO)))
    rw [← bc_append, hN, HL0.out] at hO
    have hn0 := HN0.out
    apply wp_via
    case h =>
      refine wp_region_any (by kernel_rfl) ?_
      replace hO := hO.drew
      refine wpAny_takePL 0 rfl (by kernel_rfl) (by kernel_rfl) (by kernel_rfl) (by rintro c d v a w ⟨h, _⟩; cases h) (by rfl) ?_
      (first | go_big_quiet_skip | (go_big_quiet_want; (go_big_quiet_op; (first | go_big_quiet_on | ((refine ⟨_, fun _ _ => rfl, ?_⟩); go_big_quiet_on))))); (refine wpQuiet_nil ?_); (try simp only [Act.put]); (try simp only [List.setIfInBounds_toArray, List.set_cons_zero, List.set_cons_succ])
      refine wpAny_takePL 1 rfl (by kernel_rfl) (by kernel_rfl) (by kernel_rfl) (by rintro c d v a w ⟨h, _⟩; cases h) (by rfl) ?_
      (first | go_big_quiet_skip | (go_big_quiet_want; (go_big_quiet_op; (first | go_big_quiet_on | ((refine ⟨_, fun _ _ => rfl, ?_⟩); go_big_quiet_on))))); (refine wpQuiet_nil ?_); (try simp only [Act.put]); (try simp only [List.setIfInBounds_toArray, List.set_cons_zero, List.set_cons_succ])
      refine wpAny_takePL 2 rfl (by kernel_rfl) (by kernel_rfl) (by kernel_rfl) (by rintro c d v a w ⟨h, _⟩; cases h) (by rfl) ?_
      (first | go_big_quiet_skip | (go_big_quiet_want; (go_big_quiet_op; (first | go_big_quiet_on | ((refine ⟨_, fun _ _ => rfl, ?_⟩); go_big_quiet_on))))); (refine wpQuiet_nil ?_); (try simp only [Act.put]); (try simp only [List.setIfInBounds_toArray, List.set_cons_zero, List.set_cons_succ])
      refine wpAny_takePL 3 rfl (by kernel_rfl) (by kernel_rfl) (by kernel_rfl) (by rintro c d v a w ⟨h, _⟩; cases h) (by rfl) ?_
      (first | go_big_quiet_skip | (go_big_quiet_want; (go_big_quiet_op; (first | go_big_quiet_on | ((refine ⟨_, fun _ _ => rfl, ?_⟩); go_big_quiet_on))))); (refine wpQuiet_nil ?_); (try simp only [Act.put]); (try simp only [List.setIfInBounds_toArray, List.set_cons_zero, List.set_cons_succ])
      refine wpAny_takePL 6 rfl (by kernel_rfl) (by kernel_rfl) (by kernel_rfl) (by rintro c d v a w ⟨h, _⟩; cases h) (by rfl) ?_
      (first | go_big_quiet_skip | (go_big_quiet_want; (go_big_quiet_op; (first | go_big_quiet_on | ((refine ⟨_, fun _ _ => rfl, ?_⟩); go_big_quiet_on))))); (refine wpQuiet_nil ?_); (try simp only [Act.put]); (try simp only [List.setIfInBounds_toArray, List.set_cons_zero, List.set_cons_succ])
      refine wpAny_takePL 8 rfl (by kernel_rfl) (by kernel_rfl) (by kernel_rfl) (by rintro c d v a w ⟨h, _⟩; cases h) (by rfl) ?_
      (first | go_big_quiet_skip | (go_big_quiet_want; (go_big_quiet_op; (first | go_big_quiet_on | ((refine ⟨_, fun _ _ => rfl, ?_⟩); go_big_quiet_on))))); (refine wpQuiet_nil ?_); (try simp only [Act.put]); (try simp only [List.setIfInBounds_toArray, List.set_cons_zero, List.set_cons_succ])
      refine wpAny_all (rs := [4, 7, 9]) (by kernel_rfl) (by simp) (ord_cons ?_ (ord_cons ?_ (ord_cons ?_ ord_nil)))
      rotate_left 3
      all_goals
        refine wpOp_of_listL rfl ?_
        (first | ((with_reducible refine is_load ?_); (first | (refine own_ld (h := ?_)))) | ((with_reducible refine is_store ?_); (first | (refine own_stR (hO := hO) (h := ?_); clear hO; intro wv hO) | (refine own_st1 (hO := hO) (h := ?_); clear hO; intro wv hO))) | ((with_reducible refine is_load ?_); (refine own_ldW (hO := hO) (h := ?_))) | ((with_reducible refine is_store ?_); (refine own_stW (hO := hO) (h := ?_); clear hO; intro wv hO)) | ((refine wpList_step (fun K hK => ?_)); go_simp; (first | ((refine hK _ _ ?_); clear hK K)))); (try simp only [Act.put]); (try simp only [List.setIfInBounds_toArray, List.set_cons_zero, List.set_cons_succ])
        refine wpList_done (qk_intro ?_)
      refine wpAny_takePL 5 rfl (by kernel_rfl) (by kernel_rfl) (by kernel_rfl) (by rintro c d v a w ⟨h, _⟩; cases h) (by rfl) ?_
      (first | go_big_quiet_skip | (go_big_quiet_want; (go_big_quiet_op; (first | go_big_quiet_on | ((refine ⟨_, fun _ _ => rfl, ?_⟩); go_big_quiet_on))))); (refine wpQuiet_nil ?_); (try simp only [Act.put]); (try simp only [List.setIfInBounds_toArray, List.set_cons_zero, List.set_cons_succ])
      refine wpAny_all (rs := [7, 9]) (by kernel_rfl) (by simp) (ord_cons ?_ (ord_cons ?_ ord_nil))
      rotate_left 2
      refine wpAny_all (rs := [4, 9]) (by kernel_rfl) (by simp) (ord_cons ?_ (ord_cons ?_ ord_nil))
      rotate_left 2
      refine wpAny_all (rs := [4, 7]) (by kernel_rfl) (by simp) (ord_cons ?_ (ord_cons ?_ ord_nil))
      rotate_left 2
      all_goals
        refine wpOp_of_listL rfl ?_
        (first | ((with_reducible refine is_load ?_); (first | (refine own_ld (h := ?_)))) | ((with_reducible refine is_store ?_); (first | (refine own_stR (hO := hO) (h := ?_); clear hO; intro wv hO) | (refine own_st1 (hO := hO) (h := ?_); clear hO; intro wv hO))) | ((with_reducible refine is_load ?_); (refine own_ldW (hO := hO) (h := ?_))) | ((with_reducible refine is_store ?_); (refine own_stW (hO := hO) (h := ?_); clear hO; intro wv hO)) | ((refine wpList_step (fun K hK => ?_)); go_simp; (first | ((refine hK _ _ ?_); clear hK K)))); (try simp only [Act.put]); (try simp only [List.setIfInBounds_toArray, List.set_cons_zero, List.set_cons_succ])
        refine wpList_done (qk_intro ?_)
      refine wpAny_all (rs := [9]) (by kernel_rfl) (by simp) (ord_cons ?_ ord_nil)
      rotate_left 1
      refine wpAny_takePL 10 rfl (by kernel_rfl) (by kernel_rfl) (by kernel_rfl) (by rintro c d v a w ⟨h, _⟩; cases h) (by rfl) ?_
      (first | go_big_quiet_skip | (go_big_quiet_want; (go_big_quiet_op; (first | go_big_quiet_on | ((refine ⟨_, fun _ _ => rfl, ?_⟩); go_big_quiet_on))))); (refine wpQuiet_nil ?_); (try simp only [Act.put]); (try simp only [List.setIfInBounds_toArray, List.set_cons_zero, List.set_cons_succ])
      refine wpAny_all (rs := [7, 11]) (by kernel_rfl) (by simp) (ord_cons ?_ (ord_cons ?_ ord_nil))
      rotate_left 2
      refine wpAny_takePL 5 rfl (by kernel_rfl) (by kernel_rfl) (by kernel_rfl) (by rintro c d v a w ⟨h, _⟩; cases h) (by rfl) ?_
      (first | go_big_quiet_skip | (go_big_quiet_want; (go_big_quiet_op; (first | go_big_quiet_on | ((refine ⟨_, fun _ _ => rfl, ?_⟩); go_big_quiet_on))))); (refine wpQuiet_nil ?_); (try simp only [Act.put]); (try simp only [List.setIfInBounds_toArray, List.set_cons_zero, List.set_cons_succ])
      refine wpAny_all (rs := [9]) (by kernel_rfl) (by simp) (ord_cons ?_ ord_nil)
      rotate_left 1
      refine wpAny_all (rs := [4]) (by kernel_rfl) (by simp) (ord_cons ?_ ord_nil)
      rotate_left 1
      refine wpAny_takePL 5 rfl (by kernel_rfl) (by kernel_rfl) (by kernel_rfl) (by rintro c d v a w ⟨h, _⟩; cases h) (by rfl) ?_
      (first | go_big_quiet_skip | (go_big_quiet_want; (go_big_quiet_op; (first | go_big_quiet_on | ((refine ⟨_, fun _ _ => rfl, ?_⟩); go_big_quiet_on))))); (refine wpQuiet_nil ?_); (try simp only [Act.put]); (try simp only [List.setIfInBounds_toArray, List.set_cons_zero, List.set_cons_succ])
      refine wpAny_takePL 10 rfl (by kernel_rfl) (by kernel_rfl) (by kernel_rfl) (by rintro c d v a w ⟨h, _⟩; cases h) (by rfl) ?_
      (first | go_big_quiet_skip | (go_big_quiet_want; (go_big_quiet_op; (first | go_big_quiet_on | ((refine ⟨_, fun _ _ => rfl, ?_⟩); go_big_quiet_on))))); (refine wpQuiet_nil ?_); (try simp only [Act.put]); (try simp only [List.setIfInBounds_toArray, List.set_cons_zero, List.set_cons_succ])
      refine wpAny_all (rs := [7, 11]) (by kernel_rfl) (by simp) (ord_cons ?_ (ord_cons ?_ ord_nil))
      rotate_left 2
      refine wpAny_all (rs := [4]) (by kernel_rfl) (by simp) (ord_cons ?_ ord_nil)
      rotate_left 1
      all_goals
        refine wpOp_of_listL rfl ?_
        (first | ((with_reducible refine is_load ?_); (first | (refine own_ld (h := ?_)))) | ((with_reducible refine is_store ?_); (first | (refine own_stR (hO := hO) (h := ?_); clear hO; intro wv hO) | (refine own_st1 (hO := hO) (h := ?_); clear hO; intro wv hO))) | ((with_reducible refine is_load ?_); (refine own_ldW (hO := hO) (h := ?_))) | ((with_reducible refine is_store ?_); (refine own_stW (hO := hO) (h := ?_); clear hO; intro wv hO)) | ((refine wpList_step (fun K hK => ?_)); go_simp; (first | ((refine hK _ _ ?_); clear hK K)))); (try simp only [Act.put]); (try simp only [List.setIfInBounds_toArray, List.set_cons_zero, List.set_cons_succ])
        refine wpList_done (qk_intro ?_)
      refine wpAny_takePL 10 rfl (by kernel_rfl) (by kernel_rfl) (by kernel_rfl) (by rintro c d v a w ⟨h, _⟩; cases h) (by rfl) ?_
      (first | go_big_quiet_skip | (go_big_quiet_want; (go_big_quiet_op; (first | go_big_quiet_on | ((refine ⟨_, fun _ _ => rfl, ?_⟩); go_big_quiet_on))))); (refine wpQuiet_nil ?_); (try simp only [Act.put]); (try simp only [List.setIfInBounds_toArray, List.set_cons_zero, List.set_cons_succ])
      refine wpAny_all (rs := [11]) (by kernel_rfl) (by simp) (ord_cons ?_ ord_nil)
      rotate_left 1
      refine wpAny_all (rs := [11]) (by kernel_rfl) (by simp) (ord_cons ?_ ord_nil)
      rotate_left 1
      refine wpAny_all (rs := [7]) (by kernel_rfl) (by simp) (ord_cons ?_ ord_nil)
      rotate_left 1
      refine wpAny_takePL 10 rfl (by kernel_rfl) (by kernel_rfl) (by kernel_rfl) (by rintro c d v a w ⟨h, _⟩; cases h) (by rfl) ?_
      (first | go_big_quiet_skip | (go_big_quiet_want; (go_big_quiet_op; (first | go_big_quiet_on | ((refine ⟨_, fun _ _ => rfl, ?_⟩); go_big_quiet_on))))); (refine wpQuiet_nil ?_); (try simp only [Act.put]); (try simp only [List.setIfInBounds_toArray, List.set_cons_zero, List.set_cons_succ])
      refine wpAny_all (rs := [11]) (by kernel_rfl) (by simp) (ord_cons ?_ ord_nil)
      rotate_left 1
      refine wpAny_takePL 5 rfl (by kernel_rfl) (by kernel_rfl) (by kernel_rfl) (by rintro c d v a w ⟨h, _⟩; cases h) (by rfl) ?_
      (first | go_big_quiet_skip | (go_big_quiet_want; (go_big_quiet_op; (first | go_big_quiet_on | ((refine ⟨_, fun _ _ => rfl, ?_⟩); go_big_quiet_on))))); (refine wpQuiet_nil ?_); (try simp only [Act.put]); (try simp only [List.setIfInBounds_toArray, List.set_cons_zero, List.set_cons_succ])
      refine wpAny_takePL 10 rfl (by kernel_rfl) (by kernel_rfl) (by kernel_rfl) (by rintro c d v a w ⟨h, _⟩; cases h) (by rfl) ?_
      (first | go_big_quiet_skip | (go_big_quiet_want; (go_big_quiet_op; (first | go_big_quiet_on | ((refine ⟨_, fun _ _ => rfl, ?_⟩); go_big_quiet_on))))); (refine wpQuiet_nil ?_); (try simp only [Act.put]); (try simp only [List.setIfInBounds_toArray, List.set_cons_zero, List.set_cons_succ])
      refine wpAny_all (rs := [11]) (by kernel_rfl) (by simp) (ord_cons ?_ ord_nil)
      rotate_left 1
      refine wpAny_all (rs := [11]) (by kernel_rfl) (by simp) (ord_cons ?_ ord_nil)
      rotate_left 1
      refine wpAny_all (rs := [7]) (by kernel_rfl) (by simp) (ord_cons ?_ ord_nil)
      rotate_left 1
      refine wpAny_takePL 5 rfl (by kernel_rfl) (by kernel_rfl) (by kernel_rfl) (by rintro c d v a w ⟨h, _⟩; cases h) (by rfl) ?_
      (first | go_big_quiet_skip | (go_big_quiet_want; (go_big_quiet_op; (first | go_big_quiet_on | ((refine ⟨_, fun _ _ => rfl, ?_⟩); go_big_quiet_on))))); (refine wpQuiet_nil ?_); (try simp only [Act.put]); (try simp only [List.setIfInBounds_toArray, List.set_cons_zero, List.set_cons_succ])
      refine wpAny_takePL 10 rfl (by kernel_rfl) (by kernel_rfl) (by kernel_rfl) (by rintro c d v a w ⟨h, _⟩; cases h) (by rfl) ?_
      (first | go_big_quiet_skip | (go_big_quiet_want; (go_big_quiet_op; (first | go_big_quiet_on | ((refine ⟨_, fun _ _ => rfl, ?_⟩); go_big_quiet_on))))); (refine wpQuiet_nil ?_); (try simp only [Act.put]); (try simp only [List.setIfInBounds_toArray, List.set_cons_zero, List.set_cons_succ])
      refine wpAny_all (rs := [11]) (by kernel_rfl) (by simp) (ord_cons ?_ ord_nil)
      rotate_left 1
      all_goals
        refine wpOp_of_listL rfl ?_
        (first | ((with_reducible refine is_load ?_); (first | (refine own_ld (h := ?_)))) | ((with_reducible refine is_store ?_); (first | (refine own_stR (hO := hO) (h := ?_); clear hO; intro wv hO) | (refine own_st1 (hO := hO) (h := ?_); clear hO; intro wv hO))) | ((with_reducible refine is_load ?_); (refine own_ldW (hO := hO) (h := ?_))) | ((with_reducible refine is_store ?_); (refine own_stW (hO := hO) (h := ?_); clear hO; intro wv hO)) | ((refine wpList_step (fun K hK => ?_)); go_simp; (first | ((refine hK _ _ ?_); clear hK K)))); (try simp only [Act.put]); (try simp only [List.setIfInBounds_toArray, List.set_cons_zero, List.set_cons_succ])
        refine wpList_done (qk_intro ?_)
      refine wpAny_takePL 12 rfl (by kernel_rfl) (by kernel_rfl) (by kernel_rfl) (by rintro c d v a w ⟨h, _⟩; cases h) (by rfl) ?_
      (first | go_big_quiet_skip | (go_big_quiet_want; (go_big_quiet_op; (first | go_big_quiet_on | ((refine ⟨_, fun _ _ => rfl, ?_⟩); go_big_quiet_on))))); (refine wpQuiet_nil ?_); (try simp only [Act.put]); (try simp only [List.setIfInBounds_toArray, List.set_cons_zero, List.set_cons_succ])
      refine wpAny_all (rs := [13]) (by kernel_rfl) (by simp) (ord_cons ?_ ord_nil)
      rotate_left 1
      refine wpAny_takePL 12 rfl (by kernel_rfl) (by kernel_rfl) (by kernel_rfl) (by rintro c d v a w ⟨h, _⟩; cases h) (by rfl) ?_
      (first | go_big_quiet_skip | (go_big_quiet_want; (go_big_quiet_op; (first | go_big_quiet_on | ((refine ⟨_, fun _ _ => rfl, ?_⟩); go_big_quiet_on))))); (refine wpQuiet_nil ?_); (try simp only [Act.put]); (try simp only [List.setIfInBounds_toArray, List.set_cons_zero, List.set_cons_succ])
      refine wpAny_all (rs := [13]) (by kernel_rfl) (by simp) (ord_cons ?_ ord_nil)
      rotate_left 1
      refine wpAny_takePL 12 rfl (by kernel_rfl) (by kernel_rfl) (by kernel_rfl) (by rintro c d v a w ⟨h, _⟩; cases h) (by rfl) ?_
      (first | go_big_quiet_skip | (go_big_quiet_want; (go_big_quiet_op; (first | go_big_quiet_on | ((refine ⟨_, fun _ _ => rfl, ?_⟩); go_big_quiet_on))))); (refine wpQuiet_nil ?_); (try simp only [Act.put]); (try simp only [List.setIfInBounds_toArray, List.set_cons_zero, List.set_cons_succ])
      refine wpAny_all (rs := [13]) (by kernel_rfl) (by simp) (ord_cons ?_ ord_nil)
      rotate_left 1
      refine wpAny_takePL 12 rfl (by kernel_rfl) (by kernel_rfl) (by kernel_rfl) (by rintro c d v a w ⟨h, _⟩; cases h) (by rfl) ?_
      (first | go_big_quiet_skip | (go_big_quiet_want; (go_big_quiet_op; (first | go_big_quiet_on | ((refine ⟨_, fun _ _ => rfl, ?_⟩); go_big_quiet_on))))); (refine wpQuiet_nil ?_); (try simp only [Act.put]); (try simp only [List.setIfInBounds_toArray, List.set_cons_zero, List.set_cons_succ])
      refine wpAny_all (rs := [13]) (by kernel_rfl) (by simp) (ord_cons ?_ ord_nil)
      rotate_left 1
      refine wpAny_takePL 12 rfl (by kernel_rfl) (by kernel_rfl) (by kernel_rfl) (by rintro c d v a w ⟨h, _⟩; cases h) (by rfl) ?_
      (first | go_big_quiet_skip | (go_big_quiet_want; (go_big_quiet_op; (first | go_big_quiet_on | ((refine ⟨_, fun _ _ => rfl, ?_⟩); go_big_quiet_on))))); (refine wpQuiet_nil ?_); (try simp only [Act.put]); (try simp only [List.setIfInBounds_toArray, List.set_cons_zero, List.set_cons_succ])
      refine wpAny_all (rs := [13]) (by kernel_rfl) (by simp) (ord_cons ?_ ord_nil)
      rotate_left 1
      refine wpAny_takePL 12 rfl (by kernel_rfl) (by kernel_rfl) (by kernel_rfl) (by rintro c d v a w ⟨h, _⟩; cases h) (by rfl) ?_
      (first | go_big_quiet_skip | (go_big_quiet_want; (go_big_quiet_op; (first | go_big_quiet_on | ((refine ⟨_, fun _ _ => rfl, ?_⟩); go_big_quiet_on))))); (refine wpQuiet_nil ?_); (try simp only [Act.put]); (try simp only [List.setIfInBounds_toArray, List.set_cons_zero, List.set_cons_succ])
      refine wpAny_all (rs := [13]) (by kernel_rfl) (by simp) (ord_cons ?_ ord_nil)
      rotate_left 1
      refine wpAny_takePL 12 rfl (by kernel_rfl) (by kernel_rfl) (by kernel_rfl) (by rintro c d v a w ⟨h, _⟩; cases h) (by rfl) ?_
      (first | go_big_quiet_skip | (go_big_quiet_want; (go_big_quiet_op; (first | go_big_quiet_on | ((refine ⟨_, fun _ _ => rfl, ?_⟩); go_big_quiet_on))))); (refine wpQuiet_nil ?_); (try simp only [Act.put]); (try simp only [List.setIfInBounds_toArray, List.set_cons_zero, List.set_cons_succ])
      refine wpAny_all (rs := [13]) (by kernel_rfl) (by simp) (ord_cons ?_ ord_nil)
      rotate_left 1
      refine wpAny_takePL 12 rfl (by kernel_rfl) (by kernel_rfl) (by kernel_rfl) (by rintro c d v a w ⟨h, _⟩; cases h) (by rfl) ?_
      (first | go_big_quiet_skip | (go_big_quiet_want; (go_big_quiet_op; (first | go_big_quiet_on | ((refine ⟨_, fun _ _ => rfl, ?_⟩); go_big_quiet_on))))); (refine wpQuiet_nil ?_); (try simp only [Act.put]); (try simp only [List.setIfInBounds_toArray, List.set_cons_zero, List.set_cons_succ])
      refine wpAny_all (rs := [13]) (by kernel_rfl) (by simp) (ord_cons ?_ ord_nil)
      rotate_left 1
      all_goals
        refine wpOp_of_listL rfl ?_
        (first | ((with_reducible refine is_load ?_); (first | (refine own_ld (h := ?_)))) | ((with_reducible refine is_store ?_); (first | (refine own_stR (hO := hO) (h := ?_); clear hO; intro wv hO) | (refine own_st1 (hO := hO) (h := ?_); clear hO; intro wv hO))) | ((with_reducible refine is_load ?_); (refine own_ldW (hO := hO) (h := ?_))) | ((with_reducible refine is_store ?_); (refine own_stW (hO := hO) (h := ?_); clear hO; intro wv hO)) | ((refine wpList_step (fun K hK => ?_)); go_simp; (first | ((refine hK _ _ ?_); clear hK K)))); (try simp only [Act.put]); (try simp only [List.setIfInBounds_toArray, List.set_cons_zero, List.set_cons_succ])
        refine wpList_done (qk_intro ?_)
      exact wpAny_done (by kernel_rfl) ⟨rfl, rfl, hO⟩ _
      exact wpAny_done (by kernel_rfl) ⟨rfl, rfl, hO⟩ _
      exact wpAny_done (by kernel_rfl) ⟨rfl, rfl, hO⟩ _
      exact wpAny_done (by kernel_rfl) ⟨rfl, rfl, hO⟩ _
      exact wpAny_done (by kernel_rfl) ⟨rfl, rfl, hO⟩ _
      exact wpAny_done (by kernel_rfl) ⟨rfl, rfl, hO⟩ _
      exact wpAny_done (by kernel_rfl) ⟨rfl, rfl, hO⟩ _
      exact wpAny_done (by kernel_rfl) ⟨rfl, rfl, hO⟩ _
    clear hO
    intro wv hO
    clear hn0
    rw [HL1.out] at hO
    go_wp2_with (first | ((with_reducible refine is_load ?_); (first | (refine own_ldP hO (h := ?_)) | (refine own_ld (h := ?_)))) | ((with_reducible refine is_store ?_); (first | (refine own_stRp (hO := hO) (h := ?_); clear hO; intro wv hO) | (refine own_st1p (hO := hO) (h := ?_); clear hO; intro wv hO) | (refine own_stR (hO := hO) (h := ?_); clear hO; intro wv hO) | (refine own_st1 (hO := hO) (h := ?_); clear hO; intro wv hO))) | ((with_reducible refine is_box ?_); (first | (refine own_bx (o := ⟨some 1, _, _, _, _, _⟩) (hO := hO) (h := ?_); clear hO; intro n1 wv hO))) | ((with_reducible refine is_alloc ?_); (first | (refine own_al (o := ⟨some 4, _, _, _, _, _⟩) (hO := hO) (h := ?_); clear hO; intro n4 wv hO))) | ((with_reducible refine is_append ?_); (first | (refine own_ap (o := ⟨some 29, _, _, _, _, _⟩) (hO := hO) (h := ?_); clear hO; intro g29 c29 wv hO))) | (go_at_call 51; refine (h1 _ _ (by unfold OwnsB; rw [HN1.out]; exact hO.row _ List.mem_cons_self)).mono ?_; rintro e wv hw; obtain rfl := hw.1; have hw2 := hw.2.2; rw [HN1.out] at hw2; replace hO := hO.afterRow .here hw.2.1 hw2; clear hw hw2 h1) | (go_at_call 51; refine (h2 _ _ (by unfold OwnsB; rw [HN2.out]; exact hO.row _ List.mem_cons_self)).mono ?_; rintro e wv hw; obtain rfl := hw.1; have hw2 := hw.2.2; rw [HN2.out] at hw2; replace hO := hO.afterRow .here hw.2.1 hw2; clear hw hw2 h2) | (go_at_call 51; refine (h3 _ _ (by unfold OwnsB; rw [HN3.out]; exact hO.row _ List.mem_cons_self)).mono ?_; rintro e wv hw; obtain rfl := hw.1; have hw2 := hw.2.2; rw [HN3.out] at hw2; replace hO := hO.afterRow .here hw.2.1 hw2; clear hw hw2 h3) | (go_at_call 52; refine (h6 _ _ (by unfold OwnsB; rw [HN4.out]; exact hO.row _ List.mem_cons_self)).mono ?_; rintro e wv hw; obtain rfl := hw.1; have hw2 := hw.2.2; rw [HN4.out] at hw2; replace hO := hO.afterRow .here hw.2.1 hw2; clear hw hw2 h6) | (go_at_call 53; refine (hsum _ _ (by unfold OwnsB; rw [HN6.out]; exact hO.row _ List.mem_cons_self)).mono ?_; rintro e wv hw; obtain rfl := hw.1; have hw2 := hw.2.2; rw [HN6.out] at hw2; replace hO := hO.afterRow .here hw.2.1 hw2; clear hw hw2 hsum) | ((with_reducible refine is_load ?_); (refine own_ldW (hO := hO) (h := ?_))) | ((with_reducible refine is_store ?_); (refine own_stW (hO := hO) (h := ?_); clear hO; intro wv hO)))
    go_ret2
    exact ⟨_, rfl, by rw [HN7.out]; exact hO.newRow List.mem_cons_self, hO.keep.below⟩
end Go.Proofs.YtjfiipbjphabeaaDoor
