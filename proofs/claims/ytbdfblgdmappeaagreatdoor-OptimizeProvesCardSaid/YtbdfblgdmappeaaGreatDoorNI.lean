/- The reference of packet sets: alike. -/
import Derived.Test.YtbdfblgdmappeaaGreatDoorMQ
import Derived.Test.YtbdfblgdmappeaaGreatDoorMV
import Derived.Test.YtbdfblgdmappeaaGreatDoorNC
namespace Go.Proofs.YtbdfblgdmappeaaGreatDoor
open Go.RowKit
set_option maxRecDepth 100000
theorem run_neq_rg {w : World} (r s : Rg) : (binOp .neq 96 (.agg #[.int .u32 r.lo, .int .u32 r.hi]) (.agg #[.int .u32 s.lo, .int .u32 s.hi])).run Tryz.prog w = .ok (.bool (!decide (r = s))) w := by
 rw [run_neq_struct]
 rw [show (10000 : Nat) = 9998 + 1 + 1 from rfl, eq_rg, Result.andThen_ok]
attribute [go_sem high] run_neq_rg
theorem zTo_eq {f : Nat} {a b : Bx} : zTo f a = zTo f b ↔ ∀ k, f ≤ k → k < 5 → a.at k = b.at k := by
 constructor
 ·intro h k h1 h2
  have : (zTo f a).at k = (zTo f b).at k := by rw [h]
  rwa [zTo_at _ _ h2, zTo_at _ _ h2, if_neg (by omega), if_neg (by omega)] at this
 ·intro h
  refine Bx.ext_at fun k hk => ?_
  rw [zTo_at _ _ hk, zTo_at _ _ hk]
  by_cases c : k < f
  ·rw [if_pos c, if_pos c]
  ·rw [if_neg c, if_neg c]; exact h k (by omega) hk
set_option maxHeartbeats 8000000 in
theorem alike_any {va vb : Value} {l m : List Bx} {f : Nat} (w : World) (hva : IsBoxes w va l) (hvb : IsBoxes w vb m) (hf : f ≤ 5) (nl : l.length ≤ 1000000000000) (nm : m.length ≤ 1000000000000) :
  Calls Tryz.prog 195 #[va, vb, .int .i64 f] w fun e w' => e = .returned (.bool (decide (l.map (zTo f) = m.map (zTo f)))) ∧ Below w.heap.size w w' := by
 have hO := roS_arg2 hva hvb
 obtain ⟨a, c, rfl, ha⟩ := hva.view
 obtain ⟨a2, c2, rfl, ha2⟩ := hvb.view
 clear hva hvb
 by_cases hl : l.length = m.length
 ·have q : ((l.length : Int) != (m.length : Int)) = false := by simp [hl]
  have HL := Lib.hid hl
  clear hl
  go_enter Tryz.func195, Tryz.ntmps195
  go_wp2_with fail
  go_loopw [7] (fun i wr => ∃ k : Nat, k ≤ l.length ∧ i = .int .i64 k ∧ Hid ((l.take k).map (zTo f) = (m.take k).map (zTo f)) ∧ Own [] w [] [] (roS (.slice a l.length c) (cellsB l) ++ roS (.slice a2 m.length c2) (cellsB m)) wr) (fun i _ => l.length - (intOf i).toNat)
  case atStart => exact ⟨0, by omega, rfl, Lib.hid (by simp), hO⟩
  case round =>
   clear hO
   obtain ⟨k, hk, rfl, HI, hO⟩ := hrel
   have s2 : IntKind.i64.wrap ((k : Int) + 1) = (k : Int) + 1 := IntWalk.i64_in _ (by omega)
   by_cases hlt : k < l.length
   ·have hlt2 : k < m.length := by have := HL.out; omega
    obtain ⟨g, o, rfl⟩ := ha (by omega)
    obtain ⟨g2, o2, rfl⟩ := ha2 (by omega)
    simp only [roS, List.cons_append, List.nil_append] at hO
    go_wp2_with fail
    go_loopw [8] (fun i wr => ∃ j : Nat, f ≤ j ∧ j ≤ 5 ∧ i = .int .i64 j ∧ Hid (∀ q, f ≤ q → q < j → l[k].at q = m[k].at q) ∧ Own [] w [] [] [⟨g, o, cellsB l⟩, ⟨g2, o2, cellsB m⟩] wr) (fun i _ => 5 - (intOf i).toNat)
    case atStart => exact ⟨f, by omega, hf, rfl, Lib.hid (fun q h1 h2 => by omega), hO⟩
    case round =>
     clear hO
     obtain ⟨j, hj1, hj2, rfl, HQ, hO⟩ := hrel
     have s3 : IntKind.i64.wrap ((j : Int) + 1) = (j : Int) + 1 := IntWalk.i64_in _ (by omega)
     by_cases hj : j < 5
     ·have g1 : decide ((j : Int) < 5) = true := decide_eq_true (by omega)
      have y1 : (0 : Int) ≤ (j : Int) := by omega
      have y2 : (j : Int) < 5 := by omega
      have t1 := cb_rg l hlt hj
      have t2 := cb_rg m hlt2 hj
      by_cases he : l[k].at j = m[k].at j
      ·have q1 : (!decide (l[k].at j = m[k].at j)) = false := by simp [he]
       have HE := Lib.hid (fun (q : Nat) (h1 : f ≤ q) (h2 : q < j + 1) => show l[k].at q = m[k].at q by
        rcases Nat.lt_or_ge q j with h9 | h9
        ·exact HQ.out q h1 h9
        ·obtain rfl : q = j := by omega
         exact he)
       clear he
       generalize l[k].at j = x at *
       generalize m[k].at j = y at *
       go_wp2_with fail
       (refine own_quiet hO (by kernel_rfl) (by kernel_rfl) ?_; clear hO; (repeat (go_big_quiet_want; (first | ((with_reducible refine is_loadQ ?_); (refine q_ld (h := ?_)); (try simp only [Act.put]); (try simp only [List.setIfInBounds_toArray, List.set_cons_zero, List.set_cons_succ]); go_big_quiet_on) | (go_big_quiet_op; (first | go_big_quiet_on | ((refine ⟨_, fun _ _ => rfl, ?_⟩); go_big_quiet_on)))))); (refine wpQuiet_nil ?_); intro wv hO)
       go_wp2_with fail
       go_roundw
       case rel =>
        exact ⟨j + 1, by omega, by omega, by go_num, HE, hO⟩
       case measure => simp [intOf]; omega
      ·have q1 : (!decide (l[k].at j = m[k].at j)) = true := by simp [he]
       have E := Lib.hid (show decide (l.map (zTo f) = m.map (zTo f)) = false by
        refine decide_eq_false fun e => he ?_
        have e2 : zTo f l[k] = zTo f m[k] := by
         have h1 : (l.map (zTo f))[k]? = some (zTo f l[k]) := by rw [List.getElem?_map, List.getElem?_eq_getElem hlt]; rfl
         have h2 : (m.map (zTo f))[k]? = some (zTo f m[k]) := by rw [List.getElem?_map, List.getElem?_eq_getElem hlt2]; rfl
         rw [e, h2] at h1
         exact (Option.some.inj h1).symm
        exact zTo_eq.1 e2 j hj1 hj)
       clear he
       go_wp2_with fail
       (refine own_quiet hO (by kernel_rfl) (by kernel_rfl) ?_; clear hO; (repeat (go_big_quiet_want; (first | ((with_reducible refine is_loadQ ?_); (refine q_ld (h := ?_)); (try simp only [Act.put]); (try simp only [List.setIfInBounds_toArray, List.set_cons_zero, List.set_cons_succ]); go_big_quiet_on) | (go_big_quiet_op; (first | go_big_quiet_on | ((refine ⟨_, fun _ _ => rfl, ?_⟩); go_big_quiet_on)))))); (refine wpQuiet_nil ?_); intro wv hO)
       go_wp2_with fail
       go_ret
       exact ⟨ret_bool E.out.symm, hO.keep.below⟩
     ·obtain rfl : j = 5 := by omega
      have g1 : decide (((5 : Nat) : Int) < 5) = false := by decide
      go_wp2_with fail
      go_roundw
      case rel =>
       refine ⟨k + 1, by omega, by go_num, Lib.hid ?_, hO⟩
       rw [List.take_succ_eq_append_getElem hlt, List.take_succ_eq_append_getElem hlt2, List.map_append, List.map_append, HI.out]
       have : zTo f l[k] = zTo f m[k] := zTo_eq.2 fun q h1 h2 => HQ.out q h1 h2
       simp [this]
      case measure => simp [intOf]; omega
   ·obtain rfl : k = l.length := by omega
    have E := Lib.hid (show decide (l.map (zTo f) = m.map (zTo f)) = true by
     have h := HI.out; rw [List.take_length, HL.out, List.take_length] at h; simpa using h)
    go_wp2_with fail
    go_ret
    exact ⟨ret_bool E.out.symm, hO.keep.below⟩
 ·have q : ((l.length : Int) != (m.length : Int)) = true := by simp; omega
  have E := Lib.hid (show decide (l.map (zTo f) = m.map (zTo f)) = false by
   refine decide_eq_false fun e => hl ?_
   have := congrArg List.length e
   simpa using this)
  clear hl
  go_enter Tryz.func195, Tryz.ntmps195
  go_wp2_with fail
  go_ret
  exact ⟨ret_bool E.out.symm, hO.keep.below⟩
theorem Own.swap2 {M : List Nat} {w0 w : World} {X : List Chunk} {R : List Row} {S : List Ro} {a b : Chunk} (hO : Own M w0 (a :: b :: X) R S w) : Own M w0 (b :: a :: X) R S w := by
 have hp : (excl (a :: b :: X) R).Perm (excl (b :: a :: X) R) := List.Perm.swap _ _ _
 refine ⟨hO.keep, fun c hc => hO.chunk c ?_, hO.row, hO.ro, hp.nodup_iff.1 hO.nd, fun n hn => hO.free n (hp.mem_iff.2 hn), fun s hs hne hm => hO.apart s hs hne (hp.mem_iff.2 hm)⟩
 simp only [List.mem_cons] at hc ⊢
 rcases hc with h | h | h <;> simp [h]
theorem rcan_base {vl : Value} {l : List Bx} (w : World) (hv : IsBoxes w vl l) (hne : l ≠ []) :
  Calls Tryz.prog 156 #[vl, .int .i64 5] w fun e w' => e = .returned (.bool (dvd 5 0 l)) ∧ Below w.heap.size w w' := by
 have hO := own_start [] w
 obtain ⟨a, c, rfl, ha⟩ := hv.view
 have hp := List.length_pos_iff.2 hne
 have E := Lib.hid (show ((l.length : Int) == 1) = dvd 5 0 l by
  rw [Bool.eq_iff_iff]; show _ ↔ decide (l.length ≤ 1) = true; simp; omega)
 clear hv hne
 go_enter Tryz.func156, Tryz.ntmps156
 go_wp2_with fail
 go_ret
 exact ⟨ret_bool E.out, hO.keep.below⟩
def lastR (i : Nat) (r : Rg) (f : Nat) (P : List Bx) : Option Grp := if i = 0 then none else some ⟨r, P.map (zTo (f + 1))⟩
theorem drop_get {l : List Bx} {i k : Nat} (h : k < (l.drop i).length) : (l.drop i)[k] = l[i + k]'(by simp at h; omega) := by simp
set_option maxHeartbeats 32000000 in
theorem rcan_any : ∀ (n f : Nat), f + n = 5 → ∀ (vl : Value) (l : List Bx) (w : World), IsBoxes w vl l → (n = 0 → l ≠ []) → vL l → l.length ≤ 1000000000000 →
  Calls Tryz.prog 156 #[vl, .int .i64 f] w fun e w' => e = .returned (.bool (dvd f n l)) ∧ Below w.heap.size w w' := by
 intro n
 induction n with
 | zero =>
  intro f hf vl l w hv hne _ _
  obtain rfl : f = 5 := by omega
  exact rcan_base w hv (hne rfl)
 | succ n ih =>
  intro f hfn vl l w hv _ kl nl
  have hf : f < 5 := by omega
  have hO := own_arg hv
  have g0 : ((f : Int) == 5) = false := by simp; omega
  obtain ⟨chk, hchk⟩ : ∃ chk : List Bx → Bool, chk = fun l => dvd (f + 1) n l := ⟨_, rfl⟩
  have HE0 := Lib.hid (show dvd f (n + 1) l = dvG chk f none l by rw [hchk]; rfl)
  have HI : Hid (∀ (vl : Value) (l : List Bx) (w : World), IsBoxes w vl l → l ≠ [] → vL l → l.length ≤ 1000000000000 → Calls Tryz.prog 156 #[vl, .int .i64 ((f : Int) + 1)] w fun e w' => e = .returned (.bool (chk l)) ∧ Below w.heap.size w w') := Lib.hid (by
   rw [hchk]; intro vl l w h1 h2 h3 h4
   have := ih (f + 1) (by omega) vl l w h1 (fun _ => h2) h3 h4
   rwa [show ((f + 1 : Nat) : Int) = (f : Int) + 1 by omega] at this)
  clear ih hchk
  generalize dvd f (n + 1) l = D at *
  have s4 : IntKind.i64.wrap ((f : Int) + 1) = (f : Int) + 1 := IntWalk.i64_in _ (by omega)
  have y1 : (0 : Int) ≤ (f : Int) := by omega
  have y2 : (f : Int) < 5 := by omega
  obtain ⟨a, c, rfl, ha⟩ := hv.view
  have hcap : l.length ≤ c := hv.cap
  have HFl := Lib.hid hv.form
  have HK := Lib.hid kl
  clear kl hv
  go_enter Tryz.func156, Tryz.ntmps156
  go_wp2_with fail
  go_loopg [5, 6] (l.length + 1) (fun gk q5 q6 wr => ∃ (i : Nat) (P : List Bx) (rL : Rg), i ≤ l.length ∧ l.length + 1 - i ≤ gk ∧ q6 = .int .i64 i ∧ (i = 0 → P = []) ∧ P.length ≤ 1000000000000 ∧ Hid (∀ w', IsBoxes w' (.slice a l.length c) l → IsBoxes w' q5 P) ∧ Hid (∀ h : i - 1 < l.length, 0 < i → l[i - 1].at f = rL) ∧ Hid (D = dvG chk f (lastR i rL f P) (l.drop i)) ∧ Own [] w [] [] (roS (.slice a l.length c) (cellsB l)) wr)
  case atStart => exact ⟨0, [], ⟨0, 0⟩, by omega, by omega, rfl, fun _ => rfl, by simp, Lib.hid (fun _ _ => .inl ⟨rfl, rfl⟩), Lib.hid (fun _ h => absurd h (by omega)), Lib.hid (by rw [HE0.out, List.drop_zero]; rfl), hO⟩
  case round =>
   clear hO HE0
   obtain ⟨i, P, rL, hi, hgk, rfl, hP0, nP, HPv, HrL, HE, hO⟩ := hrel
   by_cases hlt : i < l.length
   ·obtain ⟨g, o, rfl⟩ := ha (by omega)
    simp only [roS] at hO
    have t0 := cb_rg l hlt hf
    have hdr : l.drop i = l[i] :: l.drop (i + 1) := List.drop_eq_getElem_cons hlt
    obtain ⟨N, hN⟩ : ∃ N, runLen f (l[i].at f) (l.drop i) = N := ⟨_, rfl⟩
    have hN1 : 1 ≤ N := by rw [← hN, hdr]; exact runLen_pos f _ _
    have hNl : i + N ≤ l.length := by have := runLen_le f (l[i].at f) (l.drop i); rw [hN, List.length_drop] at this; omega
    obtain ⟨M, hM⟩ : ∃ M, M = i + N := ⟨_, rfl⟩
    have hNr := fun (j : Nat) (h0 : i ≤ j) (h : j < l.length) (hk : j ≤ M) => show (if l[j].at f = l[i].at f then j + 1 ≤ M else M = j) by
     obtain ⟨k, rfl⟩ : ∃ k, j = i + k := ⟨j - i, by omega⟩
     have h2 : k < (l.drop i).length := by simp; omega
     have := run_more (f := f) (r := l[i].at f) h2 (by rw [hN]; omega)
     rw [hN, drop_get h2] at this
     split
     ·rename_i e; rw [if_pos e] at this; omega
     ·rename_i e; rw [if_neg e] at this; omega
    have hM1 : i < M := by omega
    have hM2 : M ≤ l.length := by omega
    have HRm := Lib.hid hNr
    have HG := Lib.hid (show D = (chk ((l.drop i).take N) && (okNext (lastR i rL f P) ⟨l[i].at f, ((l.drop i).take N).map (zTo (f + 1))⟩ && dvG chk f (some ⟨l[i].at f, ((l.drop i).take N).map (zTo (f + 1))⟩) ((l.drop i).drop N))) by
     rw [HE.out, hdr, dvG_cons, frontG, ← hdr, hN])
    have HT := Lib.hid (fun b (hb : b ∈ (l.drop i).take N) => show b.at f = l[i].at f from runLen_take (l := l.drop i) b (by rw [hN]; exact hb))
    have HPt := Lib.hid (fun (w' : World) (h : IsBoxes w' (.slice (some ⟨g, o, none⟩) l.length c) l) => h.part i N (c - i) (by omega) (by omega))
    have hPl : ((l.drop i).take N).length = N := by simp; omega
    have hkv : vL ((l.drop i).take N) := fun b hb => HK.out b (List.mem_of_mem_drop (List.mem_of_mem_take hb))
    have hbB := HK.out l[i] (List.getElem_mem hlt) f hf
    have tl := topOf_le f
    have HKv := Lib.hid hkv
    have HPl := Lib.hid hPl
    obtain rfl : N = M - i := by omega
    clear hN hNr ha hdr hkv hPl HE hM hNl hN1
    go_upto_block 2 with fail
    go_cut [7] (fun q7 wx => q7 = .int .i64 (M : Int) ∧ Own [] w [] [] [⟨g, o, cellsB l⟩] wx)
    case first =>
     go_wp2_with fail
     go_loopg [7] (l.length + 1) (fun gj q7 wr => ∃ j : Nat, l.length + 1 - j ≤ gj ∧ q7 = .int .i64 (j : Int) ∧ i ≤ j ∧ j ≤ M ∧ Own [] w [] [] [⟨g, o, cellsB l⟩] wr)
     case atStart => exact ⟨i, by omega, rfl, by omega, by omega, hO⟩
     case round =>
      clear hO
      obtain ⟨j, hgj, rfl, hj1, hjM, hO⟩ := hrel
      have s5 : IntKind.i64.wrap ((j : Int) + 1) = (j : Int) + 1 := IntWalk.i64_in _ (by omega)
      by_cases hkl : j < l.length
      ·have hm := HRm.out j hj1 hkl hjM
       have t1 := cb_rg l hkl hf
       have z1 : (0 : Int) ≤ (j : Int) := by omega
       have z2 : (j : Int) < (l.length : Int) := by omega
       have g2 : decide ((j : Int) < (l.length : Int)) = true := decide_eq_true z2
       clear HG HT HRm HrL
       generalize l[j].at f = x at *
       generalize l[i].at f = y at *
       by_cases hx : x = y
       ·rw [if_pos hx] at hm
        have g1 : decide (x = y) = true := decide_eq_true hx
        have HX := Lib.hid hx
        clear hx
        go_wp2_with fail
        (refine own_quiet hO (by kernel_rfl) (by kernel_rfl) ?_; clear hO; (repeat (go_big_quiet_want; (first | ((with_reducible refine is_loadQ ?_); (refine q_ld (h := ?_)); (try simp only [Act.put]); (try simp only [List.setIfInBounds_toArray, List.set_cons_zero, List.set_cons_succ]); go_big_quiet_on) | (go_big_quiet_op; (first | go_big_quiet_on | ((refine ⟨_, fun _ _ => rfl, ?_⟩); go_big_quiet_on)))))); (refine wpQuiet_nil ?_); intro wv hO)
        go_wp2_with fail
        go_roundg (l.length - j)
        case measure => omega
        case rel => exact ⟨j + 1, by omega, by go_num, by omega, by omega, hO⟩
       ·rw [if_neg hx] at hm
        have g1 : decide (x = y) = false := decide_eq_false hx
        have HM := Lib.hid hm
        clear hm
        go_wp2_with fail
        (refine own_quiet hO (by kernel_rfl) (by kernel_rfl) ?_; clear hO; (repeat (go_big_quiet_want; (first | ((with_reducible refine is_loadQ ?_); (refine q_ld (h := ?_)); (try simp only [Act.put]); (try simp only [List.setIfInBounds_toArray, List.set_cons_zero, List.set_cons_succ]); go_big_quiet_on) | (go_big_quiet_op; (first | go_big_quiet_on | ((refine ⟨_, fun _ _ => rfl, ?_⟩); go_big_quiet_on)))))); (refine wpQuiet_nil ?_); intro wv hO)
        go_wp2_with fail
        go_meet
        case rel => exact ⟨by rw [HM.out], hO⟩
      ·have hjx : M = j := by omega
       have g2 : decide ((j : Int) < (l.length : Int)) = false := decide_eq_false (by omega)
       have HM := Lib.hid hjx
       clear hjx HG HT HRm HrL
       go_wp2_with fail
       (refine own_quiet hO (by kernel_rfl) (by kernel_rfl) ?_; clear hO; (repeat (first | go_big_quiet_skip | (go_big_quiet_want; (go_big_quiet_op; (first | go_big_quiet_on | ((refine ⟨_, fun _ _ => rfl, ?_⟩); go_big_quiet_on)))))); (refine wpQuiet_nil ?_); intro wv hO)
       go_wp2_with fail
       go_meet
       case rel => exact ⟨by rw [HM.out], hO⟩
    case rest =>
     clear hO
     obtain ⟨rfl, hO⟩ := hcut
     have z1 : (0 : Int) ≤ (i : Int) := by omega
     have z3 : (i : Int) ≤ (M : Int) := by omega
     have z4 : (M : Int) ≤ (c : Int) := by omega
     obtain ⟨T, hT9⟩ : ∃ T, (l.drop i).take (M - i) = T := ⟨_, rfl⟩
     rw [hT9] at HG HT HPt HKv HPl
     have hnT : T.length = M - i := HPl.out
     go_upto_if 51 with (fail)
     go_cut [] (fun wx => Hid (okNext (lastR i rL f P) ⟨l[i].at f, T.map (zTo (f + 1))⟩ = true) ∧ Own [] w [] [] [⟨g, o, cellsB l⟩] wx)
     case first =>
      by_cases hi0 : 0 < i
      ·have gi : decide (0 < i) = true := decide_eq_true hi0
       have gi' : decide ((0 : Int) < (i : Int)) = true := decide_eq_true (by omega)
       obtain ⟨p, hp⟩ : ∃ p, p = i - 1 := ⟨_, rfl⟩
       have hpl : p < l.length := by omega
       have t2 := cb_rg l hpl hf
       have hrl : l[p].at f = rL := by subst hp; exact HrL.out (by omega) hi0
       have hbL := HK.out l[p] (List.getElem_mem hpl) f hf
       rw [hrl] at t2 hbL
       have s6 : IntKind.i64.wrap ((i : Int) - 1) = (p : Int) := by rw [show (i : Int) - 1 = (p : Int) by omega]; exact IntWalk.i64_in _ (by omega)
       have z5 : (0 : Int) ≤ (p : Int) := by omega
       have hokL : lastR i rL f P = some ⟨rL, P.map (zTo (f + 1))⟩ := by unfold lastR; rw [if_neg (by omega)]
       have HOK := Lib.hid (show okNext (lastR i rL f P) ⟨l[i].at f, T.map (zTo (f + 1))⟩ = !(decide ((l[i].at f).lo ≤ rL.hi) || (decide ((l[i].at f).lo = rL.hi + 1) && decide (T.map (zTo (f + 1)) = P.map (zTo (f + 1))))) by rw [hokL]; rfl)
       have halk := fun w h1 h2 => alike_any (va := u5) (vb := .slice (some ⟨g, o + i * 10, none⟩) (M - i) (c - i)) (l := P) (m := T) (f := f + 1) w h1 h2 (by omega) nP (by omega)
       rw [show ((f + 1 : Nat) : Int) = (f : Int) + 1 by omega] at halk
       clear hp hrl hokL HT HrL
       generalize l[i].at f = x at *
       go_upto_region 12 with (fail)
       go_cut [9, 10] (fun q9 q10 wx => ∃ n9 n10 : Nat, q9 = .pointer (some ⟨n9, 0, none⟩) ∧ q10 = .pointer (some ⟨n10, 0, none⟩) ∧ Own [] w [⟨n9, [.int .u32 rL.lo, .int .u32 rL.hi], 96⟩, ⟨n10, [.int .u32 x.lo, .int .u32 x.hi], 96⟩] [] [⟨g, o, cellsB l⟩] wx)
       case first =>
        refine wp_region_any (by kernel_rfl) ?_
        replace hO := hO.drew
        have ix9 := Ix.mk [0, 1, 2, 3, 4, 5, 7, 8, 9, 10, 11]
        iterate 11 (refine wpAny_tk ix9 ?_; replace ix9 := ix9.tail; (first | go_big_quiet_skip | (go_big_quiet_want; (go_big_quiet_op; (first | go_big_quiet_on | ((refine ⟨_, fun _ _ => rfl, ?_⟩); go_big_quiet_on))))); (refine wpQuiet_nil ?_); (try simp only [Act.put]); (try simp only [List.setIfInBounds_toArray, List.set_cons_zero, List.set_cons_succ]))
        clear ix9
        refine wpAny_all (rs := [6, 12, 13, 14]) (by kernel_rfl) (by simp) (ord_cons ?_ (ord_cons ?_ (ord_cons ?_ (ord_cons ?_ ord_nil))))
        rotate_left 4
        all_goals
         refine wpOp_of_listL rfl ?_
         (first | ((with_reducible refine is_load ?_); refine own_ld (h := ?_)) | ((with_reducible refine is_alloc ?_); (first | (refine own_al (o := ⟨some 9, _, _, _, _, _⟩) (hO := hO) (h := ?_); clear hO; intro n9 wv hO) | (refine own_al (o := ⟨some 10, _, _, _, _, _⟩) (hO := hO) (h := ?_); clear hO; intro n10 wv hO)))); (try simp only [Act.put]); (try simp only [List.setIfInBounds_toArray, List.set_cons_zero, List.set_cons_succ])
         refine wpList_done (qk_intro ?_)
        refine wpAny_all (rs := [12, 13, 14]) (by kernel_rfl) (by simp) (ord_cons ?_ (ord_cons ?_ (ord_cons ?_ ord_nil)))
        rotate_left 3
        refine wpAny_all (rs := [6, 13, 14]) (by kernel_rfl) (by simp) (ord_cons ?_ (ord_cons ?_ (ord_cons ?_ ord_nil)))
        rotate_left 3
        refine wpAny_all (rs := [6, 12, 14]) (by kernel_rfl) (by simp) (ord_cons ?_ (ord_cons ?_ (ord_cons ?_ ord_nil)))
        rotate_left 3
        refine wpAny_all (rs := [6, 12, 13]) (by kernel_rfl) (by simp) (ord_cons ?_ (ord_cons ?_ (ord_cons ?_ ord_nil)))
        rotate_left 3
        all_goals
         refine wpOp_of_listL rfl ?_
         (first | ((with_reducible refine is_load ?_); refine own_ld (h := ?_)) | ((with_reducible refine is_alloc ?_); (first | (refine own_al (o := ⟨some 9, _, _, _, _, _⟩) (hO := hO) (h := ?_); clear hO; intro n9 wv hO) | (refine own_al (o := ⟨some 10, _, _, _, _, _⟩) (hO := hO) (h := ?_); clear hO; intro n10 wv hO)))); (try simp only [Act.put]); (try simp only [List.setIfInBounds_toArray, List.set_cons_zero, List.set_cons_succ])
         refine wpList_done (qk_intro ?_)
        refine wpAny_all (rs := [13, 14]) (by kernel_rfl) (by simp) (ord_cons ?_ (ord_cons ?_ ord_nil))
        rotate_left 2
        refine wpAny_all (rs := [12, 14]) (by kernel_rfl) (by simp) (ord_cons ?_ (ord_cons ?_ ord_nil))
        rotate_left 2
        refine wpAny_all (rs := [12, 13]) (by kernel_rfl) (by simp) (ord_cons ?_ (ord_cons ?_ ord_nil))
        rotate_left 2
        refine wpAny_all (rs := [13, 14]) (by kernel_rfl) (by simp) (ord_cons ?_ (ord_cons ?_ ord_nil))
        rotate_left 2
        refine wpAny_all (rs := [6, 14]) (by kernel_rfl) (by simp) (ord_cons ?_ (ord_cons ?_ ord_nil))
        rotate_left 2
        refine wpAny_all (rs := [6, 13]) (by kernel_rfl) (by simp) (ord_cons ?_ (ord_cons ?_ ord_nil))
        rotate_left 2
        refine wpAny_all (rs := [12, 14]) (by kernel_rfl) (by simp) (ord_cons ?_ (ord_cons ?_ ord_nil))
        rotate_left 2
        refine wpAny_all (rs := [6, 14]) (by kernel_rfl) (by simp) (ord_cons ?_ (ord_cons ?_ ord_nil))
        rotate_left 2
        refine wpAny_all (rs := [6, 12]) (by kernel_rfl) (by simp) (ord_cons ?_ (ord_cons ?_ ord_nil))
        rotate_left 2
        refine wpAny_all (rs := [12, 13]) (by kernel_rfl) (by simp) (ord_cons ?_ (ord_cons ?_ ord_nil))
        rotate_left 2
        refine wpAny_all (rs := [6, 13]) (by kernel_rfl) (by simp) (ord_cons ?_ (ord_cons ?_ ord_nil))
        rotate_left 2
        refine wpAny_all (rs := [6, 12]) (by kernel_rfl) (by simp) (ord_cons ?_ (ord_cons ?_ ord_nil))
        rotate_left 2
        all_goals
         refine wpOp_of_listL rfl ?_
         (first | ((with_reducible refine is_load ?_); refine own_ld (h := ?_)) | ((with_reducible refine is_alloc ?_); (first | (refine own_al (o := ⟨some 9, _, _, _, _, _⟩) (hO := hO) (h := ?_); clear hO; intro n9 wv hO) | (refine own_al (o := ⟨some 10, _, _, _, _, _⟩) (hO := hO) (h := ?_); clear hO; intro n10 wv hO)))); (try simp only [Act.put]); (try simp only [List.setIfInBounds_toArray, List.set_cons_zero, List.set_cons_succ])
         refine wpList_done (qk_intro ?_)
        refine wpAny_1 14 ?_
        rotate_left 1
        refine wpAny_1 13 ?_
        rotate_left 1
        refine wpAny_1 14 ?_
        rotate_left 1
        refine wpAny_all (rs := [12, 15]) (by kernel_rfl) (by simp) (ord_cons ?_ (ord_cons ?_ ord_nil))
        rotate_left 2
        refine wpAny_1 13 ?_
        rotate_left 1
        refine wpAny_all (rs := [12, 15]) (by kernel_rfl) (by simp) (ord_cons ?_ (ord_cons ?_ ord_nil))
        rotate_left 2
        refine wpAny_1 14 ?_
        rotate_left 1
        refine wpAny_1 13 ?_
        rotate_left 1
        refine wpAny_1 14 ?_
        rotate_left 1
        refine wpAny_1 6 ?_
        rotate_left 1
        refine wpAny_1 13 ?_
        rotate_left 1
        refine wpAny_1 6 ?_
        rotate_left 1
        refine wpAny_1 14 ?_
        rotate_left 1
        refine wpAny_all (rs := [12, 15]) (by kernel_rfl) (by simp) (ord_cons ?_ (ord_cons ?_ ord_nil))
        rotate_left 2
        refine wpAny_1 14 ?_
        rotate_left 1
        refine wpAny_1 6 ?_
        rotate_left 1
        refine wpAny_all (rs := [12, 15]) (by kernel_rfl) (by simp) (ord_cons ?_ (ord_cons ?_ ord_nil))
        rotate_left 2
        refine wpAny_1 6 ?_
        rotate_left 1
        refine wpAny_1 13 ?_
        rotate_left 1
        refine wpAny_all (rs := [12, 15]) (by kernel_rfl) (by simp) (ord_cons ?_ (ord_cons ?_ ord_nil))
        rotate_left 2
        refine wpAny_1 13 ?_
        rotate_left 1
        refine wpAny_1 6 ?_
        rotate_left 1
        refine wpAny_all (rs := [12, 15]) (by kernel_rfl) (by simp) (ord_cons ?_ (ord_cons ?_ ord_nil))
        rotate_left 2
        refine wpAny_1 6 ?_
        rotate_left 1
        all_goals
         refine wpOp_of_listL rfl ?_
         (first | ((with_reducible refine is_load ?_); refine own_ld (h := ?_)) | ((with_reducible refine is_store ?_); (refine own_stR (hO := hO) (h := ?_); clear hO; intro wv hO)) | ((with_reducible refine is_alloc ?_); (first | (refine own_al (o := ⟨some 9, _, _, _, _, _⟩) (hO := hO) (h := ?_); clear hO; intro n9 wv hO) | (refine own_al (o := ⟨some 10, _, _, _, _, _⟩) (hO := hO) (h := ?_); clear hO; intro n10 wv hO)))); (try simp only [Act.put]); (try simp only [List.setIfInBounds_toArray, List.set_cons_zero, List.set_cons_succ])
         refine wpList_done (qk_intro ?_)
        refine wpAny_1 15 ?_
        rotate_left 1
        refine wpAny_1 15 ?_
        rotate_left 1
        refine wpAny_1 15 ?_
        rotate_left 1
        refine wpAny_1 15 ?_
        rotate_left 1
        refine wpAny_1 12 ?_
        rotate_left 1
        refine wpAny_1 15 ?_
        rotate_left 1
        refine wpAny_1 15 ?_
        rotate_left 1
        refine wpAny_1 12 ?_
        rotate_left 1
        refine wpAny_1 15 ?_
        rotate_left 1
        refine wpAny_1 15 ?_
        rotate_left 1
        refine wpAny_1 15 ?_
        rotate_left 1
        refine wpAny_1 15 ?_
        rotate_left 1
        refine wpAny_1 15 ?_
        rotate_left 1
        refine wpAny_1 15 ?_
        rotate_left 1
        refine wpAny_1 15 ?_
        rotate_left 1
        refine wpAny_1 15 ?_
        rotate_left 1
        refine wpAny_1 12 ?_
        rotate_left 1
        refine wpAny_1 15 ?_
        rotate_left 1
        refine wpAny_1 15 ?_
        rotate_left 1
        refine wpAny_1 15 ?_
        rotate_left 1
        refine wpAny_1 12 ?_
        rotate_left 1
        refine wpAny_1 15 ?_
        rotate_left 1
        refine wpAny_1 15 ?_
        rotate_left 1
        refine wpAny_1 15 ?_
        rotate_left 1
        refine wpAny_1 12 ?_
        rotate_left 1
        refine wpAny_1 15 ?_
        rotate_left 1
        refine wpAny_1 15 ?_
        rotate_left 1
        refine wpAny_1 15 ?_
        rotate_left 1
        refine wpAny_1 12 ?_
        rotate_left 1
        refine wpAny_1 15 ?_
        rotate_left 1
        all_goals
         refine wpOp_of_listL rfl ?_
         (first | ((with_reducible refine is_load ?_); refine own_ld (h := ?_)) | ((with_reducible refine is_store ?_); (refine own_stR (hO := hO) (h := ?_); clear hO; intro wv hO))); (try simp only [Act.put]); (try simp only [List.setIfInBounds_toArray, List.set_cons_zero, List.set_cons_succ])
         refine wpList_done (qk_intro ?_)
        refine wpAny_1 16 ?_
        rotate_left 1
        refine wpAny_1 16 ?_
        rotate_left 1
        refine wpAny_1 16 ?_
        rotate_left 1
        refine wpAny_1 16 ?_
        rotate_left 1
        refine wpAny_1 16 ?_
        rotate_left 1
        refine wpAny_1 16 ?_
        rotate_left 1
        refine wpAny_1 16 ?_
        rotate_left 1
        refine wpAny_1 16 ?_
        rotate_left 1
        refine wpAny_1 16 ?_
        rotate_left 1
        refine wpAny_1 16 ?_
        rotate_left 1
        refine wpAny_1 16 ?_
        rotate_left 1
        refine wpAny_1 16 ?_
        rotate_left 1
        refine wpAny_1 16 ?_
        rotate_left 1
        refine wpAny_1 16 ?_
        rotate_left 1
        refine wpAny_1 16 ?_
        rotate_left 1
        refine wpAny_1 16 ?_
        rotate_left 1
        refine wpAny_1 16 ?_
        rotate_left 1
        refine wpAny_1 16 ?_
        rotate_left 1
        refine wpAny_1 16 ?_
        rotate_left 1
        refine wpAny_1 16 ?_
        rotate_left 1
        refine wpAny_1 16 ?_
        rotate_left 1
        refine wpAny_1 16 ?_
        rotate_left 1
        refine wpAny_1 16 ?_
        rotate_left 1
        refine wpAny_1 16 ?_
        rotate_left 1
        refine wpAny_1 16 ?_
        rotate_left 1
        refine wpAny_1 16 ?_
        rotate_left 1
        refine wpAny_1 16 ?_
        rotate_left 1
        refine wpAny_1 16 ?_
        rotate_left 1
        refine wpAny_1 16 ?_
        rotate_left 1
        refine wpAny_1 16 ?_
        rotate_left 1
        all_goals
         refine wpOp_of_listL rfl ?_
         ((with_reducible refine is_store ?_); (refine own_stR (hO := hO) (h := ?_); clear hO; intro wv hO)); (try simp only [Act.put])
         refine wpList_done (qk_intro ?_)
        refine wpAny_done (by kernel_rfl) ?_ _
        rotate_left
        refine wpAny_done (by kernel_rfl) ?_ _
        rotate_left
        refine wpAny_done (by kernel_rfl) ?_ _
        rotate_left
        refine wpAny_done (by kernel_rfl) ?_ _
        rotate_left
        refine wpAny_done (by kernel_rfl) ?_ _
        rotate_left
        refine wpAny_done (by kernel_rfl) ?_ _
        rotate_left
        refine wpAny_done (by kernel_rfl) ?_ _
        rotate_left
        refine wpAny_done (by kernel_rfl) ?_ _
        rotate_left
        refine wpAny_done (by kernel_rfl) ?_ _
        rotate_left
        refine wpAny_done (by kernel_rfl) ?_ _
        rotate_left
        refine wpAny_done (by kernel_rfl) ?_ _
        rotate_left
        refine wpAny_done (by kernel_rfl) ?_ _
        rotate_left
        refine wpAny_done (by kernel_rfl) ?_ _
        rotate_left
        refine wpAny_done (by kernel_rfl) ?_ _
        rotate_left
        refine wpAny_done (by kernel_rfl) ?_ _
        rotate_left
        refine wpAny_done (by kernel_rfl) ?_ _
        rotate_left
        refine wpAny_done (by kernel_rfl) ?_ _
        rotate_left
        refine wpAny_done (by kernel_rfl) ?_ _
        rotate_left
        refine wpAny_done (by kernel_rfl) ?_ _
        rotate_left
        refine wpAny_done (by kernel_rfl) ?_ _
        rotate_left
        refine wpAny_done (by kernel_rfl) ?_ _
        rotate_left
        refine wpAny_done (by kernel_rfl) ?_ _
        rotate_left
        refine wpAny_done (by kernel_rfl) ?_ _
        rotate_left
        refine wpAny_done (by kernel_rfl) ?_ _
        rotate_left
        refine wpAny_done (by kernel_rfl) ?_ _
        rotate_left
        refine wpAny_done (by kernel_rfl) ?_ _
        rotate_left
        refine wpAny_done (by kernel_rfl) ?_ _
        rotate_left
        refine wpAny_done (by kernel_rfl) ?_ _
        rotate_left
        refine wpAny_done (by kernel_rfl) ?_ _
        rotate_left
        refine wpAny_done (by kernel_rfl) ?_ _
        rotate_left
        all_goals
         go_wp2_with fail
         go_meet
         (first | exact ⟨n9, n10, rfl, rfl, hO⟩ | exact ⟨n9, n10, rfl, rfl, hO.swap2⟩)
       case rest =>
        clear hO
        obtain ⟨n9, n10, rfl, rfl, hO⟩ := hcut
        by_cases h1 : x.lo ≤ rL.hi
        ·have g6 : decide (x.lo ≤ rL.hi) = true := decide_eq_true h1
         have hD : D = false := by rw [HG.out, HOK.out, g6]; simp
         subst hD
         go_wp2_with ((with_reducible refine is_load ?_); refine own_ld (h := ?_))
         go_ret
         exact ⟨rfl, hO.keep.below⟩
        ·have g6 : decide (x.lo ≤ rL.hi) = false := decide_eq_false h1
         have w5 : IntKind.u32.wrap (rL.hi + 1) = rL.hi + 1 := by rw [IntKind.wrap_u32]; omega
         by_cases h2 : x.lo = rL.hi + 1
         ·have g7 : (x.lo == rL.hi + 1) = true := by simp [h2]
          by_cases h3 : P.map (zTo (f + 1)) = T.map (zTo (f + 1))
          ·have hD : D = false := by rw [HG.out, HOK.out, g6, decide_eq_true h2, decide_eq_true h3.symm]; simp
           rw [decide_eq_true h3] at halk
           clear h2 h3
           subst hD
           go_wp2_with (first | ((with_reducible refine is_load ?_); refine own_ld (h := ?_)) | (go_at_call 195; (with_reducible refine (halk _ (HPv.out _ (hO.isB HFl.out (by simp [roS]))) (HPt.out _ (hO.isB HFl.out (by simp [roS])))).mono ?_); rintro e wv ⟨rfl, hb9⟩; replace hO := hO.call hb9; clear hb9))
           go_ret
           exact ⟨rfl, hO.keep.below⟩
          ·have hok := Lib.hid (show okNext (lastR i rL f P) ⟨x, T.map (zTo (f + 1))⟩ = true by rw [HOK.out, g6, decide_eq_true h2, decide_eq_false (fun e => h3 e.symm)]; rfl)
           rw [decide_eq_false h3] at halk
           clear h2 h3
           go_wp2_with (first | ((with_reducible refine is_load ?_); refine own_ld (h := ?_)) | (go_at_call 195; (with_reducible refine (halk _ (HPv.out _ (hO.isB HFl.out (by simp [roS]))) (HPt.out _ (hO.isB HFl.out (by simp [roS])))).mono ?_); rintro e wv ⟨rfl, hb9⟩; replace hO := hO.call hb9; clear hb9))
           go_meet
           exact ⟨hok, hO.sub (.cons _ (.cons _ (.refl _))) (.refl _) (fun _ h => h)⟩
         ·have g7 : (x.lo == rL.hi + 1) = false := by simp [h2]
          have hok := Lib.hid (show okNext (lastR i rL f P) ⟨x, T.map (zTo (f + 1))⟩ = true by rw [HOK.out, g6, decide_eq_false h2]; rfl)
          clear h2
          go_wp2_with ((with_reducible refine is_load ?_); refine own_ld (h := ?_))
          go_meet
          exact ⟨hok, hO.sub (.cons _ (.cons _ (.refl _))) (.refl _) (fun _ h => h)⟩
      ·have gi : decide (0 < i) = false := decide_eq_false hi0
       have gi' : decide ((0 : Int) < (i : Int)) = false := decide_eq_false (by omega)
       go_wp2_with fail
       go_meet
       exact ⟨Lib.hid (by unfold lastR; rw [if_pos (by omega)]; rfl), hO⟩
     case rest =>
      clear hO
      obtain ⟨HOK, hO⟩ := hcut
      have hTne : T ≠ [] := fun e => by rw [e] at hnT; simp at hnT; omega
      have hcan := fun w h => HI.out (.slice (some ⟨g, o + i * 10, none⟩) (M - i) (c - i)) T w h hTne HKv.out (by omega)
      obtain ⟨ck, hck⟩ : ∃ ck, chk T = ck := ⟨_, rfl⟩
      rw [hck] at hcan
      have HCK := Lib.hid hck
      have HT9 := Lib.hid hT9
      have HnT := Lib.hid hnT
      have s7 : IntKind.i64.wrap ((i : Int) + ((M - i : Nat) : Int)) = (M : Int) := by rw [show (i : Int) + ((M - i : Nat) : Int) = (M : Int) by omega]; exact IntWalk.i64_in _ (by omega)
      clear hck hT9 hnT
      cases ck
      ·have hD : D = false := by rw [HG.out, HCK.out]; rfl
       subst hD
       go_wp2_with (go_at_call 156; (with_reducible refine (hcan _ (HPt.out _ (hO.isB HFl.out (by simp [roS])))).mono ?_); rintro e wv ⟨rfl, hb9⟩; replace hO := hO.call hb9; clear hb9)
       go_ret
       exact ⟨rfl, hO.keep.below⟩
      ·go_wp2_with (go_at_call 156; (with_reducible refine (hcan _ (HPt.out _ (hO.isB HFl.out (by simp [roS])))).mono ?_); rintro e wv ⟨rfl, hb9⟩; replace hO := hO.call hb9; clear hb9)
       go_roundg (l.length - i)
       case measure => omega
       case rel =>
        refine ⟨M, T, l[i].at f, by omega, by omega, by go_num, fun h => absurd h (by omega), by have := HnT.out; omega, Lib.hid (fun w' h => HPt.out w' h), Lib.hid (fun h _ => HT.out _ ?_), Lib.hid ?_, hO⟩
        ·rw [← HT9.out]
         have h5 : ((l.drop i).take (M - i))[M - 1 - i]? = some l[M - 1] := by
          rw [List.getElem?_take, if_pos (by omega), List.getElem?_drop, show i + (M - 1 - i) = M - 1 by omega, List.getElem?_eq_getElem h]
         exact List.mem_of_getElem? h5
        ·rw [HG.out, HCK.out, HOK.out, Bool.true_and, Bool.true_and, List.drop_drop, show i + (M - i) = M by omega]
         unfold lastR
         rw [if_neg (by omega)]
   ·obtain rfl : i = l.length := by omega
    have hD : D = true := by rw [HE.out, List.drop_length]; rfl
    subst hD
    go_wp2_with fail
    go_ret
    exact ⟨rfl, hO.keep.below⟩
end Go.Proofs.YtbdfblgdmappeaaGreatDoor
