/- Package packetset (fourth part): Compact, cuts. -/
import Derived.Test.YtbdfblgdmappeaaGreatDoorME
import Derived.Test.YtbdfblgdmappeaaGreatDoorMC
import Derived.Test.YtbdfblgdmappeaaGreatDoorMM
import Derived.Test.YtbdfblgdmappeaaGreatDoorMD
import Derived.Test.YtbdfblgdmappeaaGreatDoorMB
namespace Go.Proofs.YtbdfblgdmappeaaGreatDoor
open Go.RowKit
set_option maxRecDepth 100000
def CptPost (w : World) (g n c : Nat) (l : List Int) (e : Ending) (w' : World) : Prop := ∃ ys, e = .returned (.slice (some ⟨g, 0, none⟩) l.length c) ∧ Keep [g] w w' ∧ w'.ownsRow 0 200 1 (.slice (some ⟨g, 0, none⟩) n c) n ys ∧ ys.take l.length = ul l
set_option maxHeartbeats 4000000 in
theorem compact_any {g c n : Nat} {L : List Int} (w : World) (hr : w.ownsRow 0 200 1 (.slice (some ⟨g, 0, none⟩) n c) n (ul L)) (hn : L.length = n) (h2 : 2 ≤ n) (hl : n ≤ 140737488355328) :
  Calls Tryz.prog 212 #[.slice (some ⟨g, 0, none⟩) n c] w (CptPost w g n c (cpt L)) := by
 have hO := own_takeRow hr [] (by simp)
 change Own [g] w [] _ [] w at hO
 have hnc : n ≤ c := by
  rcases row_form hr with ⟨h, _⟩ | ⟨g', c', h, h2, _⟩
  ·cases h
  ·cases h; exact h2
 clear hr
 have g0 : decide ((n : Int) < 2) = false := by simp; omega
 have h1 : cpt (L.take 1) = L.take 1 := by
  match L, hn with
  | [], h => simp at h; omega
  | x :: l, _ => rfl
 go_enter Tryz.func212, Tryz.ntmps212
 go_wp2_with fail
 go_loopw [3] (fun q wr => ∃ k : Nat, k + 1 ≤ n ∧ q = .int .i64 (k + 1 : Nat) ∧ Hid (cpt (L.take (k + 1)) = L.take (k + 1)) ∧ Own [g] w [] [⟨.slice (some ⟨g, 0, none⟩) n c, n, ul L, 200, 1⟩] [] wr) (fun q _ => n - (intOf q).toNat)
 case atStart => exact ⟨0, by omega, rfl, Lib.hid h1, hO⟩
 case round =>
  clear hO h1
  obtain ⟨k, hk, rfl, H1, hO⟩ := hrel
  have e1 : ((k + 1 : Nat) : Int) = (k : Int) + 1 := by omega
  rw [e1]
  have s1 : IntKind.i64.wrap ((k : Int) + 1 + 1) = (k : Int) + 1 + 1 := IntWalk.i64_in _ (by omega)
  have s2 : IntKind.i64.wrap ((k : Int) + 1 - 1) = (k : Int) := by rw [IntWalk.i64_in _ (by omega)]; omega
  have s3 : ((k : Int) + 1).toNat = k + 1 := by omega
  have s4 : IntKind.i64.wrap (k : Int) = (k : Int) := IntWalk.i64_in _ (by omega)
  by_cases hlt : k + 1 < n
  ·have g1 : decide ((k : Int) + 1 < n) = true := decide_eq_true (by omega)
   have z1 : (0 : Int) ≤ (k : Int) + 1 := by omega
   have z2 : (k : Int) + 1 < n := by omega
   have z3 : (0 : Int) ≤ (k : Int) := by omega
   have z4 : (k : Int) < n := by omega
   have c1 := ul_at (l := L) (k := k + 1) (by omega)
   have c2 := ul_at (l := L) (k := k) (by omega)
   have HC := Lib.hid (cpt_take (l := L) (k := k) (by omega))
   have HG := Lib.hid (List.take_succ_eq_append_getElem (show k + 1 < L.length by omega))
   generalize L[k + 1] = x at *
   generalize L[k] = y at *
   by_cases hxy : x = y
   ·have g2 : (x == y) = true := by simp [hxy]
    have HD := Lib.hid (show cpt (L.take (k + 2)) = L.take (k + 1) by rw [HC.out, if_pos hxy.symm]; exact H1.out)
    clear HC
    go_wp2_with fail
    (refine own_quiet hO (by kernel_rfl) (by kernel_rfl) ?_; clear hO; (repeat (go_big_quiet_want; (first | ((with_reducible refine is_loadQ ?_); (refine q_ldU (h := ?_)); (try simp only [Act.put]); (try simp only [sI9, sZ9, sS9]); go_big_quiet_on) | (go_big_quiet_op; (first | go_big_quiet_on | ((refine ⟨_, fun _ _ => rfl, ?_⟩); go_big_quiet_on)))))); (refine wpQuiet_nil ?_); intro wv hO)
    obtain ⟨K, hK⟩ : ∃ K, k + 1 = K := ⟨_, rfl⟩
    have e2 : (k : Int) + 1 = (K : Int) := by omega
    have hKc : K < c := by omega
    have hKn : K < n := by omega
    rw [e2]
    rw [hK]
    rw [hK] at HD H1
    rw [show k + 2 = K + 1 by omega] at HD
    clear H1 c1 c2 z1 z2 z3 z4 g1 g2 s1 s2 s3 s4 hxy
    go_wp2_with fail
    go_loopw [3, 5] (fun q3 q5 wr => ∃ (i p : Nat) (m : List Int), q3 = .int .i64 i ∧ q5 = .int .i64 (p + 1 : Nat) ∧ K + p < n ∧ i ≤ K + p ∧ m.length = n ∧ Hid (cpt (L.take (K + p + 1)) = m.take i) ∧ Hid (m.drop (K + p) = L.drop (K + p)) ∧ Own [g] w [] [⟨.slice (some ⟨g, 0, none⟩) n c, n, ul m, 200, 1⟩] [] wr) (fun _ q5 _ => n - (intOf q5).toNat)
    case atStart => exact ⟨K, 0, L, by (rfl), rfl, by omega, by omega, hn, HD, Lib.hid rfl, hO⟩
    case round =>
     clear hO HD
     obtain ⟨i, p, m, rfl, rfl, hp, hi, hm, H1, H3, hO⟩ := hrel
     have e3 : ((p + 1 : Nat) : Int) = (p : Int) + 1 := by omega
     rw [e3]
     have s1 : IntKind.i64.wrap ((p : Int) + 1 + 1) = (p : Int) + 1 + 1 := IntWalk.i64_in _ (by omega)
     have s2 : IntKind.i64.wrap ((p : Int) + 1 - 1) = (p : Int) := by rw [IntWalk.i64_in _ (by omega)]; omega
     have s3 : ((p : Int) + 1).toNat = p + 1 := by omega
     have s4 : IntKind.i64.wrap (p : Int) = (p : Int) := IntWalk.i64_in _ (by omega)
     have s5 : IntKind.i64.wrap ((i : Int) + 1) = (i : Int) + 1 := IntWalk.i64_in _ (by omega)
     by_cases hlt2 : p + 1 < n - K
     ·have g1 : decide ((p : Int) + 1 < ((n - K : Nat) : Int)) = true := decide_eq_true (by omega)
      have z1 : (0 : Int) ≤ (p : Int) + 1 := by omega
      have z2 : (p : Int) + 1 < ((n - K : Nat) : Int) := by omega
      have z3 : (0 : Int) ≤ (p : Int) := by omega
      have z4 : (p : Int) < ((n - K : Nat) : Int) := by omega
      have z5 : (0 : Int) ≤ (i : Int) := by omega
      have z6 : (i : Int) < n := by omega
      have hm1 := get_drop H3.out (k := K + (p + 1)) (by omega) (by omega) (by omega)
      have hm2 := get_drop H3.out (k := K + p) (by omega) (by omega) (by omega)
      have c1 := ul_at (l := m) (k := K + (p + 1)) (by omega)
      have c2 := ul_at (l := m) (k := K + p) (by omega)
      rw [hm1] at c1
      rw [hm2] at c2
      have HC := Lib.hid (cpt_take (l := L) (k := K + p) (by omega))
      have HD := Lib.hid (drop_more H3.out)
      generalize hx : L[K + (p + 1)]'(by omega) = x at *
      generalize hy : L[K + p]'(by omega) = y at *
      have hst := ul_set m i x
      have hsl : i < (ul m).length := by rw [ul_length]; omega
      clear hm1 hm2 hx hy
      by_cases hxy : x = y
      ·have g2 : (x != y) = false := by simp [hxy]
       have HE := Lib.hid (show cpt (L.take (K + (p + 1) + 1)) = m.take i by
        rw [show K + (p + 1) + 1 = K + p + 2 by omega, HC.out, if_pos hxy.symm, H1.out])
       go_wp2_with fail
       (refine own_quiet hO (by kernel_rfl) (by kernel_rfl) ?_; clear hO; (repeat (go_big_quiet_want; (first | ((with_reducible refine is_loadQ ?_); (refine q_ldU (h := ?_)); (try simp only [Act.put]); (try simp only [sI9, sZ9, sS9]); go_big_quiet_on) | (go_big_quiet_op; (first | go_big_quiet_on | ((refine ⟨_, fun _ _ => rfl, ?_⟩); go_big_quiet_on)))))); (refine wpQuiet_nil ?_); intro wv hO)
       go_wp2_with fail
       go_roundw
       case rel => exact ⟨i, p + 1, m, rfl, by go_num, by omega, by omega, hm, HE, HD, hO⟩
       case measure => simp [intOf]; omega
      ·have g2 : (x != y) = true := by simp [hxy]
       have HE := Lib.hid (show cpt (L.take (K + (p + 1) + 1)) = (m.set i x).take (i + 1) by
        rw [show K + (p + 1) + 1 = K + p + 2 by omega, HC.out, if_neg (fun h => hxy h.symm), set_frontA H1.out.symm (by omega)])
       go_wp2_with fail
       (refine own_quiet hO (by kernel_rfl) (by kernel_rfl) ?_; clear hO; (repeat (go_big_quiet_want; (first | ((with_reducible refine is_loadQ ?_); (refine q_ldU (h := ?_)); (try simp only [Act.put]); (try simp only [sI9, sZ9, sS9]); go_big_quiet_on) | (go_big_quiet_op; (first | go_big_quiet_on | ((refine ⟨_, fun _ _ => rfl, ?_⟩); go_big_quiet_on)))))); (refine wpQuiet_nil ?_); intro wv hO)
       go_wp2_with (first | ((with_reducible refine is_load ?_); (refine own_ldU hO (h := ?_))) | ((with_reducible refine is_store ?_); (refine own_stRo hO (h := ?_); clear hO; intro wv hO)))
       go_roundw
       case rel => exact ⟨i + 1, p + 1, m.set i x, by go_num, by go_num, by omega, by omega, by simpa using hm, HE, Lib.hid (by rw [List.drop_set_of_lt (by omega)]; exact HD.out), hO⟩
       case measure => simp [intOf]; omega
     ·have g1 : decide ((p : Int) + 1 < ((n - K : Nat) : Int)) = false := decide_eq_false (by omega)
      have hic : i < c := by omega
      have hsz : i + (n - i) * 1 ≤ (ul m).length := by rw [ul_length]; omega
      have HE := Lib.hid (show cpt L = m.take i by
       have := H1.out
       rwa [show K + p + 1 = L.length by omega, List.take_length] at this)
      go_wp2_with ((with_reducible refine is_clear ?_); (refine own_clear (xs := ul m) hO rfl rfl slice_u64 zone_u64 rfl (fun _ => by repeat (exact UpdR.here)) (by omega) (by (assumption)) ?_); clear hO; intro ys wv hy1 hy2 hO)
      go_ret
      rw [HE.out]
      have hti : (m.take i).length = i := by simp; omega
      exact ⟨ys, by rw [hti]; rfl, hO.keep, hO.row _ List.mem_cons_self, by rw [hti, hy2, ul_take]⟩
   ·have g2 : (x == y) = false := by simp [hxy]
    have HD := Lib.hid (show cpt (L.take (k + 1 + 1)) = L.take (k + 1 + 1) by
     rw [HC.out, if_neg (fun h => hxy h.symm), H1.out, HG.out])
    go_wp2_with fail
    (refine own_quiet hO (by kernel_rfl) (by kernel_rfl) ?_; clear hO; (repeat (go_big_quiet_want; (first | ((with_reducible refine is_loadQ ?_); (refine q_ldU (h := ?_)); (try simp only [Act.put]); (try simp only [sI9, sZ9, sS9]); go_big_quiet_on) | (go_big_quiet_op; (first | go_big_quiet_on | ((refine ⟨_, fun _ _ => rfl, ?_⟩); go_big_quiet_on)))))); (refine wpQuiet_nil ?_); intro wv hO)
    go_wp2_with fail
    go_roundw
    case rel => exact ⟨k + 1, by omega, by go_num, HD, hO⟩
    case measure => simp [intOf]; omega
  ·have g1 : decide ((k : Int) + 1 < n) = false := decide_eq_false (by omega)
   have HE := Lib.hid (show cpt L = L by
    have := H1.out
    rwa [show k + 1 = L.length by omega, List.take_length] at this)
   go_wp2_with fail
   go_ret
   rw [HE.out]
   exact ⟨ul L, by rw [hn]; rfl, hO.keep, hO.row _ List.mem_cons_self, by rw [← ul_length, List.take_length]⟩
theorem one_boxes : OneT Tryz.prog 81 := ⟨_, Tryz.underlying81, rfl, by kernel_rfl⟩
def sortL (l : List Int) : List Int := l.mergeSort fun x y => decide (x ≤ y)
theorem sort_ul (l : List Int) : uc (Go.Sort.sort Go.Sort.ltInt l.toArray) = ul (sortL l) := by
 unfold uc ul sortL
 rw [Go.Sort.sortInt l]
theorem sortL_perm (l : List Int) : (sortL l).Perm l := List.mergeSort_perm _ _
theorem sortL_sorted (l : List Int) : (sortL l).Pairwise (· ≤ ·) := by
 have := List.pairwise_mergeSort (le := fun x y : Int => decide (x ≤ y)) (fun a b c h1 h2 => by simp at h1 h2 ⊢; omega) (fun a b => by simp; omega) l
 exact this.imp fun h => by simpa using h
theorem sortL_length (l : List Int) : (sortL l).length = l.length := (sortL_perm l).length_eq
theorem sortul_any {g c k : Nat} {L : List Int} (w : World) (hr : w.ownsRow 0 200 1 (.slice (some ⟨g, 0, none⟩) k c) k (ul L)) (hk : L.length = k) (hl : k ≤ 140737488355328) :
  Calls Tryz.prog 211 #[.slice (some ⟨g, 0, none⟩) k c] w (RowPost w (.slice (some ⟨g, 0, none⟩) k c) k 200 1 (ul (sortL L)) (.tuple #[])) := by
 have h := sort64_any (g := g) (c := c) (k := k) (d := L.toArray) w (by unfold OwnsU; rw [uc_ul]; exact hr) (by simpa using hk) hl
 unfold UPost at h
 rwa [sort_ul] at h
def rawB (f : Nat) (l : List Bx) : List Int := l.flatMap fun b => [(b.at f).lo, (b.at f).hi + 1]
theorem rawB_length (f : Nat) (l : List Bx) : (rawB f l).length = 2 * l.length := by
 induction l with
 | nil => rfl
 | cons b l ih => simp [rawB] at ih ⊢; omega
theorem rawB_take {f : Nat} {l : List Bx} {i : Nat} (h : i < l.length) : rawB f (l.take (i + 1)) = rawB f (l.take i) ++ [(l[i].at f).lo, (l[i].at f).hi + 1] := by
 unfold rawB; rw [List.take_succ_eq_append_getElem h, List.flatMap_append]; rfl
theorem rawB_raw (f : Nat) (la lb : List Bx) : 0 :: (topOf f + 1) :: (rawB f la ++ rawB f lb) = cutsRaw (topOf f) (la.map (·.at f) ++ lb.map (·.at f)) := by
 simp [cutsRaw, rawB, List.flatMap_append, List.flatMap_map]
theorem cuts_plain {f : Nat} (hf : f < 5) {la lb : List Bx} (ha : vL la) (hb : vL lb) : cpt (sortL (0 :: (topOf f + 1) :: (rawB f la ++ rawB f lb))) = pts f la lb ++ [topOf f + 1] := by
 obtain ⟨h1, h2⟩ := cpt_spec (sortL_sorted (0 :: (topOf f + 1) :: (rawB f la ++ rawB f lb)))
 refine cuts_eq hf ha hb h1 fun x => ?_
 rw [h2, (sortL_perm _).mem_iff, rawB_raw]
def NewU (w : World) (l : List Int) (e : Ending) (w' : World) : Prop := ∃ g c, e = .returned (.slice (some ⟨g, 0, none⟩) l.length c) ∧ l.length ≤ c ∧ w'.rangeAt g 0 (ul l) ∧ w.heap.size ≤ g ∧ Below w.heap.size w w'
def rawJ (f : Nat) (la lb : List Bx) : Nat → List Int
 | 0 => []
 | 1 => rawB f la
 | _ => rawB f la ++ rawB f lb
theorem rawJ_next {f : Nat} {va vb : Value} {la lb : List Bx} {w : World} (hva : IsBoxes w va la) (hvb : IsBoxes w vb lb) (ka : vL la) (kb : vL lb) (na : la.length ≤ 1000000000000) (nb : lb.length ≤ 1000000000000) {j : Nat} (hj : j < 2) :
  ∃ v L, [va, vb][j]? = some v ∧ IsBoxes w v L ∧ vL L ∧ L.length ≤ 1000000000000 ∧ rawJ f la lb (j + 1) = rawJ f la lb j ++ rawB f L ∧ (rawJ f la lb j).length ≤ 2000000000000 := by
 obtain rfl | rfl : j = 0 ∨ j = 1 := by omega
 ·exact ⟨va, la, rfl, hva, ka, na, by simp [rawJ], by simp [rawJ]⟩
 ·exact ⟨vb, lb, rfl, hvb, kb, nb, by simp [rawJ], by simp only [rawJ, rawB_length]; omega⟩
set_option maxHeartbeats 8000000 in
theorem cuts_any {f n c2 : Nat} {va vb : Value} {la lb : List Bx} (w : World) (ht : Tops w) (hf : f < 5) (hs : w.rangeAt n 0 [va, vb]) (hva : IsBoxes w va la) (hvb : IsBoxes w vb lb) (ka : vL la) (kb : vL lb) (na : la.length ≤ 1000000000000) (nb : lb.length ≤ 1000000000000) :
  Calls Tryz.prog 200 #[.int .i64 f, .slice (some ⟨n, 0, none⟩) 2 c2] w (NewU w (pts f la lb ++ [topOf f + 1])) := by
 have hO := own_start [] w
 replace hO := hO.addOld ⟨n, 0, [va, vb]⟩ hs
 have h1 := fun w ht => top_any f w ht hf
 have hpl := Lib.hid (cuts_plain hf ka kb)
 have T0 := topPos f
 have T1 := topOf_le f
 generalize pts f la lb ++ [topOf f + 1] = D at *
 generalize topOf f = T at *
 have s1 : IntKind.u64.wrap T = T := by rw [IntKind.wrap_u64]; omega
 have s2 : IntKind.u64.wrap (T + 1) = T + 1 := by rw [IntKind.wrap_u64]; omega
 go_enter Tryz.func200, Tryz.ntmps200
 go_wp2_with (first | (go_at_call 153; refine (h1 _ (hO.tops ht (by simp))).mono ?_; rintro e _ ⟨rfl, rfl⟩) | ((with_reducible refine is_build ?_); (refine' own_buildP (o := ⟨some 14, _, _, _, _, _⟩) [.int .u64 0, .int .u64 (T + 1)] hO (by rfl) rfl slice_u64 rfl rfl (by rfl) (by decide) (by decide) ?_); clear hO; intro n14 wv hO))
 replace hO := hO.chunkRow (k := 2) (size := 1) rfl (by unfold maxLen; omega)
 go_loopw [5, 17] (fun r q wr => ∃ j : Nat, j ≤ 2 ∧ q = .int .i64 j ∧ Own [] w [] [⟨r, (rawJ f la lb j).length + 2, ul (0 :: (T + 1) :: rawJ f la lb j), 200, 1⟩] [⟨n, 0, [va, vb]⟩] wr) (fun _ q _ => 2 - (intOf q).toNat)
 case atStart => exact ⟨0, by omega, rfl, hO⟩
 case round =>
  clear hO s1 s2
  obtain ⟨j, hj, rfl, hO⟩ := hrel
  by_cases hlt : j < 2
  ·obtain ⟨v, L, hvj, hvL, kL, nL, hJ, hJl⟩ := rawJ_next (f := f) hva hvb ka kb na nb hlt
   have HJ := Lib.hid hJ
   clear hJ
   generalize rawJ f la lb j = P at *
   obtain ⟨a, c, rfl, ha'⟩ := hvL.view
   go_wp2_with (refine ldN ?_)
   replace hO := hO.addBoxes hvL
   go_loopw [5, 23] (fun r q wr => ∃ i : Nat, i ≤ L.length ∧ q = .int .i64 i ∧ Own [] w [] [⟨r, (P ++ rawB f (L.take i)).length + 2, ul (0 :: (T + 1) :: (P ++ rawB f (L.take i))), 200, 1⟩] (roS (.slice a L.length c) (cellsB L) ++ [⟨n, 0, [va, vb]⟩]) wr) (fun _ q _ => L.length - (intOf q).toNat)
   case atStart => exact ⟨0, by omega, rfl, by simp only [List.take_zero, rawB, List.flatMap_nil, List.append_nil]; exact hO⟩
   case round =>
    clear hO
    obtain ⟨i, hi, rfl, hO⟩ := hrel
    by_cases hlti : i < L.length
    ·obtain ⟨g, o, rfl⟩ := ha' (by omega)
     simp only [roS, List.cons_append, List.nil_append] at hO
     have HT := Lib.hid (rawB_take (f := f) hlti)
     have hQl : (P ++ rawB f (L.take i)).length ≤ 4000000000000 := by
      rw [List.length_append, rawB_length]; simp; omega
     have hQ : P ++ rawB f (L.take (i + 1)) = (P ++ rawB f (L.take i)) ++ [(L[i].at f).lo, (L[i].at f).hi + 1] := by rw [HT.out, List.append_assoc]
     have HQ := Lib.hid hQ
     clear hQ HT
     generalize P ++ rawB f (L.take i) = Q at *
     have kb9 := kL L[i] (List.getElem_mem hlti) f hf
     have tl := topOf_le f
     have s1 : IntKind.u64.wrap (L[i].at f).lo = (L[i].at f).lo := by rw [IntKind.wrap_u64]; omega
     have s2 : IntKind.u64.wrap (L[i].at f).hi = (L[i].at f).hi := by rw [IntKind.wrap_u64]; omega
     have s3 : IntKind.u64.wrap ((L[i].at f).hi + 1) = (L[i].at f).hi + 1 := by rw [IntKind.wrap_u64]; omega
     have y1 : (0 : Int) ≤ (f : Int) := by omega
     have y2 : (f : Int) < 5 := by omega
     clear hvL hva hvb hs ka kb kL HJ
     go_wp2_with (first | refine ldN ?_ | (refine stN hO ?_; clear hO; intro wv hO) | (refine al9 9 hO ?_; clear hO; intro n9 wv hO))
     (try simp only [Act.put]); (try simp only [sI9, sZ9, sS9])
     refine wp_region_any (by kernel_rfl) ?_
     replace hO := hO.drew
     have ix9 := Ix.mk [0, 1, 2, 3, 6, 7, 8]
     iterate 7 (refine wpAny_tk ix9 ?_; replace ix9 := ix9.tail; (first | go_big_quiet_skip | (go_big_quiet_want; (go_big_quiet_op; (first | go_big_quiet_on | ((refine ⟨_, fun _ _ => rfl, ?_⟩); go_big_quiet_on))))); (refine wpQuiet_nil ?_); (try simp only [Act.put]); (try simp only [sI9, sZ9, sS9]))
     clear ix9
     refine wpAny_all (rs := [4, 9]) (by kernel_rfl) (by simp) (ord_cons ?_ (ord_cons ?_ ord_nil))
     rotate_left 2
     all_goals
      refine wpOp_of_listL rfl ?_
      (refine ldN ?_); (try simp only [Act.put]); (try simp only [sI9, sZ9, sS9])
      refine wpList_done (qk_intro ?_)
     refine wpAny_tk (Ix.mk [5]) ?_
     (first | go_big_quiet_skip | (go_big_quiet_want; (go_big_quiet_op; (first | go_big_quiet_on | ((refine ⟨_, fun _ _ => rfl, ?_⟩); go_big_quiet_on))))); (refine wpQuiet_nil ?_); (try simp only [Act.put]); (try simp only [sI9, sZ9, sS9])
     refine wpAny_1 9 ?_
     rotate_left 1
     have ix9 := Ix.mk [10, 11]
     iterate 2 (refine wpAny_tk ix9 ?_; replace ix9 := ix9.tail; (first | go_big_quiet_skip | (go_big_quiet_want; (go_big_quiet_op; (first | go_big_quiet_on | ((refine ⟨_, fun _ _ => rfl, ?_⟩); go_big_quiet_on))))); (refine wpQuiet_nil ?_); (try simp only [Act.put]); (try simp only [sI9, sZ9, sS9]))
     clear ix9
     refine wpAny_1 4 ?_
     rotate_left 1
     all_goals
      refine wpOp_of_listL rfl ?_
      (refine ldN ?_); (try simp only [Act.put]); (try simp only [sI9, sZ9, sS9])
      refine wpList_done (qk_intro ?_)
     have ix9 := Ix.mk [10, 11]
     iterate 2 (refine wpAny_tk ix9 ?_; replace ix9 := ix9.tail; (first | go_big_quiet_skip | (go_big_quiet_want; (go_big_quiet_op; (first | go_big_quiet_on | ((refine ⟨_, fun _ _ => rfl, ?_⟩); go_big_quiet_on))))); (refine wpQuiet_nil ?_); (try simp only [Act.put]); (try simp only [sI9, sZ9, sS9]))
     clear ix9
     refine wpAny_1 12 ?_
     rotate_left 1
     refine wpAny_tk (Ix.mk [5]) ?_
     (first | go_big_quiet_skip | (go_big_quiet_want; (go_big_quiet_op; (first | go_big_quiet_on | ((refine ⟨_, fun _ _ => rfl, ?_⟩); go_big_quiet_on))))); (refine wpQuiet_nil ?_); (try simp only [Act.put]); (try simp only [sI9, sZ9, sS9])
     refine wpAny_1 12 ?_
     rotate_left 1
     all_goals
      refine wpOp_of_listL rfl ?_
      ((with_reducible refine is_build ?_); (refine' own_buildP (o := ⟨some 39, _, _, _, _, _⟩) [.int .u64 (L[i].at f).lo, .int .u64 ((L[i].at f).hi + 1)] hO (by rfl) rfl slice_u64 rfl rfl (by rfl) (by decide) (by decide) ?_); clear hO; intro n39 wv hO); (try simp only [Act.put]); (try simp only [sI9, sZ9, sS9])
      refine wpList_done (qk_intro ?_)
     refine wpAny_1 13 ?_
     rotate_left 1
     refine wpAny_1 13 ?_
     rotate_left 1
     all_goals
      refine wpOp_of_listL rfl ?_
      (refine ap9 40 hO ?_; clear hO; intro g40 c40 wv hO); (try simp only [Act.put]); (try simp only [sI9, sZ9, sS9])
      refine wpList_done (qk_intro ?_)
     refine wpAny_1 14 ?_
     rotate_left 1
     refine wpAny_1 14 ?_
     rotate_left 1
     all_goals
      refine wpOp_of_listL rfl ?_
      ((refine wpList_step (fun K hK => ?_)); go_simp; ((refine hK _ _ ?_); clear hK K))
      refine wpList_done (qk_intro ?_)
     refine wpAny_done (by kernel_rfl) ?_ _
     rotate_left
     refine wpAny_done (by kernel_rfl) ?_ _
     rotate_left
     all_goals
      go_wp2_with fail
      go_roundw
      case rel =>
       refine ⟨i + 1, by omega, by go_num, ?_⟩
       rw [HQ.out, List.length_append]
       have e : ul (0 :: (T + 1) :: (Q ++ [(L[i].at f).lo, (L[i].at f).hi + 1])) = ul (0 :: (T + 1) :: Q) ++ [.int .u64 (L[i].at f).lo, .int .u64 ((L[i].at f).hi + 1)] := by simp [ul]
       rw [e]
       exact hO.sub (.cons _ (.cons _ (.refl _))) (.refl _) (fun _ h => h)
      case measure => simp [intOf]; omega
    ·obtain rfl : i = L.length := by omega
     rw [List.take_length] at hO
     go_wp2_with fail
     go_roundw
     case rel =>
      refine ⟨j + 1, by omega, by go_num, ?_⟩
      rw [HJ.out]
      exact hO.sub (.refl _) (.refl _) (fun s h => List.mem_append_right _ h)
     case measure => simp [intOf]; omega
  ·obtain rfl : j = 2 := by omega
   simp only [rawJ] at hO
   have hRl : (rawB f la ++ rawB f lb).length + 2 = (0 :: (T + 1) :: (rawB f la ++ rawB f lb)).length := by simp
   have hRn : (0 :: (T + 1) :: (rawB f la ++ rawB f lb)).length ≤ 4000000000002 := by rw [← hRl, List.length_append, rawB_length, rawB_length]; omega
   have hR2 : 2 ≤ (0 :: (T + 1) :: (rawB f la ++ rawB f lb)).length := by simp
   rw [hRl] at hO
   have hf1 := row_form (hO.row _ List.mem_cons_self)
   dsimp only at hf1
   generalize 0 :: (T + 1) :: (rawB f la ++ rawB f lb) = R at *
   obtain ⟨K, hK⟩ : ∃ K, R.length = K := ⟨_, rfl⟩
   rw [hK] at hO hf1 hRn hR2
   rcases hf1 with ⟨_, h0⟩ | ⟨g, c, rfl, hKc, _⟩
   ·change K = 0 at h0; omega
   ·have h3 := fun w hr => sortul_any (g := g) (c := c) (k := K) (L := R) w hr hK (by omega)
    have h4 := fun w hr => compact_any (g := g) (c := c) (n := K) (L := sortL R) w hr (by rw [sortL_length]; exact hK) hR2 (by omega)
    rw [hpl.out] at h4
    have hDl : D.length ≤ c := by
     rw [← hpl.out]
     have := cpt_le (sortL R) []
     rw [sortL_length, hK] at this
     have h9 : (cpt (sortL R)).length ≤ ([] : List Int).length + K := this
     simp at h9; omega
    clear hpl hRl hK
    generalize sortL R = R' at *
    go_wp2_with (first | (go_at_call 211; refine (h3 _ (hO.row _ List.mem_cons_self)).mono ?_; rintro e wv hw; obtain rfl := hw.1; replace hO := hO.afterRow .here hw.2.1 hw.2.2; clear hw h3) | (go_at_call 212; (with_reducible refine (h4 _ (hO.row _ List.mem_cons_self)).mono ?_); rintro e wv ⟨ys, rfl, hk9, hr9, hy9⟩; replace hO := hO.afterRow .here hk9 hr9; clear hk9 hr9 h4))
    go_ret
    refine ⟨g, c, rfl, hDl, fun q u hq => ?_, own_new hO List.mem_cons_self g rfl, hO.keep.below⟩
    rw [← hy9, List.getElem?_take] at hq
    split at hq
    ·rw [Nat.zero_add]; exact hO.rowCell List.mem_cons_self hq
    ·cases hq
def gpre (F : Int → List Bx) (ss : List Rg) (i : Nat) : List Grp := gfold F (ss.take i) []
theorem gpre_zero (F : Int → List Bx) (ss : List Rg) : gpre F ss 0 = [] := by simp [gpre, gfold]
theorem gpre_succ {F : Int → List Bx} {ss : List Rg} {i : Nat} {s : Rg} (h : ss[i]? = some s) : gpre F ss (i + 1) = addG s (F s.lo) (gpre F ss i) := by
 obtain ⟨hi, hs⟩ := List.getElem?_eq_some_iff.1 h
 unfold gpre
 rw [List.take_succ_eq_append_getElem hi, gfold_append, hs]
 rfl
theorem segs_pair (top : Int) : ∀ (l : List Int), l.Pairwise (· < ·) → (∀ x ∈ l, x ≤ top) → (segs top l).Pairwise (fun s t => s.hi < t.lo)
 | [], _, _ => by simp [segs]
 | [p], _, _ => by simp [segs]
 | p :: q :: l, h, ht => by
  have h1 := List.pairwise_cons.1 h
  rw [segs]
  refine List.pairwise_cons.2 ⟨fun t hm => ?_, segs_pair top (q :: l) h1.2 fun x hx => ht x (by simp [hx])⟩
  have h2 := (segs_props top (q :: l) h1.2 (fun x hx => ht x (by simp [hx])) t hm).1
  show q - 1 < t.lo
  rcases List.mem_cons.1 h2 with h3 | h3
  ·omega
  ·have := (List.pairwise_cons.1 h1.2).1 _ h3
   omega
theorem gpre_spec {top : Int} {F : Int → List Bx} {l : List Int} (ha : l.Pairwise (· < ·)) (ht : ∀ x ∈ l, x ≤ top) : ∀ (i : Nat), i ≤ (segs top l).length → NG (gpre F (segs top l) i) ∧ ∀ g ∈ gpre F (segs top l) i, ∀ q ∈ (segs top l).drop i, g.r.hi < q.lo
 | 0, _ => by rw [gpre_zero]; exact ⟨trivial, by simp⟩
 | i + 1, hi => by
  obtain ⟨hN, hb⟩ := gpre_spec ha ht (F := F) i (by omega)
  have hi' : i < (segs top l).length := by omega
  have hs : (segs top l)[i]? = some (segs top l)[i] := List.getElem?_eq_getElem hi'
  have hp := segs_props top l ha ht (segs top l)[i] (List.getElem_mem hi')
  have hdr : (segs top l).drop i = (segs top l)[i] :: (segs top l).drop (i + 1) := List.drop_eq_getElem_cons hi'
  rw [gpre_succ hs]
  obtain ⟨a1, a2, _, _⟩ := addG_spec (rest := F (segs top l)[i].lo) hp.2.1 hN (fun g hg => hb g hg _ (by rw [hdr]; exact List.mem_cons_self))
  refine ⟨a1, fun g hg q hq => ?_⟩
  have h1 := a2 g hg
  have h2 := (segs_pair top l ha ht)
  rw [← List.take_append_drop i (segs top l), hdr] at h2
  have h3 := (List.pairwise_cons.1 (List.pairwise_append.1 h2).2.1).1 q hq
  omega
theorem gpre_all {op : Bool → Bool → Bool} {f n : Nat} {a b : List Bx} {i : Nat} (h : i = (segs (topOf f) (pts f a b)).length) : gpre (fun v => canonF op (f + 1) n (covB a f v) (covB b f v)) (segs (topOf f) (pts f a b)) i = groupsF op f n a b := by
 subst h; unfold gpre groupsF; rw [List.take_length]
theorem total_pre {F : Int → List Bx} {ss : List Rg} (i : Nat) : total (gpre F ss i) ≤ total (gfold F ss []) := by
 unfold gpre
 have h : gfold F ss [] = gfold F (ss.drop i) (gfold F (ss.take i) []) := by rw [← gfold_append, List.take_append_drop]
 rw [h]
 exact total_gfold F _ _
theorem pts_seg {f : Nat} (hf : f < 5) {a b : List Bx} (ha : vL a) (hb : vL b) {i : Nat} (h : i < (pts f a b).length) :
  ∃ s : Rg, (segs (topOf f) (pts f a b))[i]? = some s ∧ (pts f a b ++ [topOf f + 1])[i]? = some s.lo ∧ (pts f a b ++ [topOf f + 1])[i + 1]? = some (s.hi + 1) ∧ 0 ≤ s.lo ∧ s.lo ≤ s.hi ∧ s.hi ≤ topOf f := by
 have h1 := segs_at (topOf f) (pts f a b) i h
 have h2 := segs_props (topOf f) (pts f a b) (pts_asc _ _ _) (fun x hx => (pts_range hf ha hb hx).2) _ (List.mem_of_getElem? h1)
 refine ⟨_, h1, ?_, ?_, (pts_range hf ha hb h2.1).1, h2.2.1, h2.2.2.1⟩
 ·rw [List.getElem?_append_left h, List.getElem?_eq_getElem h]
 ·by_cases h' : i + 1 < (pts f a b).length
  ·rw [List.getElem?_append_left h', List.getElem?_eq_getElem h', dif_pos h']
   simp
  ·have e : i + 1 = (pts f a b).length := by omega
   rw [dif_neg h', e]; simp
theorem gpre_nonneg {f : Nat} (hf : f < 5) {a b : List Bx} (ha : vL a) (hb : vL b) {F : Int → List Bx} (i : Nat) : ∀ g ∈ gpre F (segs (topOf f) (pts f a b)) i, 0 ≤ g.r.hi := by
 have key : ∀ t ∈ segs (topOf f) (pts f a b), 0 ≤ t.hi := fun t ht => by
  have h2 := segs_props (topOf f) (pts f a b) (pts_asc _ _ _) (fun x hx => (pts_range hf ha hb hx).2) t ht
  have := (pts_range hf ha hb h2.1).1
  omega
 exact gfold_ends (Φ := fun r => 0 ≤ r.hi) (fun _ _ t ht => key t (List.mem_of_mem_take ht)) (by simp) (by simp)
theorem row_Group : RowT Tryz.prog 224 3 := ⟨_, Tryz.underlying224, rfl, by kernel_rfl⟩
theorem zero_Group : ZeroT Tryz.prog 224 [.int .u32 0, .int .u32 0, .slice none 0 0] := by unfold ZeroT; kernel_rfl
theorem slice_Groups : SliceT Tryz.prog 234 224 3 32 := ⟨Tryz.underlying234, by omega, by
 obtain ⟨i, h1, h2, h3, h4⟩ := info_parts (show (Tryz.prog.info? 224).map (fun i => (i.zero, i.size, i.bytes)) = some (some (.agg #[.int .u32 0, .int .u32 0, .slice none 0 0]), 3, 32) by kernel_rfl)
 exact ⟨i, _, h1, h2, h3, h4, rfl⟩⟩
theorem und_Groups : (Tryz.prog).underlying 234 = some (.slice 224) := Tryz.underlying234
structure GV where
 r : Rg
 v : Value
 rest : List Bx
def GV.grp (x : GV) : Grp := ⟨x.r, x.rest⟩
def gcell (x : GV) : List Value := [.int .u32 x.r.lo, .int .u32 x.r.hi, x.v]
def gcells : List GV → List Value
 | [] => []
 | x :: l => gcell x ++ gcells l
theorem gcells_append (l m : List GV) : gcells (l ++ m) = gcells l ++ gcells m := by
 induction l with
 | nil => rfl
 | cons b l ih => simp [gcells, ih]
theorem gcells_one (x : GV) : gcells [x] = gcell x := by simp [gcells]
theorem gcells_length (l : List GV) : (gcells l).length = l.length * 3 := by
 induction l with
 | nil => rfl
 | cons b l ih => simp only [gcells, List.length_append, ih, List.length_cons]; show 3 + _ = _; omega
theorem gcells_last (G : List GV) (x : GV) : (gcells (G ++ [x]))[G.length * 3 + 1]? = some (.int .u32 x.r.hi) ∧ (gcells (G ++ [x]))[G.length * 3 + 2]? = some x.v := by
 rw [gcells_append, gcells_one]
 have hl := gcells_length G
 constructor
 ·rw [List.getElem?_append_right (by omega), hl, Nat.add_sub_cancel_left]; rfl
 ·rw [List.getElem?_append_right (by omega), hl, Nat.add_sub_cancel_left]; rfl
theorem gcells_setHi (G : List GV) (x : GV) (h : Int) : (gcells (G ++ [x])).set (G.length * 3 + 1) (.int .u32 h) = gcells (G ++ [⟨⟨x.r.lo, h⟩, x.v, x.rest⟩]) := by
 rw [gcells_append, gcells_append, gcells_one, gcells_one]
 have hl := gcells_length G
 rw [List.set_append_right _ _ (by omega), hl, Nat.add_sub_cancel_left]
 rfl
theorem gcells_at (G : List GV) {k : Nat} (h : k < G.length) : ((gcells G).drop (k * 3)).take (gcell G[k]).length = gcell G[k] := by
 induction G generalizing k with
 | nil => simp at h
 | cons b l ih =>
  cases k with
  | zero => simp only [List.getElem_cons_zero, Nat.zero_mul, List.drop_zero, gcells]; exact List.take_left' rfl
  | succ k =>
   have := ih (k := k) (by simpa using h)
   simp only [List.getElem_cons_succ, gcells]
   rw [show (k + 1) * 3 = (gcell b).length + k * 3 by show _ = 3 + _; omega, List.drop_append, List.drop_of_length_le (by omega), List.nil_append, Nat.add_sub_cancel_left]
   exact this
def FormB (v : Value) (l : List Bx) : Prop := (v = .slice none 0 0 ∧ l = []) ∨ ∃ g o c, v = .slice (some ⟨g, o, none⟩) l.length c ∧ l.length ≤ c
theorem IsBoxes.form {w : World} {v : Value} {l : List Bx} (h : IsBoxes w v l) : FormB v l := by
 rcases h with h | ⟨g, o, c, h1, h2, _⟩
 ·exact .inl h
 ·exact .inr ⟨g, o, c, h1, h2⟩
theorem FormB.view {v : Value} {l : List Bx} (h : FormB v l) : ∃ a c, v = .slice a l.length c ∧ (0 < l.length → ∃ g o, a = some ⟨g, o, none⟩) := by
 rcases h with ⟨rfl, rfl⟩ | ⟨g, o, c, rfl, _⟩
 ·exact ⟨none, 0, rfl, fun h => by simp at h⟩
 ·exact ⟨some ⟨g, o, none⟩, c, rfl, fun _ => ⟨g, o, rfl⟩⟩
def roG (G : List GV) : List Ro := G.flatMap fun x => roS x.v (cellsB x.rest)
theorem roG_append (G H : List GV) : roG (G ++ H) = roG G ++ roG H := by simp [roG]
theorem roG_mem {G : List GV} {x : GV} (h : x ∈ G) : ∀ s ∈ roS x.v (cellsB x.rest), s ∈ roG G := fun _ hs => List.mem_flatMap.2 ⟨x, h, hs⟩
section
variable {M : List Nat} {w0 w w' : World} {X : List Chunk} {R : List Row} {S : List Ro}
theorem Own.isB (hO : Own M w0 X R S w) {v : Value} {l : List Bx} (hf : FormB v l) (hS : ∀ s ∈ roS v (cellsB l), s ∈ S) : IsBoxes w v l := by
 rcases hf with h | ⟨g, o, c, rfl, hc⟩
 ·exact .inl h
 ·exact .inr ⟨g, o, c, rfl, hc, hO.ro ⟨g, o, cellsB l⟩ (hS _ List.mem_cons_self)⟩
theorem Own.gainB (hO : Own M w0 X R S w) (hb : Below w.heap.size w w') {v : Value} {l : List Bx} (hv : IsBoxes w' v l) (hn : NewFrom w v) : Own M w0 X R (roS v (cellsB l) ++ S) w' := by
 have h1 := hO.call hb
 rcases hv with ⟨rfl, rfl⟩ | ⟨g, o, c, rfl, _, hr⟩
 ·exact h1
 ·refine h1.addRo ⟨g, o, cellsB l⟩ hr fun _ hm => ?_
  have h2 := hO.lt g hm
  have h3 := hn g rfl
  omega
theorem Own.gainU (hO : Own M w0 X R S w) (hb : Below w.heap.size w w') {g : Nat} {xs : List Value} (hr : w'.rangeAt g 0 xs) (hn : w.heap.size ≤ g) : Own M w0 X R (⟨g, 0, xs⟩ :: S) w' := by
 refine (hO.call hb).addRo ⟨g, 0, xs⟩ hr fun _ hm => ?_
 have h2 := hO.lt g hm
 omega
end
theorem row_view {w : World} {base size k : Nat} {v : Value} {xs : List Value} {e : TypeId} (h : w.ownsRow base e size v k xs) : ∃ a c, v = .slice a k c ∧ (0 < k → ∃ g, a = some ⟨g, 0, none⟩) := by
 rcases row_form h with ⟨rfl, rfl⟩ | ⟨g, c, rfl, _, _⟩
 ·exact ⟨none, 0, rfl, fun h => by omega⟩
 ·exact ⟨_, c, rfl, fun _ => ⟨g, rfl⟩⟩
theorem row_max {w : World} {base size k : Nat} {v : Value} {xs : List Value} {e : TypeId} (h : w.ownsRow base e size v k xs) : k ≤ 9223372036854775807 := by
 rcases h.2 with ⟨_, rfl⟩ | ⟨g, cap, cur, _, _, _, h1, h2, _⟩
 ·omega
 ·unfold maxLen at h2; omega
theorem NG.len : ∀ {gs : List Grp}, NG gs → gs.length ≤ total gs
 | [], _ => Nat.zero_le _
 | g :: gs, h => by
  have h1 := NG.len h.tail
  have h2 := h.head.2
  have h3 : 0 < g.rest.length := List.length_pos_iff.2 h2
  rw [total_cons, List.length_cons]; omega
def joinsG (G : List GV) (s : Rg) (T : List Bx) : Bool := match G.getLast? with
 | none => false
 | some x => decide (x.r.hi + 1 = s.lo) && decide (x.rest = T)
theorem grow_new {G : List GV} {gs : List Grp} {s : Rg} {v : Value} {T : List Bx} (h : gs = (G.map GV.grp).reverse) (hT : T ≠ []) (hj : joinsG G s T = false) : addG s T gs = ((G ++ [(⟨s, v, T⟩ : GV)]).map GV.grp).reverse ∧ total (addG s T gs) = total gs + T.length := by
 subst h
 rcases List.eq_nil_or_concat G with rfl | ⟨G0, x, rfl⟩
 ·simp [addG, hT, total, GV.grp]
 ·rw [List.concat_eq_append] at hj ⊢
  have hne : ¬ (x.r.hi + 1 = s.lo ∧ x.rest = T) := by
   rintro ⟨h1, h2⟩
   simp [joinsG, h1, h2] at hj
  have e : addG s T ((((G0 ++ [x]).map GV.grp)).reverse) = ⟨s, T⟩ :: ((G0 ++ [x]).map GV.grp).reverse := by
   simp only [List.map_append, List.map_cons, List.map_nil, List.reverse_append, List.reverse_cons, List.reverse_nil, List.nil_append, List.cons_append, addG, if_neg hT]
   rw [if_neg (by exact hne)]
  rw [e]
  refine ⟨by simp [GV.grp], ?_⟩
  rw [total_cons]; dsimp only; omega
theorem grow_join {G0 : List GV} {x : GV} {gs : List Grp} {s : Rg} {T : List Bx} (h : gs = ((G0 ++ [x]).map GV.grp).reverse) (hT : T ≠ []) (hj : joinsG (G0 ++ [x]) s T = true) : addG s T gs = ((G0 ++ [(⟨⟨x.r.lo, s.hi⟩, x.v, x.rest⟩ : GV)]).map GV.grp).reverse ∧ total (addG s T gs) = total gs := by
 subst h
 have hy : x.r.hi + 1 = s.lo ∧ x.rest = T := by simpa [joinsG] using hj
 have e : addG s T ((((G0 ++ [x]).map GV.grp)).reverse) = ⟨⟨x.r.lo, s.hi⟩, x.rest⟩ :: (G0.map GV.grp).reverse := by
  simp only [List.map_append, List.map_cons, List.map_nil, List.reverse_append, List.reverse_cons, List.reverse_nil, List.nil_append, List.cons_append, addG, if_neg hT]
  rw [if_pos (by exact hy)]
  rfl
 rw [e]
 refine ⟨by simp [GV.grp], ?_⟩
 simp [total, GV.grp]
theorem flatG_app (f : Nat) (A B : List Grp) : flatG f (A ++ B) = flatG f A ++ flatG f B := by simp [flatG]
theorem flat_take {f : Nat} {G : List GV} {k : Nat} (h : k < G.length) : flatG f ((G.take (k + 1)).map GV.grp) = flatG f ((G.take k).map GV.grp) ++ (G[k].rest.map fun x => x.set f G[k].r) := by
 rw [List.take_succ_eq_append_getElem h, List.map_append, flatG_app]
 simp [flatG, GV.grp]
theorem flat_take_le (f : Nat) (G : List GV) (k : Nat) : (flatG f ((G.take k).map GV.grp)).length ≤ (flatG f (G.map GV.grp)).length := by
 have e : flatG f (G.map GV.grp) = flatG f ((G.take k).map GV.grp) ++ flatG f ((G.drop k).map GV.grp) := by
  rw [← flatG_app, ← List.map_append, List.take_append_drop]
 rw [e, List.length_append]; omega
end Go.Proofs.YtbdfblgdmappeaaGreatDoor
