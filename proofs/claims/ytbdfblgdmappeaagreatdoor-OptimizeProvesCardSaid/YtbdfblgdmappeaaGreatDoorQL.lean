/- How many blocks a range has. -/
import Derived.Test.YtbdfblgdmappeaaGreatDoorQB
import Derived.Test.YtbdfblgdmappeaaGreatDoorQA
import Derived.Test.YtbdfblgdmappeaaGreatDoorMB
import Derived.Test.YtbdfblgdmappeaaGreatDoorQI
namespace Go.Proofs.YtbdfblgdmappeaaGreatDoor
open Go.RowKit
set_option maxRecDepth 100000
set_option maxHeartbeats 16000000 in
theorem pBlocks_any (r : Rg) (wd : Nat) (hwd : wd = 32 ∨ wd = 16 ∨ wd = 8) (h0 : 0 ≤ r.lo) (h1 : r.lo ≤ r.hi) (h2 : r.hi < 2 ^ wd) (w : World) :
  Calls Tryz.prog 199 #[.agg #[.int .u32 r.lo, .int .u32 r.hi], .int .i64 wd] w fun e w' => (∃ a c, e = .returned (.slice a (blkN wd r) c)) ∧ Below w.heap.size w w' := by
 have hO := own_start [] w
 have hN := blkN_le h0 h1 h2
 obtain ⟨lo, hi⟩ := r
 dsimp only at h0 h1 h2
 obtain ⟨L0, rfl⟩ : ∃ k : Nat, lo = (k : Int) := ⟨lo.toNat, by omega⟩
 obtain ⟨E, rfl⟩ : ∃ k : Nat, hi = (k : Int) := ⟨hi.toNat, by omega⟩
 have HN := Lib.hid (show blkN wd ⟨(L0 : Int), (E : Int)⟩ = (blkF wd L0 (E + 1 - L0)).length by unfold blkN; dsimp only; rw [Int.toNat_natCast]; congr 2; omega)
 generalize blkN wd ⟨(L0 : Int), (E : Int)⟩ = N at *
 have hE : E < 2 ^ wd := by exact_mod_cast h2
 have hw2 : (wd = 32 ∧ 2 ^ wd = 4294967296) ∨ (wd = 16 ∧ 2 ^ wd = 65536) ∨ (wd = 8 ∧ 2 ^ wd = 256) := by rcases hwd with rfl | rfl | rfl <;> simp
 have HP := Lib.hid (fun k (h : k ≤ wd) => show 0 < 2 ^ k ∧ 2 ^ k ≤ 2 ^ wd from ⟨Nat.pow_pos (by omega), Nat.pow_le_pow_right (by omega) h⟩)
 have HP2 := Lib.hid (fun k (h : 2 ^ k ≤ 2 ^ wd) => (Nat.pow_le_pow_iff_right (a := 2) (by omega)).1 h)
 clear h2 hwd
 obtain ⟨F, hF1⟩ : ∃ F, F = E + 1 := ⟨_, rfl⟩
 rw [← hF1] at HN
 have hF2 : F ≤ E + 1 := by omega
 have hF3 : E + 1 ≤ F := by omega
 clear hF1
 have HK := Lib.hid (fun L (h : L < F) => blkF_cons (w := wd) (lo := L) (n := F - L) (by omega))
 have HF := Lib.hid (fun L => show blkF wd L (F - F) = [] by rw [Nat.sub_self]; exact blkF_nil wd L)
 have HU := Lib.hid (fun L n k (h1 : blkOk L n k = true) (h2 : blkOk L n (k + 1) = false) (h3 : k ≤ wd) => dnF_up h1 h2 h3)
 generalize hpw : 2 ^ wd = pw at *
 obtain ⟨W, hW⟩ : ∃ q, q = wd := ⟨_, rfl⟩
 rw [← hW] at HN HK HU HF HP HP2
 have HQ := Lib.hid (show 2 ^ W = pw by rw [hW]; exact hpw)
 clear hpw hW
 have g1 : decide ((E : Int) < (L0 : Int)) = false := decide_eq_false (by omega)
 have h01 : L0 ≤ F := by omega
 go_enter Tryz.func199, Tryz.ntmps199
 rcases hw2 with ⟨rfl, rfl⟩ | ⟨rfl, rfl⟩ | ⟨rfl, rfl⟩
 all_goals
  have sE : IntKind.u64.wrap ((E : Int) + 1) = (F : Int) := by rw [IntKind.wrap_u64]; omega
  have sF : IntKind.u64.wrap (E : Int) = (E : Int) := by rw [IntKind.wrap_u64]; omega
  have sL : IntKind.u64.wrap (L0 : Int) = (L0 : Int) := by rw [IntKind.wrap_u64]; omega
  go_upto_region 1 with (refine bx9 2 hO ?_; clear hO; intro n2 wv hO)
  have c0 : wv.cell? ⟨n2, 0, none⟩ = some (.int .u32 L0) := (hO.chunk _ List.mem_cons_self).cell 0
  have c1 : wv.cell? ⟨n2, 1, none⟩ = some (.int .u32 E) := (hO.chunk _ List.mem_cons_self).cell 1
  go_wp2_with ((with_reducible refine is_load ?_); (refine own_ldQ (h := ?_)))
  clear c0 c1
  apply wp_via
  case h =>
   refine wp_region_any (by kernel_rfl) ?_
   replace hO := hO.drew
   have ix9 := Ix.mk [0, 3]
   iterate 2 (refine wpAny_tkO ix9 ?_; replace ix9 := ix9.tail; (first | go_big_quiet_skip | (go_big_quiet_want; (go_big_quiet_op; (first | go_big_quiet_on | ((refine ⟨_, fun _ _ => rfl, ?_⟩); go_big_quiet_on))))); (refine wpQuiet_nil ?_); (try simp only [Act.put]); (try simp only [sI9, sZ9, sS9]))
   clear ix9
   refine wpAny_all (rs := [1, 4]) (by kernel_rfl) (by simp) (ord_cons ?_ (ord_cons ?_ ord_nil))
   rotate_left 2
   all_goals
    refine wpOp_of_listL rfl ?_
    ((with_reducible refine is_load ?_); (refine own_ldQ (h := ?_))); (try simp only [Act.put]); (try simp only [sI9, sZ9, sS9])
    refine wpList_done (qk_intro ?_)
   refine wpAny_tkO (Ix.mk [2]) ?_
   (first | go_big_quiet_skip | (go_big_quiet_want; (go_big_quiet_op; (first | go_big_quiet_on | ((refine ⟨_, fun _ _ => rfl, ?_⟩); go_big_quiet_on))))); (refine wpQuiet_nil ?_); (try simp only [Act.put]); (try simp only [sI9, sZ9, sS9])
   refine wpAny_all (rs := [4, 7]) (by kernel_rfl) (by simp) (ord_cons ?_ (ord_cons ?_ ord_nil))
   rotate_left 2
   have ix9 := Ix.mk [5, 6]
   iterate 2 (refine wpAny_tkO ix9 ?_; replace ix9 := ix9.tail; (first | go_big_quiet_skip | (go_big_quiet_want; (go_big_quiet_op; (first | go_big_quiet_on | ((refine ⟨_, fun _ _ => rfl, ?_⟩); go_big_quiet_on))))); (refine wpQuiet_nil ?_); (try simp only [Act.put]); (try simp only [sI9, sZ9, sS9]))
   clear ix9
   refine wpAny_1 1 ?_
   rotate_left 1
   all_goals
    refine wpOp_of_listL rfl ?_
    (first | ((with_reducible refine is_load ?_); (refine own_ldQ (h := ?_))) | ((refine wpList_step (fun K hK => ?_)); go_simp; ((refine hK _ _ ?_); clear hK K))); (try simp only [Act.put]); (try simp only [sI9, sZ9, sS9])
    refine wpList_done (qk_intro ?_)
   have ix9 := Ix.mk [5, 6]
   iterate 2 (refine wpAny_tkO ix9 ?_; replace ix9 := ix9.tail; (first | go_big_quiet_skip | (go_big_quiet_want; (go_big_quiet_op; (first | go_big_quiet_on | ((refine ⟨_, fun _ _ => rfl, ?_⟩); go_big_quiet_on))))); (refine wpQuiet_nil ?_); (try simp only [Act.put]); (try simp only [sI9, sZ9, sS9]))
   clear ix9
   refine wpAny_1 7 ?_
   rotate_left 1
   refine wpAny_1 4 ?_
   rotate_left 1
   refine wpAny_tkO (Ix.mk [2]) ?_
   (first | go_big_quiet_skip | (go_big_quiet_want; (go_big_quiet_op; (first | go_big_quiet_on | ((refine ⟨_, fun _ _ => rfl, ?_⟩); go_big_quiet_on))))); (refine wpQuiet_nil ?_); (try simp only [Act.put]); (try simp only [sI9, sZ9, sS9])
   refine wpAny_1 7 ?_
   rotate_left 1
   all_goals
    refine wpOp_of_listL rfl ?_
    (first | ((with_reducible refine is_load ?_); (refine own_ldQ (h := ?_))) | ((refine wpList_step (fun K hK => ?_)); go_simp; ((refine hK _ _ ?_); clear hK K))); (try simp only [Act.put]); (try simp only [sI9, sZ9, sS9])
    refine wpList_done (qk_intro ?_)
   refine wpAny_1 8 ?_
   rotate_left 1
   have ix9 := Ix.mk [5, 6]
   iterate 2 (refine wpAny_tkO ix9 ?_; replace ix9 := ix9.tail; (first | go_big_quiet_skip | (go_big_quiet_want; (go_big_quiet_op; (first | go_big_quiet_on | ((refine ⟨_, fun _ _ => rfl, ?_⟩); go_big_quiet_on))))); (refine wpQuiet_nil ?_); (try simp only [Act.put]); (try simp only [sI9, sZ9, sS9]))
   clear ix9
   refine wpAny_1 8 ?_
   rotate_left 1
   refine wpAny_1 8 ?_
   rotate_left 1
   all_goals
    refine wpOp_of_listL rfl ?_
    ((refine wpList_step (fun K hK => ?_)); go_simp; ((refine hK _ _ ?_); clear hK K))
    refine wpList_done (qk_intro ?_)
   exact wpAny_done (by kernel_rfl) ⟨rfl, rfl, hO⟩ _
   exact wpAny_done (by kernel_rfl) ⟨rfl, rfl, hO⟩ _
   exact wpAny_done (by kernel_rfl) ⟨rfl, rfl, hO⟩ _
  clear hO
  intro wv hO
  replace hO := hO.nilRow 96 2
  go_wp2_with fail
  go_loopw [5, 6, 8] (fun v5 q6 _ wr => ∃ (L m : Nat) (A : Option Addr) (C : Nat) (xs : List Value), m ≤ L ∧ L ≤ F ∧ q6 = .int .u64 L ∧ v5 = .slice A m C ∧ Hid (m + (blkF W L (F - L)).length = N) ∧ Own [] w [⟨n2, [.int .u32 L0, .int .u32 E], 96⟩] [⟨.slice A m C, m, xs, 96, 2⟩] [] wr) (fun _ q6 _ _ => F - (intOf q6).toNat)
  case atStart => exact ⟨L0, 0, none, 0, [], by omega, by omega, rfl, rfl, Lib.hid (by rw [Nat.zero_add]; exact HN.out.symm), hO⟩
  case round =>
   clear hO
   obtain ⟨L, m, A, C, xs, hmL, hL, rfl, rfl, HB, hO⟩ := hrel
   by_cases hlt : L < F
   ·have g3 : decide ((L : Int) < (F : Int)) = true := decide_eq_true (by omega)
    obtain ⟨D, hD1⟩ : ∃ D, D = F - L := ⟨_, rfl⟩
    have hD2 : D + L ≤ F := by omega
    have hD3 : F ≤ D + L := by omega
    have HD0 := Lib.hid (show 0 < D by omega)
    have s2 : IntKind.u64.wrap ((F : Int) - (L : Int)) = (D : Int) := by rw [IntKind.wrap_u64]; omega
    have HK1 := Lib.hid (HK.out L hlt)
    rw [← hD1] at HK1 HB
    clear hD1
    go_wp2_with fail
    go_loopw [8] (fun q8 wr => ∃ k : Nat, k ≤ W ∧ q8 = .int .u64 ((2 ^ k : Nat) : Int) ∧ Hid (dnF L D W = dnF L D k) ∧ Own [] w [⟨n2, [.int .u32 L0, .int .u32 E], 96⟩] [⟨.slice A m C, m, xs, 96, 2⟩] [] wr) (fun q8 _ => (intOf q8).toNat)
    case atStart => exact ⟨W, Nat.le_refl _, by rw [HQ.out]; rfl, Lib.hid rfl, hO⟩
    case round =>
     clear hO
     obtain ⟨k, hk, rfl, HDk, hO⟩ := hrel
     obtain ⟨hs0, hs1⟩ := HP.out k hk
     cases hb : blkOk L D k with
     | true =>
      obtain ⟨e1, e2⟩ := blkOk_iff.1 hb
      have HC : Hid (m + 1 + (blkF W (L + 2 ^ k) (F - (L + 2 ^ k))).length = N) := Lib.hid (by
       have h := HB.out
       rw [HK1.out, HDk.out, dnF_stop hb, List.length_cons] at h
       rw [show F - (L + 2 ^ k) = D - 2 ^ k by omega]
       omega)
      clear hb HDk HK1 HB
      generalize 2 ^ k = s at *
      have r1 : (L : Int) % (s : Int) = 0 := by exact_mod_cast e1
      have hn : ((s : Int) == 0) = false := by simp; omega
      have s4 : IntKind.u64.wrap ((L : Int) + (s : Int)) = ((L + s : Nat) : Int) := by rw [IntKind.wrap_u64]; omega
      have s5 : IntKind.u64.wrap (((L + s : Nat) : Int) - 1) = ((L + s - 1 : Nat) : Int) := by rw [IntKind.wrap_u64]; omega
      have s6 : IntKind.u32.wrap ((L : Int)) = (L : Int) := by rw [IntKind.wrap_u32]; omega
      have s7 : IntKind.u32.wrap ((L + s - 1 : Nat) : Int) = ((L + s - 1 : Nat) : Int) := by rw [IntKind.wrap_u32]; omega
      have g4 : ((L : Int) % (s : Int) != 0) = false := by rw [r1]; rfl
      have g5 : decide ((D : Int) < (s : Int)) = false := decide_eq_false (by omega)
      clear r1 e1
      go_wp2_with (first | (refine' own_build1 (o := ⟨some 66, _, _, _, _, _⟩) hO (by rfl) rfl rfl ?hu ?hf ?_; (case hu => (with_reducible (exact und_Ranges))); (case hf => kernel_rfl); clear hO; intro n66 wv hO) | ((with_reducible refine is_append ?_); refine own_apQ (o := ⟨some 67, _, _, _, _, _⟩) (hO := hO) (h := ?_); clear hO; intro g67 c67 wv hO))
      refine ⟨⟨L + s, m + 1, _, _, _, by omega, by omega, by go_num, rfl, HC, hO.sub (.cons _ (.refl _)) (.refl _) (fun _ h => h)⟩, ?_⟩
      simp [intOf]; omega
     | false =>
      have hk0 : k ≠ 0 := fun e => by
       subst e
       rw [blkOk_zero (lo := L) (n := D) HD0.out] at hb
       cases hb
      obtain ⟨j, rfl⟩ : ∃ j, k = j + 1 := ⟨k - 1, by omega⟩
      have HG1 := Lib.hid (HDk.out.trans (dnF_go hb))
      have e3 : ¬ (L % 2 ^ (j + 1) = 0 ∧ 2 ^ (j + 1) ≤ D) := fun h => by rw [blkOk_iff.2 h] at hb; cases hb
      rw [Nat.pow_succ] at e3 hs1
      have hs2 : 0 < 2 ^ j := Nat.pow_pos (by omega)
      clear hs0 hb hk0 HDk
      have HPJ := Lib.hid (show ((2 ^ (j + 1) : Nat) : Int) = ((2 ^ j : Nat) : Int) * 2 by rw [Nat.pow_succ, Int.natCast_mul]; rfl)
      rw [HPJ.out]
      generalize hsj : 2 ^ j = s at *
      have HSJ := Lib.hid hsj
      clear hsj
      have hn : (((s : Int) * 2) == 0) = false := by simp; omega
      have q2 : ((s : Int) * 2) / 2 = (s : Int) := by omega
      by_cases e4 : L % (s * 2) = 0
      ·have r1 : (L : Int) % ((s : Int) * 2) = 0 := by exact_mod_cast e4
       have g4 : ((L : Int) % ((s : Int) * 2) != 0) = false := by rw [r1]; rfl
       have g5 : decide ((D : Int) < (s : Int) * 2) = true := decide_eq_true (by omega)
       clear r1 e4 e3
       go_wp2_with fail
       refine ⟨⟨j, by omega, by rw [HSJ.out], HG1, hO⟩, ?_⟩
       simp [intOf]; omega
      ·have r1 : ¬ (L : Int) % ((s : Int) * 2) = 0 := by exact_mod_cast e4
       have g4 : ((L : Int) % ((s : Int) * 2) != 0) = true := by simpa using r1
       clear r1 e4 e3
       go_wp2_with fail
       refine ⟨⟨j, by omega, by rw [HSJ.out], HG1, hO⟩, ?_⟩
       simp [intOf]; omega
   ·obtain rfl : L = F := by omega
    have g3 : decide ((L : Int) < (L : Int)) = false := decide_eq_false (by omega)
    have HN2 := Lib.hid (show m = N by have h := HB.out; rw [HF.out, List.length_nil] at h; omega)
    go_wp2_with fail
    go_ret
    exact ⟨⟨A, C, by rw [HN2.out]; rfl⟩, hO.keep.below⟩
set_option maxHeartbeats 16000000 in
theorem rBlocks_any (r : Rg) (wd : Nat) (hwd : wd = 32 ∨ wd = 16 ∨ wd = 8) (h0 : 0 ≤ r.lo) (h1 : r.lo ≤ r.hi) (h2 : r.hi < 2 ^ wd) (w : World) :
  Calls Tryz.prog 168 #[.agg #[.int .u32 r.lo, .int .u32 r.hi], .int .i64 wd] w fun e w' => (∃ a c, e = .returned (.slice a (blkN wd r) c)) ∧ Below w.heap.size w w' := by
 have hO := own_start [] w
 have hN := blkN_le h0 h1 h2
 obtain ⟨lo, hi⟩ := r
 dsimp only at h0 h1 h2
 obtain ⟨L0, rfl⟩ : ∃ k : Nat, lo = (k : Int) := ⟨lo.toNat, by omega⟩
 obtain ⟨E, rfl⟩ : ∃ k : Nat, hi = (k : Int) := ⟨hi.toNat, by omega⟩
 have HN := Lib.hid (show blkN wd ⟨(L0 : Int), (E : Int)⟩ = (blkF wd L0 (E + 1 - L0)).length by unfold blkN; dsimp only; rw [Int.toNat_natCast]; congr 2; omega)
 generalize blkN wd ⟨(L0 : Int), (E : Int)⟩ = N at *
 have hE : E < 2 ^ wd := by exact_mod_cast h2
 have hw2 : (wd = 32 ∧ 2 ^ wd = 4294967296) ∨ (wd = 16 ∧ 2 ^ wd = 65536) ∨ (wd = 8 ∧ 2 ^ wd = 256) := by rcases hwd with rfl | rfl | rfl <;> simp
 have HP := Lib.hid (fun k (h : k ≤ wd) => show 0 < 2 ^ k ∧ 2 ^ k ≤ 2 ^ wd from ⟨Nat.pow_pos (by omega), Nat.pow_le_pow_right (by omega) h⟩)
 have HP2 := Lib.hid (fun k (h : 2 ^ k ≤ 2 ^ wd) => (Nat.pow_le_pow_iff_right (a := 2) (by omega)).1 h)
 clear h2 hwd
 obtain ⟨F, hF1⟩ : ∃ F, F = E + 1 := ⟨_, rfl⟩
 rw [← hF1] at HN
 have hF2 : F ≤ E + 1 := by omega
 have hF3 : E + 1 ≤ F := by omega
 clear hF1
 have HK := Lib.hid (fun L (h : L < F) => blkF_cons (w := wd) (lo := L) (n := F - L) (by omega))
 have HF := Lib.hid (fun L => show blkF wd L (F - F) = [] by rw [Nat.sub_self]; exact blkF_nil wd L)
 have HU := Lib.hid (fun L n k (h1 : blkOk L n k = true) (h2 : blkOk L n (k + 1) = false) (h3 : k ≤ wd) => dnF_up h1 h2 h3)
 generalize hpw : 2 ^ wd = pw at *
 obtain ⟨W, hW⟩ : ∃ q, q = wd := ⟨_, rfl⟩
 rw [← hW] at HN HK HU HF HP HP2
 have HQ := Lib.hid (show 2 ^ W = pw by rw [hW]; exact hpw)
 clear hpw hW
 have g1 : decide ((E : Int) < (L0 : Int)) = false := decide_eq_false (by omega)
 have h01 : L0 ≤ F := by omega
 go_enter Tryz.func168, Tryz.ntmps168
 rcases hw2 with ⟨rfl, rfl⟩ | ⟨rfl, rfl⟩ | ⟨rfl, rfl⟩
 all_goals
  have sE : IntKind.u64.wrap ((E : Int) + 1) = (F : Int) := by rw [IntKind.wrap_u64]; omega
  have sF : IntKind.u64.wrap (E : Int) = (E : Int) := by rw [IntKind.wrap_u64]; omega
  have sL : IntKind.u64.wrap (L0 : Int) = (L0 : Int) := by rw [IntKind.wrap_u64]; omega
  go_upto_region 1 with (refine bx9 2 hO ?_; clear hO; intro n2 wv hO)
  have c0 : wv.cell? ⟨n2, 0, none⟩ = some (.int .u32 L0) := (hO.chunk _ List.mem_cons_self).cell 0
  have c1 : wv.cell? ⟨n2, 1, none⟩ = some (.int .u32 E) := (hO.chunk _ List.mem_cons_self).cell 1
  go_wp2_with ((with_reducible refine is_load ?_); (refine own_ldQ (h := ?_)))
  clear c0 c1
  apply wp_via
  case h =>
   refine wp_region_any (by kernel_rfl) ?_
   replace hO := hO.drew
   have ix9 := Ix.mk [0, 3]
   iterate 2 (refine wpAny_tkO ix9 ?_; replace ix9 := ix9.tail; (first | go_big_quiet_skip | (go_big_quiet_want; (go_big_quiet_op; (first | go_big_quiet_on | ((refine ⟨_, fun _ _ => rfl, ?_⟩); go_big_quiet_on))))); (refine wpQuiet_nil ?_); (try simp only [Act.put]); (try simp only [sI9, sZ9, sS9]))
   clear ix9
   refine wpAny_all (rs := [1, 4]) (by kernel_rfl) (by simp) (ord_cons ?_ (ord_cons ?_ ord_nil))
   rotate_left 2
   all_goals
    refine wpOp_of_listL rfl ?_
    ((with_reducible refine is_load ?_); (refine own_ldQ (h := ?_))); (try simp only [Act.put]); (try simp only [sI9, sZ9, sS9])
    refine wpList_done (qk_intro ?_)
   refine wpAny_tkO (Ix.mk [2]) ?_
   (first | go_big_quiet_skip | (go_big_quiet_want; (go_big_quiet_op; (first | go_big_quiet_on | ((refine ⟨_, fun _ _ => rfl, ?_⟩); go_big_quiet_on))))); (refine wpQuiet_nil ?_); (try simp only [Act.put]); (try simp only [sI9, sZ9, sS9])
   refine wpAny_all (rs := [4, 7]) (by kernel_rfl) (by simp) (ord_cons ?_ (ord_cons ?_ ord_nil))
   rotate_left 2
   have ix9 := Ix.mk [5, 6]
   iterate 2 (refine wpAny_tkO ix9 ?_; replace ix9 := ix9.tail; (first | go_big_quiet_skip | (go_big_quiet_want; (go_big_quiet_op; (first | go_big_quiet_on | ((refine ⟨_, fun _ _ => rfl, ?_⟩); go_big_quiet_on))))); (refine wpQuiet_nil ?_); (try simp only [Act.put]); (try simp only [sI9, sZ9, sS9]))
   clear ix9
   refine wpAny_1 1 ?_
   rotate_left 1
   all_goals
    refine wpOp_of_listL rfl ?_
    (first | ((with_reducible refine is_load ?_); (refine own_ldQ (h := ?_))) | ((refine wpList_step (fun K hK => ?_)); go_simp; ((refine hK _ _ ?_); clear hK K))); (try simp only [Act.put]); (try simp only [sI9, sZ9, sS9])
    refine wpList_done (qk_intro ?_)
   have ix9 := Ix.mk [5, 6]
   iterate 2 (refine wpAny_tkO ix9 ?_; replace ix9 := ix9.tail; (first | go_big_quiet_skip | (go_big_quiet_want; (go_big_quiet_op; (first | go_big_quiet_on | ((refine ⟨_, fun _ _ => rfl, ?_⟩); go_big_quiet_on))))); (refine wpQuiet_nil ?_); (try simp only [Act.put]); (try simp only [sI9, sZ9, sS9]))
   clear ix9
   refine wpAny_1 7 ?_
   rotate_left 1
   refine wpAny_1 4 ?_
   rotate_left 1
   refine wpAny_tkO (Ix.mk [2]) ?_
   (first | go_big_quiet_skip | (go_big_quiet_want; (go_big_quiet_op; (first | go_big_quiet_on | ((refine ⟨_, fun _ _ => rfl, ?_⟩); go_big_quiet_on))))); (refine wpQuiet_nil ?_); (try simp only [Act.put]); (try simp only [sI9, sZ9, sS9])
   refine wpAny_1 7 ?_
   rotate_left 1
   all_goals
    refine wpOp_of_listL rfl ?_
    (first | ((with_reducible refine is_load ?_); (refine own_ldQ (h := ?_))) | ((refine wpList_step (fun K hK => ?_)); go_simp; ((refine hK _ _ ?_); clear hK K))); (try simp only [Act.put]); (try simp only [sI9, sZ9, sS9])
    refine wpList_done (qk_intro ?_)
   refine wpAny_1 8 ?_
   rotate_left 1
   have ix9 := Ix.mk [5, 6]
   iterate 2 (refine wpAny_tkO ix9 ?_; replace ix9 := ix9.tail; (first | go_big_quiet_skip | (go_big_quiet_want; (go_big_quiet_op; (first | go_big_quiet_on | ((refine ⟨_, fun _ _ => rfl, ?_⟩); go_big_quiet_on))))); (refine wpQuiet_nil ?_); (try simp only [Act.put]); (try simp only [sI9, sZ9, sS9]))
   clear ix9
   refine wpAny_1 8 ?_
   rotate_left 1
   refine wpAny_1 8 ?_
   rotate_left 1
   all_goals
    refine wpOp_of_listL rfl ?_
    ((refine wpList_step (fun K hK => ?_)); go_simp; ((refine hK _ _ ?_); clear hK K))
    refine wpList_done (qk_intro ?_)
   exact wpAny_done (by kernel_rfl) ⟨rfl, rfl, hO⟩ _
   exact wpAny_done (by kernel_rfl) ⟨rfl, rfl, hO⟩ _
   exact wpAny_done (by kernel_rfl) ⟨rfl, rfl, hO⟩ _
  clear hO
  intro wv hO
  replace hO := hO.nilRow 96 2
  go_wp2_with fail
  go_loopw [5, 6, 8] (fun v5 q6 _ wr => ∃ (L m : Nat) (A : Option Addr) (C : Nat) (xs : List Value), m ≤ L ∧ L ≤ F ∧ q6 = .int .u64 L ∧ v5 = .slice A m C ∧ Hid (m + (blkF W L (F - L)).length = N) ∧ Own [] w [⟨n2, [.int .u32 L0, .int .u32 E], 96⟩] [⟨.slice A m C, m, xs, 96, 2⟩] [] wr) (fun _ q6 _ _ => F - (intOf q6).toNat)
  case atStart => exact ⟨L0, 0, none, 0, [], by omega, by omega, rfl, rfl, Lib.hid (by rw [Nat.zero_add]; exact HN.out.symm), hO⟩
  case round =>
   clear hO
   obtain ⟨L, m, A, C, xs, hmL, hL, rfl, rfl, HB, hO⟩ := hrel
   by_cases hlt : L < F
   ·have g3 : decide ((L : Int) < (F : Int)) = true := decide_eq_true (by omega)
    obtain ⟨D, hD1⟩ : ∃ D, D = F - L := ⟨_, rfl⟩
    have hD2 : D + L ≤ F := by omega
    have hD3 : F ≤ D + L := by omega
    have HD0 := Lib.hid (show 0 < D by omega)
    have s2 : IntKind.u64.wrap ((F : Int) - (L : Int)) = (D : Int) := by rw [IntKind.wrap_u64]; omega
    have HK1 := Lib.hid (HK.out L hlt)
    rw [← hD1] at HK1 HB
    clear hD1
    go_wp2_with fail
    go_loopw [8] (fun q8 wr => ∃ k : Nat, k ≤ W ∧ q8 = .int .u64 ((2 ^ k : Nat) : Int) ∧ Hid (blkOk L D k = true) ∧ Own [] w [⟨n2, [.int .u32 L0, .int .u32 E], 96⟩] [⟨.slice A m C, m, xs, 96, 2⟩] [] wr) (fun q8 _ => F + 1 - (intOf q8).toNat)
    case atStart => exact ⟨0, Nat.zero_le _, rfl, Lib.hid (blkOk_zero (lo := L) (n := D) HD0.out), hO⟩
    case round =>
     clear hO
     obtain ⟨k, hk, rfl, HBk, hO⟩ := hrel
     obtain ⟨hs0, hs1⟩ := HP.out k hk
     have s1 : IntKind.u64.wrap (2 * ((2 ^ k : Nat) : Int)) = 2 * ((2 ^ k : Nat) : Int) := by rw [IntKind.wrap_u64]; omega
     have s3 : IntKind.u64.wrap (((2 ^ k : Nat) : Int) * 2) = ((2 ^ k : Nat) : Int) * 2 := by rw [IntKind.wrap_u64]; omega
     have hn : ((2 * ((2 ^ k : Nat) : Int)) == 0) = false := beq_eq_false_iff_ne.2 (by omega)
     cases hb : blkOk L D (k + 1) with
     | true =>
      have hbo := blkOk_iff.1 hb
      have hp2 := HP2.out (k + 1)
      rw [show 2 ^ (k + 1) = 2 * 2 ^ k by rw [Nat.pow_succ, Nat.mul_comm]] at hbo hp2
      obtain ⟨e1, e2⟩ := hbo
      have hkW := hp2 (by omega)
      have HPJ := Lib.hid (show ((2 ^ (k + 1) : Nat) : Int) = ((2 ^ k : Nat) : Int) * 2 by rw [Nat.pow_succ, Int.natCast_mul]; rfl)
      have s4 : IntKind.u64.wrap ((L : Int) + 2 * ((2 ^ k : Nat) : Int)) = (L : Int) + 2 * ((2 ^ k : Nat) : Int) := by rw [IntKind.wrap_u64]; omega
      have HB2 := Lib.hid hb
      generalize 2 ^ k = s at *
      have r1 : (L : Int) % (2 * (s : Int)) = 0 := by exact_mod_cast e1
      have g4 : ((L : Int) % (2 * (s : Int)) == 0) = true := by rw [r1]; rfl
      have g5 : decide ((L : Int) + 2 * (s : Int) ≤ (F : Int)) = true := decide_eq_true (by omega)
      clear r1 e1 hb hp2
      go_wp2_with fail
      refine ⟨⟨k + 1, hkW, by rw [HPJ.out], HB2, hO⟩, ?_⟩
      simp [intOf]; omega
     | false =>
      obtain ⟨e1, e2⟩ := blkOk_iff.1 HBk.out
      have HC : Hid (m + 1 + (blkF W (L + 2 ^ k) (F - (L + 2 ^ k))).length = N) := Lib.hid (by
       have h := HB.out
       rw [HK1.out, HU.out _ _ _ HBk.out hb hk, List.length_cons] at h
       rw [show F - (L + 2 ^ k) = D - 2 ^ k by omega]
       omega)
      have e3 : ¬ (L % 2 ^ (k + 1) = 0 ∧ 2 ^ (k + 1) ≤ D) := fun h => by rw [blkOk_iff.2 h] at hb; cases hb
      rw [show 2 ^ (k + 1) = 2 * 2 ^ k by rw [Nat.pow_succ, Nat.mul_comm]] at e3
      have s4b : IntKind.u64.wrap ((L : Int) + 2 * ((2 ^ k : Nat) : Int)) = (L : Int) + 2 * ((2 ^ k : Nat) : Int) := by rw [IntKind.wrap_u64]; omega
      clear hb HBk HK1 HB
      generalize 2 ^ k = s at *
      by_cases e4 : L % (2 * s) = 0
      ·have r2 : (L : Int) % (2 * (s : Int)) = 0 := by exact_mod_cast e4
       have g4 : ((L : Int) % (2 * (s : Int)) == 0) = true := by rw [r2]; rfl
       have g5 : decide ((L : Int) + 2 * (s : Int) ≤ (F : Int)) = false := decide_eq_false (by omega)
       clear r2 e4 e3
       clear e1
       have s4 : IntKind.u64.wrap ((L : Int) + (s : Int)) = ((L + s : Nat) : Int) := by rw [IntKind.wrap_u64]; omega
       have s5 : IntKind.u64.wrap (((L + s : Nat) : Int) - 1) = ((L + s - 1 : Nat) : Int) := by rw [IntKind.wrap_u64]; omega
       have s6 : IntKind.u32.wrap ((L : Int)) = (L : Int) := by rw [IntKind.wrap_u32]; omega
       have s7 : IntKind.u32.wrap ((L + s - 1 : Nat) : Int) = ((L + s - 1 : Nat) : Int) := by rw [IntKind.wrap_u32]; omega
       go_wp2_with (first | (refine' own_build1 (o := ⟨some 65, _, _, _, _, _⟩) hO (by rfl) rfl rfl ?hu ?hf ?_; (case hu => (with_reducible (exact und_Ranges))); (case hf => kernel_rfl); clear hO; intro n65 wv hO) | ((with_reducible refine is_append ?_); refine own_apQ (o := ⟨some 66, _, _, _, _, _⟩) (hO := hO) (h := ?_); clear hO; intro g66 c66 wv hO))
       refine ⟨⟨L + s, m + 1, _, _, _, by omega, by omega, by go_num, rfl, HC, hO.sub (.cons _ (.refl _)) (.refl _) (fun _ h => h)⟩, ?_⟩
       simp [intOf]; omega
      ·have r2 : ¬ (L : Int) % (2 * (s : Int)) = 0 := by exact_mod_cast e4
       have g4 : ((L : Int) % (2 * (s : Int)) == 0) = false := beq_eq_false_iff_ne.2 r2
       clear r2 e4 e3
       clear e1
       have s4 : IntKind.u64.wrap ((L : Int) + (s : Int)) = ((L + s : Nat) : Int) := by rw [IntKind.wrap_u64]; omega
       have s5 : IntKind.u64.wrap (((L + s : Nat) : Int) - 1) = ((L + s - 1 : Nat) : Int) := by rw [IntKind.wrap_u64]; omega
       have s6 : IntKind.u32.wrap ((L : Int)) = (L : Int) := by rw [IntKind.wrap_u32]; omega
       have s7 : IntKind.u32.wrap ((L + s - 1 : Nat) : Int) = ((L + s - 1 : Nat) : Int) := by rw [IntKind.wrap_u32]; omega
       go_wp2_with (first | (refine' own_build1 (o := ⟨some 65, _, _, _, _, _⟩) hO (by rfl) rfl rfl ?hu ?hf ?_; (case hu => (with_reducible (exact und_Ranges))); (case hf => kernel_rfl); clear hO; intro n65 wv hO) | ((with_reducible refine is_append ?_); refine own_apQ (o := ⟨some 66, _, _, _, _, _⟩) (hO := hO) (h := ?_); clear hO; intro g66 c66 wv hO))
       refine ⟨⟨L + s, m + 1, _, _, _, by omega, by omega, by go_num, rfl, HC, hO.sub (.cons _ (.refl _)) (.refl _) (fun _ h => h)⟩, ?_⟩
       simp [intOf]; omega
   ·obtain rfl : L = F := by omega
    have g3 : decide ((L : Int) < (L : Int)) = false := decide_eq_false (by omega)
    have HN2 := Lib.hid (show m = N by have h := HB.out; rw [HF.out, List.length_nil] at h; omega)
    go_wp2_with fail
    go_ret
    exact ⟨⟨A, C, by rw [HN2.out]; rfl⟩, hO.keep.below⟩
def wdN : Nat → Nat
 | 0 => 32 | 1 => 32 | 2 => 8 | 3 => 16 | _ => 16
theorem blk_at {b : Bx} (kb : b.ok) (vb : vld b = true) {k : Nat} (hk : k < 5) : (wdN k = 32 ∨ wdN k = 16 ∨ wdN k = 8) ∧ 0 ≤ (b.at k).lo ∧ (b.at k).lo ≤ (b.at k).hi ∧ (b.at k).hi < 2 ^ wdN k := by
 have h1 := (kb k hk).1.1
 have h2 := (vld_iff.1 vb) k hk
 rcases five hk with rfl | rfl | rfl | rfl | rfl <;> exact ⟨by simp [wdN], h1, h2.1, by have := h2.2; simp only [topOf] at this; simp only [wdN]; omega⟩
theorem bn_le {b : Bx} (kb : b.ok) (vb : vld b = true) {k : Nat} (hk : k < 5) : blkN (wdN k) (b.at k) ≤ 65 := by
 obtain ⟨h1, h2, h3, h4⟩ := blk_at kb vb hk
 have := blkN_le h2 h3 h4
 omega
def cosK (b : Bx) : Nat → Nat
 | 0 => 1
 | k + 1 => cosK b k * blkN (wdN k) (b.at k)
theorem cosK_le {b : Bx} (kb : b.ok) (vb : vld b = true) : ∀ k, k ≤ 5 → cosK b k ≤ 65 ^ k
 | 0, _ => Nat.le_refl _
 | k + 1, h => by
  rw [cosK, Nat.pow_succ]
  exact Nat.mul_le_mul (cosK_le kb vb k (by omega)) (bn_le kb vb (by omega))
theorem cosB_is (b : Bx) : cosB b = (cosK b 5 : Int) := by
 unfold cosB
 simp only [cosK, wdN, Nat.one_mul]
 push_cast
 rfl
theorem cosF_bd (rg : Bool) {b : Bx} (kb : b.ok) : 0 ≤ cosF rg b ∧ cosF rg b ≤ 2000000000 := by
 unfold cosF
 split
 ·rename_i vb
  split
  ·omega
  ·rw [cosB_is]
   have := cosK_le kb vb 5 (by omega)
   have e : (65 : Nat) ^ 5 = 1160290625 := by decide
   omega
 ·omega
theorem cosK_bd {b : Bx} (kb : b.ok) (vb : vld b = true) {k : Nat} (hk : k ≤ 5) : cosK b k ≤ 1160290625 := by
 have h1 := cosK_le kb vb k hk
 have h2 : (65 : Nat) ^ k ≤ 65 ^ 5 := Nat.pow_le_pow_right (by omega) hk
 have e : (65 : Nat) ^ 5 = 1160290625 := by decide
 omega
theorem cosK_step {b : Bx} (kb : b.ok) (vb : vld b = true) {k : Nat} (hk : k < 5) : IntKind.i64.wrap ((cosK b k : Int) * (blkN (wdN k) (b.at k) : Int)) = ((cosK b (k + 1) : Nat) : Int) := by
 have h := cosK_bd kb vb (k := k + 1) hk
 rw [show ((cosK b k : Int) * (blkN (wdN k) (b.at k) : Int)) = ((cosK b (k + 1) : Nat) : Int) by rw [cosK, Int.natCast_mul]]
 exact IntWalk.i64_in _ (by omega)
abbrev blS (b : Bx) (A : Nat → Option Addr) (C : Nat → Nat) : Value := .agg #[.slice (A 0) (blkN (wdN 0) (b.at 0)) (C 0), .slice (A 1) (blkN (wdN 1) (b.at 1)) (C 1), .slice (A 2) (blkN (wdN 2) (b.at 2)) (C 2), .slice (A 3) (blkN (wdN 3) (b.at 3)) (C 3), .slice (A 4) (blkN (wdN 4) (b.at 4)) (C 4)]
theorem ix_bls (N : Nat → Nat) (A : Nat → Option Addr) (C : Nat → Nat) {k : Nat} (hk : k < 5) (w : World) : Sem.run Tryz.prog (Instr.index 201 (.agg #[.slice (A 0) (N 0) (C 0), .slice (A 1) (N 1) (C 1), .slice (A 2) (N 2) (C 2), .slice (A 3) (N 3) (C 3), .slice (A 4) (N 4) (C 4)]) (.int .i64 ↑k)) w = .ok (.slice (A k) (N k) (C k)) w := by
 rcases five hk with rfl | rfl | rfl | rfl | rfl <;> kernel_rfl
theorem five_slices {cs : List Value} {N : Nat → Nat} (hl : cs.length = 5) (h : ∀ j, j < 5 → ∃ a c, cs[j]? = some (.slice a (N j) c)) : ∃ (A : Nat → Option Addr) (C : Nat → Nat), cs = [.slice (A 0) (N 0) (C 0), .slice (A 1) (N 1) (C 1), .slice (A 2) (N 2) (C 2), .slice (A 3) (N 3) (C 3), .slice (A 4) (N 4) (C 4)] := by
 match cs, hl with
 | [s0, s1, s2, s3, s4], _ =>
  obtain ⟨a0, c0, h0⟩ := h 0 (by omega)
  obtain ⟨a1, c1, h1⟩ := h 1 (by omega)
  obtain ⟨a2, c2, h2⟩ := h 2 (by omega)
  obtain ⟨a3, c3, h3⟩ := h 3 (by omega)
  obtain ⟨a4, c4, h4⟩ := h 4 (by omega)
  simp only [List.getElem?_cons_zero, List.getElem?_cons_succ, Option.some.injEq] at h0 h1 h2 h3 h4
  refine ⟨fun | 0 => a0 | 1 => a1 | 2 => a2 | 3 => a3 | _ => a4, fun | 0 => c0 | 1 => c1 | 2 => c2 | 3 => c3 | _ => c4, ?_⟩
  subst h0 h1 h2 h3 h4
  rfl
theorem set_slices {cs : List Value} {N : Nat → Nat} {k : Nat} (hk : k < cs.length) {a : Option Addr} {c : Nat} (h : ∀ j, j < k → ∃ a c, cs[j]? = some (.slice a (N j) c)) : ∀ j, j < k + 1 → ∃ a' c', (cs.set k (.slice a (N k) c))[j]? = some (.slice a' (N j) c') := fun j hj => by
 by_cases e : j = k
 ·subst e; exact ⟨a, c, by rw [List.getElem?_set_self hk]⟩
 ·obtain ⟨a', c', h'⟩ := h j (by omega)
  exact ⟨a', c', by rw [List.getElem?_set_ne (by omega), h']⟩
theorem wid_at {k : Nat} (hk : k < 5) : widL[k]? = some (.int .i64 ((wdN k : Nat) : Int)) := by
 rcases five hk with rfl | rfl | rfl | rfl | rfl <;> rfl
set_option maxHeartbeats 8000000 in
theorem eblocks_any (b : Bx) (kb : b.ok) (vb : vld b = true) (w : World) (hw : Wid w) :
  Calls Tryz.prog 165 #[bv b] w fun e w' => (∃ A C, e = .returned (blS b A C)) ∧ Below w.heap.size w w' := by
 have hO := own_wid hw
 have hB := fun k (hk : k < 5) w => pBlocks_any (b.at k) (wdN k) (blk_at kb vb hk).1 (blk_at kb vb hk).2.1 (blk_at kb vb hk).2.2.1 (blk_at kb vb hk).2.2.2 w
 have HS := Lib.hid (fun cs k hk a c h => set_slices (cs := cs) (N := fun j => blkN (wdN j) (b.at j)) (k := k) (a := a) (c := c) hk h)
 clear kb vb
 go_enter Tryz.func165, Tryz.ntmps165
 go_wp2_with (first | ((with_reducible refine is_load ?_); (refine own_ldQ (h := ?_))) | (refine bx9 1 hO ?_; clear hO; intro n1 wv hO) | ((with_reducible refine is_alloc ?_); (first | (refine own_alQ (o := ⟨some 2, _, _, _, _, _⟩) (hO := hO) (h := ?_); clear hO; intro n2 wv hO) | (refine own_alQ (o := ⟨some 3, _, _, _, _, _⟩) (hO := hO) (h := ?_); clear hO; intro n3 wv hO))))
 go_loopw [7] (fun q wr => ∃ (k : Nat) (cs : List Value), k ≤ 5 ∧ q = .int .i64 k ∧ 5 ≤ cs.length ∧ cs.length ≤ 5 ∧ Hid (∀ j, j < k → ∃ a c, cs[j]? = some (.slice a (blkN (wdN j) (b.at j)) c)) ∧ Own [] w [⟨n3, cs, 201⟩, ⟨n2, [.slice none 0 0, .slice none 0 0, .slice none 0 0, .slice none 0 0, .slice none 0 0], 201⟩, ⟨n1, bcs b, 98⟩] [] [⟨1, 0, widL⟩] wr) (fun q _ => 5 - (intOf q).toNat)
 case atStart => exact ⟨0, _, by omega, rfl, by simp, by simp, Lib.hid (fun j hj => absurd hj (by omega)), hO⟩
 case round =>
  clear hO
  obtain ⟨k, cs, hk, rfl, l0, l1, HC, hO⟩ := hrel
  have s1 : IntKind.i64.wrap ((k : Int) + 1) = (k : Int) + 1 := IntWalk.i64_in _ (by omega)
  by_cases hlt : k < 5
  ·have g1 : decide ((k : Int) < 5) = true := decide_eq_true (by omega)
   have hix := fun w => ixb_at w b hlt
   have wk := wid_at hlt
   have hb := hB k hlt
   have HN := Lib.hid (fun a c => HS.out cs k (by omega) a c HC.out)
   clear HC HS hB
   generalize blkN (wdN k) (b.at k) = N at *
   generalize wdN k = W at *
   generalize b.at k = r at *
   obtain ⟨lo, hi⟩ := r
   (try dsimp only at hb hix)
   go_wp2_with (first | ((with_reducible refine is_store ?_); (refine own_stRQ (hO := hO) (h := ?_); clear hO; intro wv hO)) | ((with_reducible refine is_alloc ?_); refine own_alQ (o := ⟨some 5, _, _, _, _, _⟩) (hO := hO) (h := ?_); clear hO; intro n5 wv hO))
   (try simp only [Act.put])
   refine wp_region_any (by kernel_rfl) ?_
   replace hO := hO.drew
   have ix9 := Ix.mk [0, 2, 3]
   iterate 3 (refine wpAny_tk ix9 ?_; replace ix9 := ix9.tail; (first | go_big_quiet_skip | (go_big_quiet_want; (go_big_quiet_op; (first | go_big_quiet_on | ((refine ⟨_, fun _ _ => rfl, ?_⟩); go_big_quiet_on))))); (refine wpQuiet_nil ?_); (try simp only [Act.put]); (try simp only [sI9, sZ9, sS9]))
   clear ix9
   refine wpAny_all (rs := [1, 4]) (by kernel_rfl) (by simp) (ord_cons ?_ (ord_cons ?_ ord_nil))
   rotate_left 2
   all_goals
    refine wpOp_of_listL rfl ?_
    ((with_reducible refine is_load ?_); (refine own_ldQ (h := ?_))); (try simp only [Act.put]); (try simp only [sI9, sZ9, sS9])
    refine wpList_done (qk_intro ?_)
   refine wpAny_1 4 ?_
   rotate_left 1
   refine wpAny_1 1 ?_
   rotate_left 1
   all_goals
    refine wpOp_of_listL rfl ?_
    ((with_reducible refine is_load ?_); (refine own_ldQ (h := ?_))); (try simp only [Act.put]); (try simp only [sI9, sZ9, sS9])
    refine wpList_done (qk_intro ?_)
   refine wpAny_1 5 ?_
   rotate_left 1
   refine wpAny_1 5 ?_
   rotate_left 1
   all_goals
    refine wpOp_of_listL rfl ?_
    ((refine wpList_step (fun K hK => ?_)); go_simp; ((go_at_call 199; (with_reducible refine (hb _).mono ?_); rintro e wv ⟨⟨a9, c9, rfl⟩, hb9⟩; replace hO := hO.call hb9; clear hb9); (try simp only []); (refine hK _ _ ?_); clear hK K))
    refine wpList_done (qk_intro ?_)
   refine wpAny_tk (Ix.mk [6]) ?_
   (first | go_big_quiet_skip | (go_big_quiet_want; (go_big_quiet_op; (first | go_big_quiet_on | ((refine ⟨_, fun _ _ => rfl, ?_⟩); go_big_quiet_on))))); (refine wpQuiet_nil ?_); (try simp only [Act.put]); (try simp only [sI9, sZ9, sS9])
   refine wpAny_1 7 ?_
   rotate_left 1
   refine wpAny_tk (Ix.mk [6]) ?_
   (first | go_big_quiet_skip | (go_big_quiet_want; (go_big_quiet_op; (first | go_big_quiet_on | ((refine ⟨_, fun _ _ => rfl, ?_⟩); go_big_quiet_on))))); (refine wpQuiet_nil ?_); (try simp only [Act.put]); (try simp only [sI9, sZ9, sS9])
   refine wpAny_1 7 ?_
   rotate_left 1
   all_goals
    refine wpOp_of_listL rfl ?_
    ((with_reducible refine is_store ?_); (refine own_st1Q (hO := hO) (h := ?_); clear hO; intro wv hO)); (try simp only [Act.put])
    refine wpList_done (qk_intro ?_)
   refine wpAny_done (by kernel_rfl) ?_ _
   rotate_left
   refine wpAny_done (by kernel_rfl) ?_ _
   rotate_left
   all_goals
    go_wp2_with fail
    go_roundw
    case rel => exact ⟨k + 1, _, by omega, by go_num, by rw [List.length_set]; exact l0, by rw [List.length_set]; exact l1, Lib.hid (HN.out _ _), hO.sub (.cons _ (.refl _)) (.refl _) (fun _ h => h)⟩
    case measure => simp [intOf]; omega
  ·obtain rfl : k = 5 := by omega
   obtain ⟨A, C, rfl⟩ := five_slices (N := fun j => blkN (wdN j) (b.at j)) (Nat.le_antisymm l1 l0) HC.out
   clear HC HS hB l0 l1
   go_wp2_with (first | ((with_reducible refine is_load ?_); (refine own_ldQ (h := ?_))) | ((with_reducible refine is_store ?_); (refine own_stRQ (hO := hO) (h := ?_); clear hO; intro wv hO)))
   exact bodyPost_ret (own_res_cell hO Tryz.results165 rfl (by (repeat (first | exact List.mem_cons_self | refine List.mem_cons_of_mem _ ?_))) (by (exact row_len (by (with_reducible (exact row_Rgs5))) (by rfl))) rfl) rfl ⟨⟨A, C, rfl⟩, hO.keep.below⟩
set_option maxHeartbeats 8000000 in
theorem eCost_any (rg : Bool) (b : Bx) (kb : b.ok) (w : World) (ht : Tops w) (hw : Wid w) :
  Calls Tryz.prog 111 #[bv b, .bool rg] w fun e w' => e = .returned (.int .i64 (cosF rg b)) ∧ Below w.heap.size w w' := by
 have hO := own_start [] w
 have h1 := fun w ht => valid_any b w ht
 unfold cosF
 cases hvb : vld b with
 | false =>
  rw [hvb] at h1
  rw [if_neg Bool.false_ne_true]
  clear hvb
  go_enter Tryz.func111, Tryz.ntmps111
  go_wp2_with (first | ((with_reducible refine is_load ?_); (refine own_ldQ (h := ?_))) | (refine bx9 2 hO ?_; clear hO; intro n2 wv hO) | (go_at_call 100; (with_reducible refine (h1 _ (hO.tops ht (by simp))).mono ?_); rintro e wv ⟨rfl, hb9⟩; replace hO := hO.call hb9; clear hb9))
  go_ret
  exact ⟨rfl, hO.keep.below⟩
 | true =>
  rw [hvb] at h1
  rw [if_pos rfl]
  cases rg with
  | true =>
   clear hvb
   go_enter Tryz.func111, Tryz.ntmps111
   go_wp2_with (first | ((with_reducible refine is_load ?_); (refine own_ldQ (h := ?_))) | (refine bx9 2 hO ?_; clear hO; intro n2 wv hO) | (go_at_call 100; (with_reducible refine (h1 _ (hO.tops ht (by simp))).mono ?_); rintro e wv ⟨rfl, hb9⟩; replace hO := hO.call hb9; clear hb9))
   go_ret
   exact ⟨rfl, hO.keep.below⟩
  | false =>
   rw [if_neg Bool.false_ne_true, cosB_is]
   have h2 := fun w hw => eblocks_any b kb hvb w hw
   have HK := Lib.hid (fun k hk => cosK_step kb hvb (k := k) hk)
   clear hvb
   go_enter Tryz.func111, Tryz.ntmps111
   go_wp2_with (first | ((with_reducible refine is_load ?_); (refine own_ldQ (h := ?_))) | (refine bx9 2 hO ?_; clear hO; intro n2 wv hO) | (go_at_call 100; (with_reducible refine (h1 _ (hO.tops ht (by simp))).mono ?_); rintro e wv ⟨rfl, hb9⟩; replace hO := hO.call hb9; clear hb9) | (go_at_call 165; (with_reducible refine (h2 _ (hO.wid hw (by simp))).mono ?_); rintro e wv ⟨⟨A, C, rfl⟩, hb9⟩; replace hO := hO.call hb9; clear hb9))
   have HIX := Lib.hid (fun k hk => ix_bls (fun j => blkN (wdN j) (b.at j)) A C (k := k) hk)
   go_loopw [5, 16] (fun v q wr => ∃ k : Nat, k ≤ 5 ∧ q = .int .i64 k ∧ v = .int .i64 (cosK b k) ∧ Own [] w [⟨n2, bcs b, 98⟩] [] [] wr) (fun _ q _ => 5 - (intOf q).toNat)
   case atStart => exact ⟨0, by omega, rfl, rfl, hO⟩
   case round =>
    clear hO
    obtain ⟨k, hk, rfl, rfl, hO⟩ := hrel
    by_cases hlt : k < 5
    ·have g1 : decide ((k : Int) < 5) = true := decide_eq_true (by omega)
     have hix := fun w => HIX.out k hlt w
     have s2 := HK.out k hlt
     go_wp2_with fail
     go_roundw
     case rel => exact ⟨k + 1, by omega, by go_num, rfl, hO⟩
     case measure => simp [intOf]; omega
    ·obtain rfl : k = 5 := by omega
     go_wp2_with fail
     go_ret
     exact ⟨rfl, hO.keep.below⟩
theorem run_w5 (w : World) : (Instr.build 207 #[(0, .int .i64 32), (1, .int .i64 32), (2, .int .i64 8), (3, .int .i64 16), (4, .int .i64 16)]).run Tryz.prog w = .ok (.agg #[.int .i64 32, .int .i64 32, .int .i64 8, .int .i64 16, .int .i64 16]) w := run_build w _ _ _ (by kernel_rfl)
set_option maxHeartbeats 8000000 in
theorem rblocks7_any (b : Bx) (kb : b.ok) (vb : vld b = true) {k : Nat} (hk : k < 5) (w : World) :
  Calls Tryz.prog 115 #[bv b, .int .i64 k] w fun e w' => (∃ a c, e = .returned (.slice a (blkN (wdN k) (b.at k)) c)) ∧ Below w.heap.size w w' := by
 have hO := own_start [] w
 have hb := fun w => rBlocks_any (b.at k) (wdN k) (blk_at kb vb hk).1 (blk_at kb vb hk).2.1 (blk_at kb vb hk).2.2.1 (blk_at kb vb hk).2.2.2 w
 have wk := wid_at hk
 have hr := tk_rg b hk
 generalize blkN (wdN k) (b.at k) = N at *
 generalize wdN k = W at *
 have hr2 : List.take ([.int .u32 (b.at k).lo, .int .u32 (b.at k).hi] : List Value).length (List.drop (k * 2) (bcs b)) = ([.int .u32 (b.at k).lo, .int .u32 (b.at k).hi] : List Value) := hr
 clear hr
 go_enter Tryz.func115, Tryz.ntmps115
 go_wp2_with (first | ((with_reducible refine is_store ?_); (refine own_stRQ (hO := hO) (h := ?_); clear hO; intro wv hO)) | (refine bx9 2 hO ?_; clear hO; intro n2 wv hO) | ((with_reducible refine is_alloc ?_); refine own_alQ (o := ⟨some 5, _, _, _, _, _⟩) (hO := hO) (h := ?_); clear hO; intro n5 wv hO) | ((with_reducible refine is_bst ?_); (refine own_bst (run_w5 _) ?_)))
 (try simp only [Act.put]); (try simp only [sI9, sZ9, sS9])
 refine wp_region_any (by kernel_rfl) ?_
 replace hO := hO.drew
 have ix9 := Ix.mk [0, 1, 3, 4]
 iterate 4 (refine wpAny_tk ix9 ?_; replace ix9 := ix9.tail; (first | go_big_quiet_skip | (go_big_quiet_want; (go_big_quiet_op; (first | go_big_quiet_on | ((refine ⟨_, fun _ _ => rfl, ?_⟩); go_big_quiet_on))))); (refine wpQuiet_nil ?_); (try simp only [Act.put]); (try simp only [sI9, sZ9, sS9]))
 clear ix9
 refine wpAny_all (rs := [2, 5]) (by kernel_rfl) (by simp) (ord_cons ?_ (ord_cons ?_ ord_nil))
 rotate_left 2
 all_goals
  refine wpOp_of_listL rfl ?_
  ((with_reducible refine is_load ?_); (refine own_ldQ (h := ?_))); (try simp only [Act.put]); (try simp only [sI9, sZ9, sS9])
  refine wpList_done (qk_intro ?_)
 refine wpAny_1 5 ?_
 rotate_left 1
 refine wpAny_1 2 ?_
 rotate_left 1
 all_goals
  refine wpOp_of_listL rfl ?_
  ((with_reducible refine is_load ?_); (refine own_ldQ (h := ?_))); (try simp only [Act.put]); (try simp only [sI9, sZ9, sS9])
  refine wpList_done (qk_intro ?_)
 refine wpAny_1 6 ?_
 rotate_left 1
 refine wpAny_1 6 ?_
 rotate_left 1
 all_goals
  refine wpOp_of_listL rfl ?_
  ((refine wpList_step (fun K hK => ?_)); go_simp; ((go_at_call 168; (with_reducible refine (hb _).mono ?_); rintro e wv ⟨⟨a9, c9, rfl⟩, hb9⟩; replace hO := hO.call hb9; clear hb9); (try simp only []); (refine hK _ _ ?_); clear hK K))
  refine wpList_done (qk_intro ?_)
 refine wpAny_1 7 ?_
 rotate_left 1
 refine wpAny_1 7 ?_
 rotate_left 1
 all_goals
  refine wpOp_of_listL rfl ?_
  ((refine wpList_step (fun K hK => ?_)); go_simp; ((refine hK _ _ ?_); clear hK K))
  refine wpList_done (qk_intro ?_)
 refine wpAny_done (by kernel_rfl) ?_ _
 rotate_left
 refine wpAny_done (by kernel_rfl) ?_ _
 rotate_left
 all_goals
  go_wp2_with fail
  go_ret
  exact ⟨⟨a9, c9, rfl⟩, hO.keep.below⟩
set_option maxHeartbeats 8000000 in
theorem rCost_any (rg : Bool) (b : Bx) (kb : b.ok) (w : World) :
  Calls Tryz.prog 59 #[bv b, .bool rg] w fun e w' => e = .returned (.int .i64 (cosF rg b)) ∧ Below w.heap.size w w' := by
 have hO := own_start [] w
 have h1 := fun w => rvalid_any b w
 unfold cosF
 cases hvb : vld b with
 | false =>
  rw [hvb] at h1
  rw [if_neg Bool.false_ne_true]
  clear hvb
  go_enter Tryz.func59, Tryz.ntmps59
  go_wp2_with (first | ((with_reducible refine is_load ?_); (refine own_ldQ (h := ?_))) | (refine bx9 2 hO ?_; clear hO; intro n2 wv hO) | (go_at_call 105; (with_reducible refine (h1 _).mono ?_); rintro e wv ⟨rfl, hb9⟩; replace hO := hO.call hb9; clear hb9))
  go_ret
  exact ⟨rfl, hO.keep.below⟩
 | true =>
  rw [hvb] at h1
  rw [if_pos rfl]
  cases rg with
  | true =>
   clear hvb
   go_enter Tryz.func59, Tryz.ntmps59
   go_wp2_with (first | ((with_reducible refine is_load ?_); (refine own_ldQ (h := ?_))) | (refine bx9 2 hO ?_; clear hO; intro n2 wv hO) | (go_at_call 105; (with_reducible refine (h1 _).mono ?_); rintro e wv ⟨rfl, hb9⟩; replace hO := hO.call hb9; clear hb9))
   go_loopw [5, 6] (fun v q wr => q = .int .i64 0 ∧ v = .int .i64 1 ∧ Own [] w [⟨n2, bcs b, 98⟩] [] [] wr) (fun _ _ _ => 0)
   case atStart => exact ⟨rfl, rfl, hO⟩
   case round =>
    clear hO
    obtain ⟨rfl, rfl, hO⟩ := hrel
    go_wp2_with fail
    go_ret
    exact ⟨rfl, hO.keep.below⟩
  | false =>
   rw [if_neg Bool.false_ne_true, cosB_is]
   have h2 := fun k hk w => rblocks7_any b kb hvb (k := k) hk w
   have HK := Lib.hid (fun k hk => cosK_step kb hvb (k := k) hk)
   clear hvb
   go_enter Tryz.func59, Tryz.ntmps59
   go_wp2_with (first | ((with_reducible refine is_load ?_); (refine own_ldQ (h := ?_))) | (refine bx9 2 hO ?_; clear hO; intro n2 wv hO) | (go_at_call 105; (with_reducible refine (h1 _).mono ?_); rintro e wv ⟨rfl, hb9⟩; replace hO := hO.call hb9; clear hb9))
   go_loopw [5, 6] (fun v q wr => ∃ k : Nat, k ≤ 5 ∧ q = .int .i64 k ∧ v = .int .i64 (cosK b k) ∧ Own [] w [⟨n2, bcs b, 98⟩] [] [] wr) (fun _ q _ => 5 - (intOf q).toNat)
   case atStart => exact ⟨0, by omega, rfl, rfl, hO⟩
   case round =>
    clear hO
    obtain ⟨k, hk, rfl, rfl, hO⟩ := hrel
    have s1 : IntKind.i64.wrap ((k : Int) + 1) = (k : Int) + 1 := IntWalk.i64_in _ (by omega)
    by_cases hlt : k < 5
    ·have g1 : decide ((k : Int) < 5) = true := decide_eq_true (by omega)
     have h3 := fun w => h2 k hlt w
     have s2 := HK.out k hlt
     clear h2
     go_wp2_with (first | ((with_reducible refine is_load ?_); (refine own_ldQ (h := ?_))) | (go_at_call 115; (with_reducible refine (h3 _).mono ?_); rintro e wv ⟨⟨a9, c9, rfl⟩, hb9⟩; replace hO := hO.call hb9; clear hb9))
     go_roundw
     case rel => exact ⟨k + 1, by omega, by go_num, rfl, hO⟩
     case measure => simp [intOf]; omega
    ·obtain rfl : k = 5 := by omega
     have g1 : decide ((5 : Int) < 5) = false := rfl
     go_wp2_with fail
     go_ret
     exact ⟨rfl, hO.keep.below⟩
end Go.Proofs.YtbdfblgdmappeaaGreatDoor
