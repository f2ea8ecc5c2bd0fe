/- The library's sort at uint64: pdqsort, Sort. -/
import Derived.Sort.AssemblyPlain
import Derived.Test.YtbdfblgdmappeaaGreatDoorML
import Derived.Test.YtbdfblgdmappeaaGreatDoorMI
import Derived.Test.YtbdfblgdmappeaaGreatDoorMJ
namespace Go.Proofs.YtbdfblgdmappeaaGreatDoor
open Go.RowKit
open Go.Sort (swp ltInt rd hintCode Hint pdq partition partitionEqual choosePivot reverseRange breakPatterns partialInsertionSort)
set_option maxRecDepth 100000
structure RdP (dk : Array Int) (a b lim : Nat) (wb wp : Bool) (D d1 : Array Int) (lim1 cp : Nat) (ch : Hint) (d2 : Array Int) (pv : Nat) (hint : Hint) (d3 : Array Int) (pb : Bool) : Prop where
 brk : wb = false → breakPatterns dk a b = d1 ∧ lim1 = lim - 1
 nbrk : wb = true → d1 = dk ∧ lim1 = lim
 c : choosePivot ltInt d1 a b = (cp, ch)
 dec : ch = .decreasing → reverseRange d1 a b = d2 ∧ pv = (b - 1) - (cp - a) ∧ hint = .increasing
 ndec : ch ≠ .decreasing → d2 = d1 ∧ pv = cp ∧ hint = ch
 piY : (wb && wp && decide (hint = .increasing)) = true → partialInsertionSort ltInt d2 a b = (d3, pb)
 piN : (wb && wp && decide (hint = .increasing)) = false → d3 = d2 ∧ pb = false
 le : lim1 ≤ lim
 z1 : d1.size = dk.size
 cr : a ≤ cp ∧ cp < b
 z2 : d2.size = dk.size
 pr : a ≤ pv ∧ pv < b
 z3 : d3.size = dk.size
 done : pb = true → d3 = D
 eqq : pb = false → (decide (0 < a) && !ltInt d3[a - 1]! d3[pv]!) = true → ∃ mid d4, partitionEqual ltInt d3 a b pv = (mid, d4) ∧ a < mid ∧ mid ≤ b ∧ d4.size = dk.size ∧ Go.Sort.Below ltInt mid b d4 ∧ pdq ltInt d4 mid b lim1 wb wp = D
 part : pb = false → (decide (0 < a) && !ltInt d3[a - 1]! d3[pv]!) = false → ∃ mid ap d4, partition ltInt d3 a b pv = (mid, ap, d4) ∧ a ≤ mid ∧ mid < b ∧ d4.size = dk.size ∧ Go.Sort.Below ltInt a mid d4 ∧ Go.Sort.Below ltInt (mid + 1) b d4 ∧
  (mid - a < b - mid → ∃ e, pdq ltInt d4 a mid lim1 true true = e ∧ e.size = dk.size ∧ Go.Sort.Below ltInt (mid + 1) b e ∧ pdq ltInt e (mid + 1) b lim1 (decide ((b - a) / 8 ≤ mid - a)) ap = D) ∧
  (¬ mid - a < b - mid → ∃ e, pdq ltInt d4 (mid + 1) b lim1 true true = e ∧ e.size = dk.size ∧ Go.Sort.Below ltInt a mid e ∧ pdq ltInt e a mid lim1 (decide ((b - a) / 8 ≤ b - mid)) ap = D)
theorem rdP_of {dk : Array Int} {a b lim : Nat} {wb wp : Bool} {D : Array Int} (h12 : ¬ b - a ≤ 12) (hl0 : ¬ lim = 0) (hb : b ≤ dk.size) (hB : Go.Sort.Below ltInt a b dk) (hD : pdq ltInt dk a b lim wb wp = D) :
  ∃ d1 lim1 cp ch d2 pv hint d3 pb, RdP dk a b lim wb wp D d1 lim1 cp ch d2 pv hint d3 pb := by
 obtain ⟨f1, f2, f3, f4, f5, f6, f7, f8⟩ := Go.Sort.rd_facts (limit := lim) (wb := wb) (wp := wp) Go.Sort.swo_ltInt Go.Sort.partialInsertionSort_holds Go.Sort.reverseRange_holds (show a < b by omega) hb hB
 refine ⟨(rd ltInt dk a b lim wb wp).d1, (rd ltInt dk a b lim wb wp).lim, (rd ltInt dk a b lim wb wp).c.1, (rd ltInt dk a b lim wb wp).c.2, (rd ltInt dk a b lim wb wp).d2, (rd ltInt dk a b lim wb wp).pivot, (rd ltInt dk a b lim wb wp).hint, (rd ltInt dk a b lim wb wp).pi.1, (rd ltInt dk a b lim wb wp).pi.2, ?_, ?_, ?_, ?_, ?_, ?_, ?_, Go.Sort.rd_lim_le, f1, f3, f4, f6, f7, ?_, ?_, ?_⟩
 ·rintro rfl; exact Go.Sort.rd_false
 ·rintro rfl; exact Go.Sort.rd_true
 ·rw [← Go.Sort.rd_c]
 ·intro h; have := Go.Sort.rd_dec h; exact ⟨this.1.symm, this.2⟩
 ·intro h; exact Go.Sort.rd_not h
 ·intro h; rw [← Go.Sort.rd_pi_yes h]
 ·intro h; rw [Go.Sort.rd_pi_no h]; exact ⟨rfl, rfl⟩
 ·intro h; rw [← hD, Go.Sort.pdq_done h12 hl0 h]
 ·intro h1 h2
  have h2' := h2
  simp only [Bool.and_eq_true, decide_eq_true_eq, Bool.not_eq_true'] at h2'
  obtain ⟨mid, d4, hx⟩ : ∃ mid d4, partitionEqual ltInt (rd ltInt dk a b lim wb wp).pi.1 a b (rd ltInt dk a b lim wb wp).pivot = (mid, d4) := ⟨_, _, rfl⟩
  obtain ⟨r1, r2, r3, r4, _⟩ := Go.Sort.round_eq Go.Sort.swo_ltInt (Go.Sort.partitionEqual_holds _) h2'.1 f6.1 f6.2 (by rw [f7]; exact hb) f8 h2'.2 hx
  refine ⟨mid, d4, hx, r1, r2, r3.trans f7, r4, ?_⟩
  have := Go.Sort.pdq_eq h12 hl0 h1 h2 (by rw [hx]; exact ⟨r1, r2⟩)
  rw [hx] at this
  rw [← this]; exact hD
 ·intro h1 h2
  obtain ⟨mid, ap, d4, hx⟩ : ∃ mid ap d4, partition ltInt (rd ltInt dk a b lim wb wp).pi.1 a b (rd ltInt dk a b lim wb wp).pivot = (mid, ap, d4) := ⟨_, _, _, rfl⟩
  obtain ⟨r1, r2, r3, r4, r5, r6, r7⟩ := Go.Sort.round_part Go.Sort.swo_ltInt (Go.Sort.partition_holds _) f6.1 f6.2 (by rw [f7]; exact hb) f8 hx
  refine ⟨mid, ap, d4, hx, r1, r2, r3.trans f7, r4, r5, fun h4 => ?_, fun h4 => ?_⟩
  ·obtain ⟨pL, sL⟩ := Go.Sort.pdq_sorts ltInt Go.Sort.swo_ltInt d4 a mid (rd ltInt dk a b lim wb wp).lim true true r1 (by rw [r3, f7]; omega) r4
   refine ⟨_, rfl, pL.1.trans (r3.trans f7), (r6 _ pL sL).1, ?_⟩
   have := Go.Sort.pdq_left h12 hl0 h1 h2 (by rw [hx]; exact ⟨r1, r2⟩) (by rw [hx]; exact h4)
   rw [hx] at this
   rw [← hD, this]
  ·obtain ⟨pL, sL⟩ := Go.Sort.pdq_sorts ltInt Go.Sort.swo_ltInt d4 (mid + 1) b (rd ltInt dk a b lim wb wp).lim true true (by omega) (by rw [r3, f7]; omega) r5
   refine ⟨_, rfl, pL.1.trans (r3.trans f7), (r7 _ pL sL).1, ?_⟩
   have := Go.Sort.pdq_right h12 hl0 h1 h2 (by rw [hx]; exact ⟨r1, r2⟩) (by rw [hx]; exact h4)
   rw [hx] at this
   rw [← hD, this]
theorem code_inc (h : Hint) : (hintCode h == 1) = decide (h = .increasing) := by cases h <;> rfl
theorem code_dec (h : Hint) : (hintCode h == 2) = decide (h = .decreasing) := by cases h <;> rfl
set_option maxHeartbeats 16000000 in
theorem pdq_any : ∀ (N g c k : Nat) (d : Array Int) (a b limit : Nat) (w : World), b - a < N → OwnsU w g k c d → d.size = k → a ≤ b → b ≤ k → k ≤ 140737488355328 → limit ≤ 140737488355328 → Go.Sort.Below ltInt a b d →
    Calls Tryz.prog 217 #[.slice (some ⟨g, 0, none⟩) k c, .int .i64 a, .int .i64 b, .int .i64 limit] w (UPost w g k c (pdq ltInt d a b limit true true) (.tuple #[])) := by
  intro N
  induction N with
  | zero => intro _ _ _ _ _ _ _ _ h; exact absurd h (Nat.not_lt_zero _)
  | succ N ih =>
    intro g c k d a b limit w hN hr hk hab hb hl hlim hB
    have hO := hr.own
    clear hr
    obtain ⟨D, hD⟩ : ∃ D, pdq ltInt d a b limit true true = D := ⟨_, rfl⟩
    have hE : Hid (pdq ltInt d a b limit true true = D) := Lib.hid hD
    have hBB : Hid (Go.Sort.Below ltInt a b d) := Lib.hid hB
    rw [hD]
    clear hD hB
    have HI := Lib.hid ih
    clear ih
    go_enter Tryz.func217, Tryz.ntmps217
    go_wp2_with fail
    go_loopg [1, 2, 3, 8, 9] (b - a) (fun gk q1 q2 q3 q8 q9 wr => ∃ (a' b' lim : Nat) (wb wp : Bool) (dk : Array Int), q1 = .int .i64 a' ∧ q2 = .int .i64 b' ∧ q3 = .int .i64 lim ∧ q8 = .bool wb ∧ q9 = .bool wp ∧
      a' ≤ b' ∧ b' ≤ k ∧ b' - a' ≤ gk ∧ gk ≤ b - a ∧ lim ≤ 140737488355328 ∧ dk.size = k ∧ Hid (Go.Sort.Below ltInt a' b' dk) ∧ Hid (pdq ltInt dk a' b' lim wb wp = D) ∧ Own [g] w [] [⟨.slice (some ⟨g, 0, none⟩) k c, k, uc dk, 200, 1⟩] [] wr)
    case atStart => exact ⟨a, b, limit, true, true, d, rfl, rfl, rfl, rfl, rfl, hab, hb, Nat.le_refl _, Nat.le_refl _, hlim, hk, hBB, hE, hO⟩
    case round =>
      clear hO hE hBB hk hab hb hlim
      obtain ⟨a1, b1, lim, wb, wp, dk, rfl, rfl, rfl, rfl, rfl, hab, hb, hgk, hgN, hlim, hk, hBB, hE, hO⟩ := hrel
      obtain ⟨L, hL⟩ : ∃ L, b1 - a1 = L := ⟨_, rfl⟩
      have s1 : IntKind.i64.wrap ((b1 : Int) - a1) = (L : Int) := by rw [IntWalk.i64_in _ (by omega)]; omega
      have s2 : (b1 : Int) - a1 = (L : Int) := by omega
      by_cases h12 : b1 - a1 ≤ 12
      · have g1 : decide ((L : Int) ≤ 12) = true := by simp; omega
        have h1 := fun w hr => ins_any (g := g) (c := c) (k := k) (d := dk) a1 b1 w hr hk hb hab hl
        rw [← Go.Sort.pdq_small (lt := ltInt) (d := dk) (limit := lim) (wb := wb) (wp := wp) h12, hE.out] at h1
        go_wp2_with (go_at_call 228; refine (h1 _ (hO.row _ List.mem_cons_self)).mono ?_; rintro e wv hw; obtain rfl := hw.1; replace hO := hO.afterRow .here hw.2.1 hw.2.2; clear hw h1)
        go_end0
        exact u_post hO List.mem_cons_self
      · have g1 : decide ((L : Int) ≤ 12) = false := by simp; omega
        by_cases hl0 : lim = 0
        · have g2 : ((lim : Int) == 0) = true := by simp; omega
          have h1 := fun w hr => heap_any (g := g) (c := c) (k := k) (d := dk) a1 b1 w hr hk hb hab hl
          rw [← Go.Sort.pdq_heap (lt := ltInt) (d := dk) (limit := lim) (wb := wb) (wp := wp) h12 hl0, hE.out] at h1
          go_wp2_with (go_at_call 229; refine (h1 _ (hO.row _ List.mem_cons_self)).mono ?_; rintro e wv hw; obtain rfl := hw.1; replace hO := hO.afterRow .here hw.2.1 hw.2.2; clear hw h1)
          go_end0
          exact u_post hO List.mem_cons_self
        · have g2 : ((lim : Int) == 0) = false := by simp; omega
          obtain ⟨d1, lim1, cp, ch, d2, pv, hint, d3, pb, hZ⟩ := rdP_of h12 hl0 (by rw [hk]; exact hb) hBB.out hE.out
          have z1 := hZ.z1
          have z2 := hZ.z2
          have z3 := hZ.z3
          have cr := hZ.cr
          have pr := hZ.pr
          have lle := hZ.le
          rw [hk] at z1 z2 z3
          have sl : lim1 ≤ 140737488355328 := by omega
          clear hBB hE
          go_upto_if 35 with fail
          go_cut [3] from 19 (fun q3 wc => q3 = .int .i64 lim1 ∧ Own [g] w [] [⟨.slice (some ⟨g, 0, none⟩) k c, k, uc d1, 200, 1⟩] [] wc)
          case first =>
            cases wb
            · obtain ⟨hd1, hl1⟩ := hZ.brk rfl
              have s3 : IntKind.i64.wrap ((lim : Int) - 1) = (lim1 : Int) := by rw [IntWalk.i64_in _ (by omega)]; omega
              have h1 := fun w hr => break_any (g := g) (c := c) (k := k) (d := dk) a1 b1 w hr hk hb (by omega) hl
              rw [hd1] at h1
              go_wp2_with (go_at_call 230; refine (h1 _ (hO.row _ List.mem_cons_self)).mono ?_; rintro e wv hw; obtain rfl := hw.1; replace hO := hO.afterRow .here hw.2.1 hw.2.2; clear hw h1)
              go_meet
              case rel => exact ⟨by (rw [hl1]), hO⟩
            · obtain ⟨rfl, rfl⟩ := hZ.nbrk rfl
              go_wp2_with fail
              go_meet
              case rel => exact ⟨rfl, hO⟩
          case rest =>
            clear hO
            obtain ⟨rfl, hO⟩ := hcut
            have h2 := fun w hv => cpivot_any (g := g) (o := 0) (c := c) (k := k) (d := d1) a1 b1 w hv z1 hb (by omega) hl
            rw [hZ.c] at h2
            dsimp only at h2
            go_upto_if 50 with (go_at_call 231; (with_reducible refine (h2 _ (hO.rowIs List.mem_cons_self)).mono ?_); rintro e wv ⟨rfl, hb9⟩; replace hO := hO.call hb9; clear hb9 h2)
            go_cut [11, 12] from 19 (fun q11 q12 wc => q11 = .int .i64 pv ∧ q12 = .int .i64 (hintCode hint) ∧ Own [g] w [] [⟨.slice (some ⟨g, 0, none⟩) k c, k, uc d2, 200, 1⟩] [] wc)
            case first =>
              have g3 := code_dec ch
              by_cases hh : ch = .decreasing
              · rw [decide_eq_true hh] at g3
                obtain ⟨hd2, hpv, rfl⟩ := hZ.dec hh
                have s4 : IntKind.i64.wrap ((b1 : Int) - 1) = (b1 : Int) - 1 := IntWalk.i64_in _ (by omega)
                have s5 : IntKind.i64.wrap ((cp : Int) - a1) = (cp : Int) - a1 := IntWalk.i64_in _ (by omega)
                have s6 : IntKind.i64.wrap ((b1 : Int) - 1 - ((cp : Int) - a1)) = (pv : Int) := by rw [IntWalk.i64_in _ (by omega)]; omega
                have h3 := fun w hr => revr_any (g := g) (c := c) (k := k) (d := d1) a1 b1 w hr z1 hb (by omega) hl
                rw [hd2] at h3
                go_wp2_with (go_at_call 232; refine (h3 _ (hO.row _ List.mem_cons_self)).mono ?_; rintro e wv hw; obtain rfl := hw.1; replace hO := hO.afterRow .here hw.2.1 hw.2.2; clear hw h3)
                go_meet
                case rel => exact ⟨by (rw [hpv]), rfl, hO⟩
              · rw [decide_eq_false hh] at g3
                obtain ⟨rfl, rfl, rfl⟩ := hZ.ndec hh
                go_wp2_with fail
                go_meet
                case rel => exact ⟨rfl, rfl, hO⟩
            case rest =>
              clear hO
              obtain ⟨rfl, rfl, hO⟩ := hcut
              go_upto_region 15 with fail
              go_cut [12, 68] from 19 (fun q12 q68 wx => q12 = .int .i64 (hintCode hint) ∧ q68 = .bool (wb && wp && decide (hint = .increasing)) ∧ Own [g] w [] [⟨.slice (some ⟨g, 0, none⟩) k c, k, uc d2, 200, 1⟩] [] wx)
              case first =>
                have g4 := code_inc hint
                cases wb <;> cases wp <;> cases hg : decide (hint = .increasing) <;>
                  (rw [hg] at g4
                   go_wp2_with fail
                   go_meet
                   exact ⟨rfl, by simp only [hg, Bool.and_true, Bool.and_false], hO⟩)
              case rest =>
                clear hO
                obtain ⟨rfl, rfl, hO⟩ := hcut
                go_upto_if 68 with fail
                go_cut [] from 19 (fun wx => pb = false ∧ Own [g] w [] [⟨.slice (some ⟨g, 0, none⟩) k c, k, uc d3, 200, 1⟩] [] wx)
                case first =>
                  cases h68 : (wb && wp && decide (hint = .increasing))
                  · obtain ⟨rfl, rfl⟩ := hZ.piN h68
                    go_wp2_with fail
                    go_meet
                    case rel => exact ⟨by trivial, hO⟩
                  · have h3 := fun w hr => pins_any (g := g) (c := c) (k := k) (d := d2) a1 b1 w hr z2 hb (by omega) hl
                    rw [hZ.piY h68] at h3
                    dsimp only at h3
                    cases pb
                    · go_wp2_with (go_at_call 233; refine (h3 _ (hO.row _ List.mem_cons_self)).mono ?_; rintro e wv hw; obtain rfl := hw.1; replace hO := hO.afterRow .here hw.2.1 hw.2.2; clear hw h3)
                      go_meet
                      exact ⟨by trivial, hO⟩
                    · obtain rfl := hZ.done rfl
                      go_wp2_with (go_at_call 233; refine (h3 _ (hO.row _ List.mem_cons_self)).mono ?_; rintro e wv hw; obtain rfl := hw.1; replace hO := hO.afterRow .here hw.2.1 hw.2.2; clear hw h3)
                      go_end0
                      exact u_post hO List.mem_cons_self
                case rest =>
                  clear hO
                  obtain ⟨hpb, hO⟩ := hcut
                  go_upto_region 17 with fail
                  go_cut [87] from 19 (fun q87 wx => q87 = .bool (decide (0 < a1) && !ltInt d3[a1 - 1]! d3[pv]!) ∧ Own [g] w [] [⟨.slice (some ⟨g, 0, none⟩) k c, k, uc d3, 200, 1⟩] [] wx)
                  case first =>
                    cases a1 with
                    | zero =>
                      have g4 : decide ((0 : Int) < ((0 : Nat) : Int)) = false := rfl
                      (refine own_quiet hO (by kernel_rfl) (by kernel_rfl) ?_; clear hO; (repeat (first | go_big_quiet_skip | (go_big_quiet_want; (go_big_quiet_op; (first | go_big_quiet_on | ((refine ⟨_, fun _ _ => rfl, ?_⟩); go_big_quiet_on)))))); (refine wpQuiet_nil ?_); intro wv hO)
                      go_wp2_with fail
                      go_meet
                      case rel => exact ⟨rfl, hO⟩
                    | succ n =>
                      have e1 : ((n + 1 : Nat) : Int) = (n : Int) + 1 := by omega
                      have g4 : decide ((0 : Int) < (n : Int) + 1) = true := decide_eq_true (by omega)
                      have s7 : IntKind.i64.wrap ((n : Int) + 1 - 1) = (n : Int) := by rw [IntWalk.i64_in _ (by omega)]; omega
                      have s8 : IntKind.i64.wrap (n : Int) = (n : Int) := IntWalk.i64_in _ (by omega)
                      have y1 : (0 : Int) ≤ (n : Int) := by omega
                      have y2 : (n : Int) < k := by omega
                      have y3 : (0 : Int) ≤ (pv : Int) := by omega
                      have y4 : (pv : Int) < k := by omega
                      obtain ⟨x, hx, c1⟩ := uc_get (d := d3) (k := n) (by omega)
                      obtain ⟨y, hy, c2⟩ := uc_get (d := d3) (k := pv) (by omega)
                      rw [e1]
                      (refine own_quiet hO (by kernel_rfl) (by kernel_rfl) ?_; clear hO; (repeat (go_big_quiet_want; (first | ((with_reducible refine is_loadQ ?_); (refine q_ldU (h := ?_)); (try simp only [Act.put]); (try simp only [sI9, sZ9, sS9]); go_big_quiet_on) | (go_big_quiet_op; (first | go_big_quiet_on | ((refine ⟨_, fun _ _ => rfl, ?_⟩); go_big_quiet_on) | go_big_quiet_call ((intro hq; go_at_call 234; exact q_same (less_any _ _ _) hq))))))); (refine wpQuiet_nil ?_); intro wv hO)
                      go_wp2_with fail
                      go_meet
                      case rel => exact ⟨by rw [Nat.add_sub_cancel, ← hx.out, ← hy.out, decide_eq_true (Nat.succ_pos n), Bool.true_and], hO⟩
                  case rest =>
                    clear hO
                    obtain ⟨rfl, hO⟩ := hcut
                    have HZ := Lib.hid hZ
                    cases h87 : (decide (0 < a1) && !ltInt d3[a1 - 1]! d3[pv]!)
                    · obtain ⟨mid, ap, d4, hx, r1, r2, r3, r4, r5, r6, r7⟩ := hZ.part hpb h87
                      clear h87 hZ
                      rw [hk] at r3
                      have h4 := fun w hr => part_any (g := g) (c := c) (k := k) (d := d3) a1 b1 pv w hr z3 hb pr.1 pr.2 hl
                      rw [hx] at h4
                      dsimp only at h4
                      clear hx
                      obtain ⟨l1, hl1⟩ : ∃ l1, mid - a1 = l1 := ⟨_, rfl⟩
                      obtain ⟨l2, hl2⟩ : ∃ l2, b1 - mid = l2 := ⟨_, rfl⟩
                      obtain ⟨l8, hl8⟩ : ∃ l8, L / 8 = l8 := ⟨_, rfl⟩
                      have s3 : IntKind.i64.wrap ((mid : Int) - a1) = (l1 : Int) := by rw [IntWalk.i64_in _ (by omega)]; omega
                      have s4 : (mid : Int) - a1 = (l1 : Int) := by omega
                      have s5 : IntKind.i64.wrap ((b1 : Int) - mid) = (l2 : Int) := by rw [IntWalk.i64_in _ (by omega)]; omega
                      have s6 : (b1 : Int) - mid = (l2 : Int) := by omega
                      have s7 : (L : Int).tdiv 8 = (l8 : Int) := by rw [Int.tdiv_eq_ediv_of_nonneg (by omega)]; omega
                      have s8 : IntKind.i64.wrap (l8 : Int) = (l8 : Int) := IntWalk.i64_in _ (by omega)
                      have s9 : IntKind.i64.wrap ((mid : Int) + 1) = (mid : Int) + 1 := IntWalk.i64_in _ (by omega)
                      have e9 : ((mid + 1 : Nat) : Int) = (mid : Int) + 1 := by omega
                      rw [hL] at r6 r7
                      rw [hl1, hl2, hl8] at r6 r7
                      by_cases hlt : l1 < l2
                      · obtain ⟨e, he, he1, he2, he3⟩ := r6 hlt
                        rw [hk] at he1
                        have hE3 := Lib.hid he3
                        have hE2 := Lib.hid he2
                        have g5 : decide ((l1 : Int) < l2) = true := by simp; omega
                        have h5 := fun w hr => HI.out g c k d4 a1 mid lim1 w (by omega) hr r3 r1 (by omega) hl sl r4
                        rw [he] at h5
                        clear r4 r5 r6 r7 he he2 he3 HZ HI
                        have g6 : decide ((l8 : Int) ≤ l1) = decide (l8 ≤ l1) := decide_eq_decide.2 (by omega)
                        go_wp2_with (first | (go_at_call 236; refine (h4 _ (hO.row _ List.mem_cons_self)).mono ?_; rintro e wv hw; obtain rfl := hw.1; replace hO := hO.afterRow .here hw.2.1 hw.2.2; clear hw h4) | (go_at_call 217; refine (h5 _ (hO.row _ List.mem_cons_self)).mono ?_; rintro e wv hw; obtain rfl := hw.1; replace hO := hO.afterRow .here hw.2.1 hw.2.2; clear hw h5))
                        go_roundg (b1 - (mid + 1))
                        case measure => omega
                        case rel => exact ⟨mid + 1, b1, lim1, decide (l8 ≤ l1), ap, e, by (rfl), rfl, rfl, by (rfl), rfl, by omega, hb, Nat.le_refl _, by omega, sl, he1, hE2, hE3, hO⟩
                      · obtain ⟨e, he, he1, he2, he3⟩ := r7 hlt
                        rw [hk] at he1
                        have hE3 := Lib.hid he3
                        have hE2 := Lib.hid he2
                        have g5 : decide ((l1 : Int) < l2) = false := by simp; omega
                        have h5 := fun w hr => HI.out g c k d4 (mid + 1) b1 lim1 w (by omega) hr r3 (by omega) (by omega) hl sl r5
                        rw [he, e9] at h5
                        clear r4 r5 r6 r7 he he2 he3 HZ HI
                        have g6 : decide ((l8 : Int) ≤ l2) = decide (l8 ≤ l2) := decide_eq_decide.2 (by omega)
                        go_wp2_with (first | (go_at_call 236; refine (h4 _ (hO.row _ List.mem_cons_self)).mono ?_; rintro e wv hw; obtain rfl := hw.1; replace hO := hO.afterRow .here hw.2.1 hw.2.2; clear hw h4) | (go_at_call 217; refine (h5 _ (hO.row _ List.mem_cons_self)).mono ?_; rintro e wv hw; obtain rfl := hw.1; replace hO := hO.afterRow .here hw.2.1 hw.2.2; clear hw h5))
                        go_roundg (mid - a1)
                        case measure => omega
                        case rel => exact ⟨a1, mid, lim1, decide (l8 ≤ l2), ap, e, rfl, rfl, rfl, by (rfl), rfl, r1, by omega, Nat.le_refl _, by omega, sl, he1, hE2, hE3, hO⟩
                    · obtain ⟨mid, d4, hx, r1, r2, r3, r4, r5⟩ := hZ.eqq hpb h87
                      clear h87 hZ
                      rw [hk] at r3
                      have hE3 := Lib.hid r5
                      have hE2 := Lib.hid r4
                      have h4 := fun w hr => parteq_any (g := g) (c := c) (k := k) (d := d3) a1 b1 pv w hr z3 hb pr.1 pr.2 hl
                      rw [hx] at h4
                      dsimp only at h4
                      clear hx r4 r5 HZ HI
                      go_wp2_with (go_at_call 235; refine (h4 _ (hO.row _ List.mem_cons_self)).mono ?_; rintro e wv hw; obtain rfl := hw.1; replace hO := hO.afterRow .here hw.2.1 hw.2.2; clear hw h4)
                      go_roundg (b1 - mid)
                      case measure => omega
                      case rel => exact ⟨mid, b1, lim1, wb, wp, d4, rfl, rfl, rfl, rfl, rfl, r2, hb, Nat.le_refl _, by omega, sl, r3, hE2, hE3, hO⟩
theorem sort64_any {g c k : Nat} {d : Array Int} (w : World) (hr : OwnsU w g k c d) (hk : d.size = k) (hl : k ≤ 140737488355328) :
  Calls Tryz.prog 211 #[.slice (some ⟨g, 0, none⟩) k c] w (UPost w g k c (Go.Sort.sort ltInt d) (.tuple #[])) := by
 have hO := hr.own
 have hlen := fun w => blen_any (k : Int) w (by omega) (by omega)
 rw [Int.toNat_natCast, bitsLen_lib k (by omega)] at hlen
 have hb : Go.Sort.bitsLen k ≤ 48 := (Go.Sort.bitsLen_le_iff k 48).2 (Nat.lt_of_le_of_lt hl (by decide))
 have h1 := fun w hr => pdq_any (k - 0 + 1) g c k d 0 k (Go.Sort.bitsLen k) w (by omega) hr hk (Nat.zero_le _) (Nat.le_refl _) hl (by omega) (.inl rfl)
 have e : Go.Sort.sort ltInt d = pdq ltInt d 0 k (Go.Sort.bitsLen k) true true := by unfold Go.Sort.sort; rw [hk]
 rw [e]
 have s1 : IntKind.u64.wrap (k : Int) = k := by rw [IntKind.wrap_u64]; omega
 generalize pdq ltInt d 0 k (Go.Sort.bitsLen k) true true = D at *
 generalize Go.Sort.bitsLen k = B at *
 clear hr e
 go_enter Tryz.func211, Tryz.ntmps211
 go_wp2_with (first | (go_at_call 215; (with_reducible refine (hlen _).mono ?_); rintro e w' ⟨rfl, rfl⟩) | (go_at_call 217; refine (h1 _ (hO.row _ List.mem_cons_self)).mono ?_; rintro e wv hw; obtain rfl := hw.1; replace hO := hO.afterRow .here hw.2.1 hw.2.2; clear hw h1))
 go_end0
 exact u_post hO List.mem_cons_self
end Go.Proofs.YtbdfblgdmappeaaGreatDoor
