/- The reference's size of a list of ranges. -/
import Derived.Test.YtfhkmkbfgmbbaaaDoorMG
import Derived.Test.YtfhkmkbfgmbbaaaDoorMC
import Derived.Test.YtfhkmkbfgmbbaaaDoorMJ
import Derived.Test.YtfhkmkbfgmbbaaaDoorMB
namespace Go.Proofs.YtfhkmkbfgmbbaaaDoor
open Go.RowKit
set_option maxRecDepth 100000
theorem size_drop {c : List Rg} {i : Nat} (h : i < c.length) : sizeF (c.drop i) = c[i].hi - c[i].lo + 1 + sizeF (c.drop (i + 1)) := by
  rw [List.drop_eq_getElem_cons h, sizeF]
set_option maxHeartbeats 8000000 in
theorem rsize_any {vl : Value} {l : List Rg} (w : World) (hv : IsCells w vl l.length (rcs l)) (hn : l.length ≤ 10000000) (hb : BndR l) :
    Calls Tryd.prog 25 #[vl] w fun e w' => e = .returned (.int .u64 (sizeF (canU l))) ∧ Below w.heap.size w w' := by
  have hO := own_start [] w
  have hU : ∀ w, IsCells w vl l.length (rcs l) → Calls Tryd.prog 20 #[vl, .slice none 0 0] w (RetRgs w (canU l)) := fun w h => by
    have h2 := runion_any (lb := []) w h (.inl ⟨rfl, rfl, rfl⟩) (by omega) (by simp) hb (fun _ h => absurd h List.not_mem_nil)
    rwa [List.append_nil] at h2
  have hC := (canU_is hb).1
  have hB := canU_bnd hb
  have hL := canU_len l
  generalize canU l = C at *
  go_enter Tryd.func25, Tryd.ntmps25
  go_wp2_with (go_at_call 20; (with_reducible refine (hU _ (hv.below hO.keep.below)).mono ?_); rintro e wv ⟨v9, rfl, ⟨hv9, hn9⟩, hb9⟩; have hf9 := isCells_form hv9; replace hO := hO.gainC hb9 hv9 hn9; clear hb9 hv9 hn9; obtain ⟨a, c, rfl, ha⟩ := hf9.view; clear hf9 hU; simp only [List.append_nil] at hO)
  go_loopw [4, 5] (fun nv q wr => ∃ (i : Nat) (n : Int), i ≤ C.length ∧ q = .int .i64 i ∧ nv = .int .u64 n ∧ 0 ≤ n ∧ n ≤ i * 4294967296 ∧ Hid (n + sizeF (C.drop i) = sizeF C) ∧ Own [] w [] [] (roS (.slice a C.length c) (rcs C)) wr) (fun _ q _ => C.length - (intOf q).toNat)
  case atStart => exact ⟨0, 0, by omega, rfl, rfl, by omega, by omega, Lib.hid (by simp), hO⟩
  case round =>
    clear hO
    obtain ⟨i, n, hi, rfl, rfl, hn0, hn1, HN, hO⟩ := hrel
    have s4 : IntKind.i64.wrap ((i : Int) + 1) = (i : Int) + 1 := IntWalk.i64_in _ (by omega)
    by_cases hlt : i < C.length
    · have g1 : decide ((i : Int) < (C.length : Int)) = true := decide_eq_true (by omega)
      obtain ⟨gl, ol, rfl⟩ := ha (by omega)
      simp only [roS] at hO
      obtain ⟨u1, u2⟩ := rcs_at hlt
      obtain ⟨b1, b2, b3, b4⟩ := hB _ (List.getElem_mem hlt)
      have b5 := hC.1 _ (List.getElem_mem hlt)
      have hs := size_drop hlt
      generalize C[i] = r at *
      have HE : Hid (n + (r.hi - r.lo + 1) + sizeF (C.drop (i + 1)) = sizeF C) := Lib.hid (by rw [← HN.out, hs]; omega)
      clear hs HN
      have t1 : IntKind.u64.wrap r.lo = r.lo := by rw [IntKind.wrap_u64]; omega
      have t2 : IntKind.u64.wrap r.hi = r.hi := by rw [IntKind.wrap_u64]; omega
      have t3 : IntKind.u64.wrap (r.hi - r.lo) = r.hi - r.lo := by rw [IntKind.wrap_u64]; omega
      have t4 : IntKind.u64.wrap (r.hi - r.lo + 1) = r.hi - r.lo + 1 := by rw [IntKind.wrap_u64]; omega
      have t5 : IntKind.u64.wrap (n + (r.hi - r.lo + 1)) = n + (r.hi - r.lo + 1) := by rw [IntKind.wrap_u64]; omega
      go_wp2_with fail
      (refine own_quiet hO (by kernel_rfl) (by kernel_rfl) ?_; clear hO; (repeat (go_big_quiet_want; (first | ((with_reducible refine is_loadQ ?_); (refine q_ldV (h := ?_)); (try simp only [Act.put]); (try simp only [List.setIfInBounds_toArray, List.set_cons_zero, List.set_cons_succ]); go_big_quiet_on) | (go_big_quiet_op; (first | go_big_quiet_on | ((refine ⟨_, fun _ _ => rfl, ?_⟩); go_big_quiet_on)))))); (refine wpQuiet_nil ?_); intro wv hO)
      go_wp2_with fail
      go_roundw
      case rel => exact ⟨i + 1, n + (r.hi - r.lo + 1), by omega, by go_num, rfl, by omega, by omega, HE, hO⟩
      case measure => simp [intOf]; omega
    · have g1 : decide ((i : Int) < (C.length : Int)) = false := decide_eq_false (by omega)
      have HE : Hid (n = sizeF C) := Lib.hid (by rw [← HN.out, List.drop_of_length_le (by omega), sizeF]; omega)
      clear HN
      go_wp2_with fail
      go_ret
      exact ⟨by rw [← HE.out]; rfl, hO.keep.below⟩
end Go.Proofs.YtfhkmkbfgmbbaaaDoor

/- CalendarItems: the walk. -/
namespace Go.Proofs.YtfhkmkbfgmbbaaaDoor
open Go.RowKit
set_option maxRecDepth 100000
theorem slice_intsK : SliceT Tryd.prog 22 3 1 8 := ⟨Tryd.underlying22, by omega, by
  obtain ⟨i, h1, h2, h3, h4⟩ := info_parts (show (Tryd.prog.info? 3).map (fun i => (i.zero, i.size, i.bytes)) = some (some (.int .i64 0), 1, 8) by kernel_rfl)
  exact ⟨i, _, h1, h2, h3, h4, rfl⟩⟩
theorem item_short : ∀ a, a < 4 → (dyI.getD a []).length ≤ 11 ∧ (tmI.getD a []).length ≤ 11 := by decide
theorem itI_short : ∀ a, a < 4 → ∀ b, b < 4 → (itI a b).length ≤ 7 := by decide +kernel
def dyC : List Value := [.string ⟨#[109, 111, 110]⟩, .string ⟨#[119, 101, 100, 45, 116, 104, 117]⟩, .string ⟨#[109, 111, 110, 45, 115, 117, 110]⟩, .string ⟨#[115, 97, 116, 45, 115, 117, 110]⟩]
theorem dy_cell : ∀ a, a < 4 → dyC[a]? = some (.string ⟨(dyI.getD a []).toArray⟩) := fun a h => by
  rcases (show a = 0 ∨ a = 1 ∨ a = 2 ∨ a = 3 by omega) with rfl | rfl | rfl | rfl <;> rfl
def tmC : List Value := [.string ⟨#[48, 48, 58, 48, 48, 45, 50, 52, 58, 48, 48]⟩, .string ⟨#[48, 56, 58, 48, 48, 45, 49, 55, 58, 48, 48]⟩, .string ⟨#[50, 51, 58, 53, 57, 45, 50, 52, 58, 48, 48]⟩, .string ⟨#[49, 50, 58, 48, 48, 45, 49, 50, 58, 51, 48]⟩]
theorem tm_cell : ∀ a, a < 4 → tmC[a]? = some (.string ⟨(tmI.getD a []).toArray⟩) := fun a h => by
  rcases (show a = 0 ∨ a = 1 ∨ a = 2 ∨ a = 3 by omega) with rfl | rfl | rfl | rfl <;> rfl
def dysC : List Value := [.int .i64 1, .int .i64 2, .int .i64 7, .int .i64 2]
theorem dys_cell : ∀ a, a < 4 → dysC[a]? = some (.int .i64 (dysI.getD a 0)) ∧ 0 ≤ dysI.getD a 0 ∧ dysI.getD a 0 ≤ 7 := fun a h => by
  rcases (show a = 0 ∨ a = 1 ∨ a = 2 ∨ a = 3 by omega) with rfl | rfl | rfl | rfl <;> exact ⟨rfl, by decide, by decide⟩
def mnsC : List Value := [.int .i64 1440, .int .i64 540, .int .i64 1, .int .i64 30]
theorem mns_cell : ∀ a, a < 4 → mnsC[a]? = some (.int .i64 (mnsI.getD a 0)) ∧ 0 ≤ mnsI.getD a 0 ∧ mnsI.getD a 0 ≤ 1440 := fun a h => by
  rcases (show a = 0 ∨ a = 1 ∨ a = 2 ∨ a = 3 by omega) with rfl | rfl | rfl | rfl <;> exact ⟨rfl, by decide, by decide⟩
/-- Parse at one item -/
theorem parse_one {x y : Bs} {L : List Rg} (h : itemF x y = some L) (hx : x.length ≤ 11) (hy : y.length ≤ 11) (n : Nat) (w : World) (hN : Nms w) (hc : IsCells w (.slice (some ⟨n, 0, none⟩) 2 2) 2 [.string ⟨x.toArray⟩, .string ⟨y.toArray⟩]) :
    Calls Tryd.prog 23 #[.slice (some ⟨n, 0, none⟩) 2 2] w fun e w' => ∃ v, e = .returned (.tuple #[v, .int .i64 0]) ∧ (IsCells w' v (canU L).length (rcs (canU L)) ∧ NewFrom w v) ∧ Below w.heap.size w w' := by
  have h2 := parse_any (ws := [x, y]) w hc (by simp) (fun z hz => by
    simp only [List.mem_cons, List.not_mem_nil, or_false] at hz
    rcases hz with rfl | rfl <;> omega) hN
  have hi : itemsF [x, y] = some (L, 1) := by rw [itemsF, h]
  rw [show parsF 16 [x, y] = .is (canU L) from pars_is (fun e => by cases e) hi (by decide)] at h2
  exact h2
/-- Parse at two items -/
theorem parse_two {x y x2 y2 : Bs} {L L2 : List Rg} (h : itemF x y = some L) (h2 : itemF x2 y2 = some L2) (hx : x.length ≤ 11) (hy : y.length ≤ 11) (hx2 : x2.length ≤ 11) (hy2 : y2.length ≤ 11) (n : Nat) (w : World) (hN : Nms w) (hc : IsCells w (.slice (some ⟨n, 0, none⟩) 5 5) 5 [.string ⟨x.toArray⟩, .string ⟨y.toArray⟩, .string ⟨#[44]⟩, .string ⟨x2.toArray⟩, .string ⟨y2.toArray⟩]) :
    Calls Tryd.prog 23 #[.slice (some ⟨n, 0, none⟩) 5 5] w fun e w' => ∃ v, e = .returned (.tuple #[v, .int .i64 0]) ∧ (IsCells w' v (canU (L ++ L2)).length (rcs (canU (L ++ L2))) ∧ NewFrom w v) ∧ Below w.heap.size w w' := by
  have h3 := parse_any (ws := [x, y, [44], x2, y2]) w hc (by simp) (fun z hz => by
    simp only [List.mem_cons, List.not_mem_nil, or_false] at hz
    rcases hz with rfl | rfl | rfl | rfl | rfl
    · omega
    · omega
    · decide
    · omega
    · omega) hN
  have hi : itemsF [x, y, [44], x2, y2] = some (L ++ L2, 2) := by
    have h4 : itemsF [x2, y2] = some (L2, 1) := by rw [itemsF, h2]
    rw [itemsF, if_pos rfl, h, h4]
  rw [show parsF 16 [x, y, [44], x2, y2] = .is (canU (L ++ L2)) from pars_is (fun e => by cases e) hi (by decide)] at h3
  exact h3
set_option maxHeartbeats 16000000 in
theorem items_law {sl : Value} {zs : List Int} (w : World) (hN : Nms w) (hZ : ZsOk sl zs) (hr : ∀ s ∈ roS sl (ints zs), w.rangeAt s.g s.o s.xs) :
    Calls Tryd.prog 6 #[sl] w fun e w' => e = .returned (.bool true) ∧ Below w.heap.size w w' := by
  have hO := own_law hr
  clear hr
  obtain ⟨sa, sc, rfl, -⟩ := hZ.view
  go_enter Tryd.func6, Tryd.ntmps6
  go_upto_region 5 with (first | (go_at_call 8; (with_reducible refine (new_any _ _ _).mono ?_); rintro e wv ⟨n, rfl, hB, hn, hb⟩; replace hO := hO.gain hb hB hn; have hT := hO.tapeIn List.mem_cons_self (fun _ h => h) (Nat.zero_le _); clear hb hB hn) | ((with_reducible refine is_build ?_); (refine' own_buildP (o := ⟨some 22, _, _, _, _, _⟩) [.string ⟨#[109, 111, 110]⟩, .string ⟨#[119, 101, 100, 45, 116, 104, 117]⟩, .string ⟨#[109, 111, 110, 45, 115, 117, 110]⟩, .string ⟨#[115, 97, 116, 45, 115, 117, 110]⟩] hO (by rfl) rfl slice_strings rfl rfl (by rfl) (by decide) (by decide) ?_); clear hO; intro n22 wv hO) | ((with_reducible refine is_build ?_); (refine' own_buildP (o := ⟨some 23, _, _, _, _, _⟩) [.string ⟨#[48, 48, 58, 48, 48, 45, 50, 52, 58, 48, 48]⟩, .string ⟨#[48, 56, 58, 48, 48, 45, 49, 55, 58, 48, 48]⟩, .string ⟨#[50, 51, 58, 53, 57, 45, 50, 52, 58, 48, 48]⟩, .string ⟨#[49, 50, 58, 48, 48, 45, 49, 50, 58, 51, 48]⟩] hO (by rfl) rfl slice_strings rfl rfl (by rfl) (by decide) (by decide) ?_); clear hO; intro n23 wv hO) | ((with_reducible refine is_build ?_); (refine' own_buildP (o := ⟨some 24, _, _, _, _, _⟩) [.int .i64 1, .int .i64 2, .int .i64 7, .int .i64 2] hO (by rfl) rfl slice_intsK rfl rfl (by rfl) (by decide) (by decide) ?_); clear hO; intro n24 wv hO) | ((with_reducible refine is_build ?_); (refine' own_buildP (o := ⟨some 25, _, _, _, _, _⟩) [.int .i64 1440, .int .i64 540, .int .i64 1, .int .i64 30] hO (by rfl) rfl slice_intsK rfl rfl (by rfl) (by decide) (by decide) ?_); clear hO; intro n25 wv hO) | ((fail_if_success (have := ra)); (go_at_call 19; (with_reducible refine (next_pos 4 hZ (hO.tapeIn (by (repeat (first | exact List.mem_cons_self | refine List.mem_cons_of_mem _ ?_))) (fun _ h => h) hT.le) (by omega) (by omega)).mono ?_); rintro e wv ⟨v, i1, rfl, hv, hk, hT1⟩; replace hO := hO.after (by (repeat (first | exact Upd.here | apply Upd.there))) hk hT1.blk; replace hT := hT1; clear hT1 hk; obtain ⟨ra, rfl, ra0, ra1⟩ := hv)) | ((fail_if_success (have := rb)); (go_at_call 19; (with_reducible refine (next_pos 4 hZ (hO.tapeIn (by (repeat (first | exact List.mem_cons_self | refine List.mem_cons_of_mem _ ?_))) (fun _ h => h) hT.le) (by omega) (by omega)).mono ?_); rintro e wv ⟨v, i1, rfl, hv, hk, hT1⟩; replace hO := hO.after (by (repeat (first | exact Upd.here | apply Upd.there))) hk hT1.blk; replace hT := hT1; clear hT1 hk; obtain ⟨rb, rfl, rb0, rb1⟩ := hv)) | ((fail_if_success (have := rc)); (go_at_call 19; (with_reducible refine (next_pos 4 hZ (hO.tapeIn (by (repeat (first | exact List.mem_cons_self | refine List.mem_cons_of_mem _ ?_))) (fun _ h => h) hT.le) (by omega) (by omega)).mono ?_); rintro e wv ⟨v, i1, rfl, hv, hk, hT1⟩; replace hO := hO.after (by (repeat (first | exact Upd.here | apply Upd.there))) hk hT1.blk; replace hT := hT1; clear hT1 hk; obtain ⟨rc, rfl, rc0, rc1⟩ := hv)) | ((fail_if_success (have := rd)); (go_at_call 19; (with_reducible refine (next_pos 4 hZ (hO.tapeIn (by (repeat (first | exact List.mem_cons_self | refine List.mem_cons_of_mem _ ?_))) (fun _ h => h) hT.le) (by omega) (by omega)).mono ?_); rintro e wv ⟨v, i1, rfl, hv, hk, hT1⟩; replace hO := hO.after (by (repeat (first | exact Upd.here | apply Upd.there))) hk hT1.blk; replace hT := hT1; clear hT1 hk; obtain ⟨rd, rfl, rd0, rd1⟩ := hv)))
  obtain ⟨A, rfl⟩ : ∃ A : Nat, ra = (A : Int) := ⟨ra.toNat, by omega⟩
  obtain ⟨B, rfl⟩ : ∃ B : Nat, rb = (B : Int) := ⟨rb.toNat, by omega⟩
  obtain ⟨C, rfl⟩ : ∃ C : Nat, rc = (C : Int) := ⟨rc.toNat, by omega⟩
  obtain ⟨D, rfl⟩ : ∃ D : Nat, rd = (D : Int) := ⟨rd.toNat, by omega⟩
  have a4 : A < 4 := by omega
  have b4 : B < 4 := by omega
  have c4 : C < 4 := by omega
  have d4 : D < 4 := by omega
  replace hO : Own [] w [⟨n25, mnsC, 3⟩, ⟨n24, dysC, 3⟩, ⟨n23, tmC, 9⟩, ⟨n22, dyC, 9⟩] [] (roS (.slice sa zs.length sc) (ints zs)) wv := hO.sub (.cons_cons _ (.cons_cons _ (.cons_cons _ (.cons_cons _ (.cons _ .slnil))))) (.refl _) (fun _ h => h)
  have u1 := dy_cell A a4
  have u2 := tm_cell B b4
  have u3 := dy_cell C c4
  have u4 := tm_cell D d4
  obtain ⟨u5, m1, m2⟩ := dys_cell A a4
  obtain ⟨u6, m3, m4⟩ := mns_cell B b4
  have i1 := itI_item a4 b4
  have i2 := itI_item c4 d4
  have bb1 := itI_bnd A a4 B b4
  have bb2 := itI_bnd C c4 D d4
  have nn1 := itI_short A a4 B b4
  have nn2 := itI_short C c4 D d4
  have hs := itI_size A a4 B b4
  have x1 := (item_short A a4).1
  have x2 := (item_short B b4).2
  have x3 := (item_short C c4).1
  have x4 := (item_short D d4).2
  generalize dyI.getD A [] = xa at *
  generalize tmI.getD B [] = xb at *
  generalize dyI.getD C [] = xc at *
  generalize tmI.getD D [] = xd at *
  generalize itI A B = L1 at *
  generalize itI C D = L2 at *
  have hp1 := parse_one i1 x1 x2
  have hp2 := parse_one i2 x3 x4
  have hp3 := parse_two i1 i2 x1 x2 x3 x4
  have hp4 := parse_two i2 i1 x3 x4 x1 x2
  rw [canU_comm bb2 bb1] at hp4
  have hz : sizeF (canU (canU L1)) = dysI.getD A 0 * mnsI.getD B 0 := by rw [canU_self (canU_bnd bb1) (canU_is bb1).1]; exact hs
  have hS := fun (v : Value) (w : World) (h : IsCells w v (canU L1).length (rcs (canU L1))) => rsize_any w h (by have := canU_len L1; omega) (canU_bnd bb1)
  rw [hz] at hS
  have hU := fun (v u : Value) (w : World) (h : IsCells w v (canU L1).length (rcs (canU L1))) (k : IsCells w u (canU L2).length (rcs (canU L2))) => runion_any (la := canU L1) (lb := canU L2) w h k (by have := canU_len L1; omega) (by have := canU_len L2; omega) (canU_bnd bb1) (canU_bnd bb2)
  rw [canU_two bb1 bb2] at hU
  have n3 : (canU (L1 ++ L2)).length ≤ 100000000000 := by
    have := canU_len (L1 ++ L2)
    rw [List.length_append] at this
    omega
  generalize canU (L1 ++ L2) = K3 at *
  generalize canU L1 = K1 at *
  generalize canU L2 = K2 at *
  have hE := fun (v u : Value) (w : World) (h : IsCells w v K3.length (rcs K3)) (k : IsCells w u K3.length (rcs K3)) => rsameR_any v u K3 w h k n3
  have z1 := rcs_nil_of K1
  have z2 := rcs_nil_of K2
  have z3 := rcs_nil_of K3
  generalize dysI.getD A 0 = p at *
  generalize mnsI.getD B 0 = q at *
  obtain ⟨P, hP⟩ : ∃ P : Int, P = p * q := ⟨_, rfl⟩
  have hP0 : 0 ≤ P := by rw [hP]; exact Int.mul_nonneg m1 m3
  have hP1 : P ≤ 7 * 1440 := by rw [hP]; exact Int.mul_le_mul m2 m4 m3 (by decide)
  have t1 : IntKind.i64.wrap (p * q) = P := by rw [← hP]; exact IntWalk.i64_in _ (by omega)
  have t2 : IntKind.u64.wrap P = P := by rw [IntKind.wrap_u64]; omega
  rw [← hP] at hS
  clear hP hz hs i1 i2 bb1 bb2 nn1 nn2 x1 x2 x3 x4 hT
  have y1 : (0 : Int) ≤ (A : Int) := by omega
  have y2 : (0 : Int) ≤ (B : Int) := by omega
  have y3 : (0 : Int) ≤ (C : Int) := by omega
  have y4 : (0 : Int) ≤ (D : Int) := by omega
  have hsn := fun w h => sane9_any w h
  refine wp_region_held (S := (Own [] w [⟨n25, mnsC, 3⟩, ⟨n24, dysC, 3⟩, ⟨n23, tmC, 9⟩, ⟨n22, dyC, 9⟩] [] [])) (by kernel_rfl) ?_
  replace hO := hO.drew
  have hC : (Own [] w [⟨n25, mnsC, 3⟩, ⟨n24, dysC, 3⟩, ⟨n23, tmC, 9⟩, ⟨n22, dyC, 9⟩] [] []) _ := hO.cls
  refine wpAnyH_tk 0 hC ?_
  (go_big_quiet_want; (go_big_quiet_op; (go_big_quiet_on))); (refine wpQuiet_nil ?_)
  refine wpAnyH_tk 1 hC ?_
  (go_big_quiet_want; (go_big_quiet_op; (go_big_quiet_on))); (refine wpQuiet_nil ?_)
  refine wpAnyH_tk 2 hC ?_
  (go_big_quiet_want; (go_big_quiet_op; ((refine ⟨_, fun _ _ => rfl, ?_⟩); go_big_quiet_on))); (refine wpQuiet_nil ?_)
  refine wpAnyH_tk 3 hC ?_
  (go_big_quiet_want; ((with_reducible refine is_loadQ ?_); (refine q_ldV (h := ?_)); (try simp only [Act.put]); (try simp only [List.setIfInBounds_toArray, List.set_cons_zero, List.set_cons_succ]); go_big_quiet_on)); (refine wpQuiet_nil ?_)
  refine wpAnyH_tk 4 hC ?_
  (go_big_quiet_want; (go_big_quiet_op; (go_big_quiet_on))); (refine wpQuiet_nil ?_)
  refine wpAnyH_tk 5 hC ?_
  (go_big_quiet_want; (go_big_quiet_op; (go_big_quiet_on))); (refine wpQuiet_nil ?_)
  refine wpAnyH_tk 6 hC ?_
  (go_big_quiet_want; (go_big_quiet_op; ((refine ⟨_, fun _ _ => rfl, ?_⟩); go_big_quiet_on))); (refine wpQuiet_nil ?_)
  refine wpAnyH_tk 7 hC ?_
  (go_big_quiet_want; ((with_reducible refine is_loadQ ?_); (refine q_ldV (h := ?_)); (try simp only [Act.put]); (try simp only [List.setIfInBounds_toArray, List.set_cons_zero, List.set_cons_succ]); go_big_quiet_on)); (refine wpQuiet_nil ?_)
  refine wpAnyH_1 8 ?_
  rotate_left 1
  all_goals
    refine wpOp_of_listL rfl ?_
    ((with_reducible refine is_build ?_); (refine' own_buildP (o := ⟨some 43, _, _, _, _, _⟩) [.string ⟨xa.toArray⟩, .string ⟨xb.toArray⟩] hO (by rfl) rfl slice_strings rfl rfl (by rfl) (by decide) (by decide) ?_); clear hO; intro n43 wv hO); (try simp only [Act.put]); (try simp only [List.setIfInBounds_toArray, List.set_cons_zero, List.set_cons_succ])
    refine wpList_done (qk_intro ?_)
    replace hC : (Own [] w [⟨n25, mnsC, 3⟩, ⟨n24, dysC, 3⟩, ⟨n23, tmC, 9⟩, ⟨n22, dyC, 9⟩] [] []) _ := hO.cls
    refine ⟨hC, ?_⟩
  refine wpAnyH_1 9 ?_
  rotate_left 1
  all_goals
    refine wpOp_of_listL rfl ?_
    ((refine wpList_step (fun K hK => ?_)); go_simp; ((go_at_call 23; (with_reducible refine (hp1 _ _ (hO.nms hN (by simp)) (lit_cells (own_chunkAt hO List.mem_cons_self))).mono ?_); rintro e wv ⟨v1, rfl, ⟨hv9, hn9⟩, hb9⟩; have f1 := isCells_form hv9; replace hO := hO.gainC hb9 hv9 hn9; clear hb9 hv9 hn9); (try simp only []); (refine hK _ _ ?_); clear hK K))
    refine wpList_done (qk_intro ?_)
    replace hC : (Own [] w [⟨n25, mnsC, 3⟩, ⟨n24, dysC, 3⟩, ⟨n23, tmC, 9⟩, ⟨n22, dyC, 9⟩] [] []) _ := hO.cls
    refine ⟨hC, ?_⟩
  refine wpAnyH_tk 10 hC ?_
  (go_big_quiet_want; (go_big_quiet_op; (go_big_quiet_on))); (refine wpQuiet_nil ?_)
  refine wpAnyH_tk 11 hC ?_
  (go_big_quiet_want; (go_big_quiet_op; ((refine ⟨_, fun _ _ => rfl, ?_⟩); go_big_quiet_on))); (refine wpQuiet_nil ?_)
  refine wpAnyH_tk 12 hC ?_
  (go_big_quiet_want; (go_big_quiet_op; ((refine ⟨_, fun _ _ => rfl, ?_⟩); go_big_quiet_on))); (refine wpQuiet_nil ?_)
  refine wpAnyH_1 13 ?_
  rotate_left 1
  all_goals
    refine wpOp_of_listL rfl ?_
    ((refine wpList_step (fun K hK => ?_)); go_simp; ((refine hK _ _ ?_); clear hK K))
    refine wpList_done (qk_intro ?_)
    replace hC : (Own [] w [⟨n25, mnsC, 3⟩, ⟨n24, dysC, 3⟩, ⟨n23, tmC, 9⟩, ⟨n22, dyC, 9⟩] [] []) _ := hO.cls
    refine ⟨hC, ?_⟩
  refine wpAnyH_1 14 ?_
  rotate_left 1
  all_goals
    refine wpOp_of_listL rfl ?_
    ((refine wpList_step (fun K hK => ?_)); go_simp; ((refine hK _ _ ?_); clear hK K))
    refine wpList_done (qk_intro ?_)
    replace hC : (Own [] w [⟨n25, mnsC, 3⟩, ⟨n24, dysC, 3⟩, ⟨n23, tmC, 9⟩, ⟨n22, dyC, 9⟩] [] []) _ := hO.cls
    refine ⟨hC, ?_⟩
  refine wpAnyH_done (by kernel_rfl) ?_ _
  rotate_left
  all_goals clear hC
  all_goals go_upto_region 6 with (fail)
  all_goals replace hO := hO.sub (X' := [⟨n25, mnsC, 3⟩, ⟨n24, dysC, 3⟩, ⟨n23, tmC, 9⟩, ⟨n22, dyC, 9⟩]) (.cons _ (.refl _)) (.refl _) (fun _ h => h)
  refine wp_region_held (S := (Own [] w [⟨n25, mnsC, 3⟩, ⟨n24, dysC, 3⟩, ⟨n23, tmC, 9⟩, ⟨n22, dyC, 9⟩] [] [])) (by kernel_rfl) ?_
  replace hO := hO.drew
  have hC : (Own [] w [⟨n25, mnsC, 3⟩, ⟨n24, dysC, 3⟩, ⟨n23, tmC, 9⟩, ⟨n22, dyC, 9⟩] [] []) _ := hO.cls
  refine wpAnyH_tk 0 hC ?_
  (go_big_quiet_want; (go_big_quiet_op; (go_big_quiet_on))); (refine wpQuiet_nil ?_)
  refine wpAnyH_tk 1 hC ?_
  (go_big_quiet_want; (go_big_quiet_op; (go_big_quiet_on))); (refine wpQuiet_nil ?_)
  refine wpAnyH_tk 2 hC ?_
  (go_big_quiet_want; (go_big_quiet_op; ((refine ⟨_, fun _ _ => rfl, ?_⟩); go_big_quiet_on))); (refine wpQuiet_nil ?_)
  refine wpAnyH_tk 3 hC ?_
  (go_big_quiet_want; ((with_reducible refine is_loadQ ?_); (refine q_ldV (h := ?_)); (try simp only [Act.put]); (try simp only [List.setIfInBounds_toArray, List.set_cons_zero, List.set_cons_succ]); go_big_quiet_on)); (refine wpQuiet_nil ?_)
  refine wpAnyH_tk 4 hC ?_
  (go_big_quiet_want; (go_big_quiet_op; (go_big_quiet_on))); (refine wpQuiet_nil ?_)
  refine wpAnyH_tk 5 hC ?_
  (go_big_quiet_want; (go_big_quiet_op; (go_big_quiet_on))); (refine wpQuiet_nil ?_)
  refine wpAnyH_tk 6 hC ?_
  (go_big_quiet_want; (go_big_quiet_op; ((refine ⟨_, fun _ _ => rfl, ?_⟩); go_big_quiet_on))); (refine wpQuiet_nil ?_)
  refine wpAnyH_tk 7 hC ?_
  (go_big_quiet_want; ((with_reducible refine is_loadQ ?_); (refine q_ldV (h := ?_)); (try simp only [Act.put]); (try simp only [List.setIfInBounds_toArray, List.set_cons_zero, List.set_cons_succ]); go_big_quiet_on)); (refine wpQuiet_nil ?_)
  refine wpAnyH_1 8 ?_
  rotate_left 1
  all_goals
    refine wpOp_of_listL rfl ?_
    ((with_reducible refine is_build ?_); (refine' own_buildP (o := ⟨some 56, _, _, _, _, _⟩) [.string ⟨xc.toArray⟩, .string ⟨xd.toArray⟩] hO (by rfl) rfl slice_strings rfl rfl (by rfl) (by decide) (by decide) ?_); clear hO; intro n56 wv hO); (try simp only [Act.put]); (try simp only [List.setIfInBounds_toArray, List.set_cons_zero, List.set_cons_succ])
    refine wpList_done (qk_intro ?_)
    replace hC : (Own [] w [⟨n25, mnsC, 3⟩, ⟨n24, dysC, 3⟩, ⟨n23, tmC, 9⟩, ⟨n22, dyC, 9⟩] [] []) _ := hO.cls
    refine ⟨hC, ?_⟩
  refine wpAnyH_1 9 ?_
  rotate_left 1
  all_goals
    refine wpOp_of_listL rfl ?_
    ((refine wpList_step (fun K hK => ?_)); go_simp; ((go_at_call 23; (with_reducible refine (hp2 _ _ (hO.nms hN (by simp)) (lit_cells (own_chunkAt hO List.mem_cons_self))).mono ?_); rintro e wv ⟨v2, rfl, ⟨hv9, hn9⟩, hb9⟩; have f2 := isCells_form hv9; replace hO := hO.gainC hb9 hv9 hn9; clear hb9 hv9 hn9); (try simp only []); (refine hK _ _ ?_); clear hK K))
    refine wpList_done (qk_intro ?_)
    replace hC : (Own [] w [⟨n25, mnsC, 3⟩, ⟨n24, dysC, 3⟩, ⟨n23, tmC, 9⟩, ⟨n22, dyC, 9⟩] [] []) _ := hO.cls
    refine ⟨hC, ?_⟩
  refine wpAnyH_tk 10 hC ?_
  (go_big_quiet_want; (go_big_quiet_op; (go_big_quiet_on))); (refine wpQuiet_nil ?_)
  refine wpAnyH_tk 11 hC ?_
  (go_big_quiet_want; (go_big_quiet_op; ((refine ⟨_, fun _ _ => rfl, ?_⟩); go_big_quiet_on))); (refine wpQuiet_nil ?_)
  refine wpAnyH_tk 12 hC ?_
  (go_big_quiet_want; (go_big_quiet_op; ((refine ⟨_, fun _ _ => rfl, ?_⟩); go_big_quiet_on))); (refine wpQuiet_nil ?_)
  refine wpAnyH_1 13 ?_
  rotate_left 1
  all_goals
    refine wpOp_of_listL rfl ?_
    ((refine wpList_step (fun K hK => ?_)); go_simp; ((refine hK _ _ ?_); clear hK K))
    refine wpList_done (qk_intro ?_)
    replace hC : (Own [] w [⟨n25, mnsC, 3⟩, ⟨n24, dysC, 3⟩, ⟨n23, tmC, 9⟩, ⟨n22, dyC, 9⟩] [] []) _ := hO.cls
    refine ⟨hC, ?_⟩
  refine wpAnyH_1 14 ?_
  rotate_left 1
  all_goals
    refine wpOp_of_listL rfl ?_
    ((refine wpList_step (fun K hK => ?_)); go_simp; ((refine hK _ _ ?_); clear hK K))
    refine wpList_done (qk_intro ?_)
    replace hC : (Own [] w [⟨n25, mnsC, 3⟩, ⟨n24, dysC, 3⟩, ⟨n23, tmC, 9⟩, ⟨n22, dyC, 9⟩] [] []) _ := hO.cls
    refine ⟨hC, ?_⟩
  refine wpAnyH_done (by kernel_rfl) ?_ _
  rotate_left
  all_goals clear hC
  all_goals go_upto_region 7 with (fail)
  all_goals replace hO := hO.sub (X' := [⟨n25, mnsC, 3⟩, ⟨n24, dysC, 3⟩, ⟨n23, tmC, 9⟩, ⟨n22, dyC, 9⟩]) (.cons _ (.refl _)) (.refl _) (fun _ h => h)
  refine wp_region_held (S := (Own [] w [⟨n25, mnsC, 3⟩, ⟨n24, dysC, 3⟩, ⟨n23, tmC, 9⟩, ⟨n22, dyC, 9⟩] [] [])) (by kernel_rfl) ?_
  replace hO := hO.drew
  have hC : (Own [] w [⟨n25, mnsC, 3⟩, ⟨n24, dysC, 3⟩, ⟨n23, tmC, 9⟩, ⟨n22, dyC, 9⟩] [] []) _ := hO.cls
  refine wpAnyH_tk 0 hC ?_
  (go_big_quiet_want; (go_big_quiet_op; (go_big_quiet_on))); (refine wpQuiet_nil ?_)
  refine wpAnyH_tk 1 hC ?_
  (go_big_quiet_want; (go_big_quiet_op; (go_big_quiet_on))); (refine wpQuiet_nil ?_)
  refine wpAnyH_tk 2 hC ?_
  (go_big_quiet_want; (go_big_quiet_op; ((refine ⟨_, fun _ _ => rfl, ?_⟩); go_big_quiet_on))); (refine wpQuiet_nil ?_)
  refine wpAnyH_tk 3 hC ?_
  (go_big_quiet_want; ((with_reducible refine is_loadQ ?_); (refine q_ldV (h := ?_)); (try simp only [Act.put]); (try simp only [List.setIfInBounds_toArray, List.set_cons_zero, List.set_cons_succ]); go_big_quiet_on)); (refine wpQuiet_nil ?_)
  refine wpAnyH_tk 4 hC ?_
  (go_big_quiet_want; (go_big_quiet_op; (go_big_quiet_on))); (refine wpQuiet_nil ?_)
  refine wpAnyH_tk 5 hC ?_
  (go_big_quiet_want; (go_big_quiet_op; (go_big_quiet_on))); (refine wpQuiet_nil ?_)
  refine wpAnyH_tk 6 hC ?_
  (go_big_quiet_want; (go_big_quiet_op; ((refine ⟨_, fun _ _ => rfl, ?_⟩); go_big_quiet_on))); (refine wpQuiet_nil ?_)
  refine wpAnyH_tk 7 hC ?_
  (go_big_quiet_want; ((with_reducible refine is_loadQ ?_); (refine q_ldV (h := ?_)); (try simp only [Act.put]); (try simp only [List.setIfInBounds_toArray, List.set_cons_zero, List.set_cons_succ]); go_big_quiet_on)); (refine wpQuiet_nil ?_)
  refine wpAnyH_tk 8 hC ?_
  (go_big_quiet_want; (go_big_quiet_op; (go_big_quiet_on))); (refine wpQuiet_nil ?_)
  refine wpAnyH_tk 9 hC ?_
  (go_big_quiet_want; (go_big_quiet_op; (go_big_quiet_on))); (refine wpQuiet_nil ?_)
  refine wpAnyH_tk 10 hC ?_
  (go_big_quiet_want; (go_big_quiet_op; ((refine ⟨_, fun _ _ => rfl, ?_⟩); go_big_quiet_on))); (refine wpQuiet_nil ?_)
  refine wpAnyH_tk 11 hC ?_
  (go_big_quiet_want; ((with_reducible refine is_loadQ ?_); (refine q_ldV (h := ?_)); (try simp only [Act.put]); (try simp only [List.setIfInBounds_toArray, List.set_cons_zero, List.set_cons_succ]); go_big_quiet_on)); (refine wpQuiet_nil ?_)
  refine wpAnyH_tk 12 hC ?_
  (go_big_quiet_want; (go_big_quiet_op; (go_big_quiet_on))); (refine wpQuiet_nil ?_)
  refine wpAnyH_tk 13 hC ?_
  (go_big_quiet_want; (go_big_quiet_op; (go_big_quiet_on))); (refine wpQuiet_nil ?_)
  refine wpAnyH_tk 14 hC ?_
  (go_big_quiet_want; (go_big_quiet_op; ((refine ⟨_, fun _ _ => rfl, ?_⟩); go_big_quiet_on))); (refine wpQuiet_nil ?_)
  refine wpAnyH_tk 15 hC ?_
  (go_big_quiet_want; ((with_reducible refine is_loadQ ?_); (refine q_ldV (h := ?_)); (try simp only [Act.put]); (try simp only [List.setIfInBounds_toArray, List.set_cons_zero, List.set_cons_succ]); go_big_quiet_on)); (refine wpQuiet_nil ?_)
  refine wpAnyH_1 16 ?_
  rotate_left 1
  all_goals
    refine wpOp_of_listL rfl ?_
    ((with_reducible refine is_build ?_); (refine' own_buildP (o := ⟨some 77, _, _, _, _, _⟩) [.string ⟨xa.toArray⟩, .string ⟨xb.toArray⟩, .string ⟨#[44]⟩, .string ⟨xc.toArray⟩, .string ⟨xd.toArray⟩] hO (by rfl) rfl slice_strings rfl rfl (by rfl) (by decide) (by decide) ?_); clear hO; intro n77 wv hO); (try simp only [Act.put]); (try simp only [List.setIfInBounds_toArray, List.set_cons_zero, List.set_cons_succ])
    refine wpList_done (qk_intro ?_)
    replace hC : (Own [] w [⟨n25, mnsC, 3⟩, ⟨n24, dysC, 3⟩, ⟨n23, tmC, 9⟩, ⟨n22, dyC, 9⟩] [] []) _ := hO.cls
    refine ⟨hC, ?_⟩
  refine wpAnyH_1 17 ?_
  rotate_left 1
  all_goals
    refine wpOp_of_listL rfl ?_
    ((refine wpList_step (fun K hK => ?_)); go_simp; ((go_at_call 23; (with_reducible refine (hp3 _ _ (hO.nms hN (by simp)) (lit_cells (own_chunkAt hO List.mem_cons_self))).mono ?_); rintro e wv ⟨v3, rfl, ⟨hv9, hn9⟩, hb9⟩; have f3 := isCells_form hv9; replace hO := hO.gainC hb9 hv9 hn9; clear hb9 hv9 hn9); (try simp only []); (refine hK _ _ ?_); clear hK K))
    refine wpList_done (qk_intro ?_)
    replace hC : (Own [] w [⟨n25, mnsC, 3⟩, ⟨n24, dysC, 3⟩, ⟨n23, tmC, 9⟩, ⟨n22, dyC, 9⟩] [] []) _ := hO.cls
    refine ⟨hC, ?_⟩
  refine wpAnyH_tk 18 hC ?_
  (go_big_quiet_want; (go_big_quiet_op; (go_big_quiet_on))); (refine wpQuiet_nil ?_)
  refine wpAnyH_tk 19 hC ?_
  (go_big_quiet_want; (go_big_quiet_op; ((refine ⟨_, fun _ _ => rfl, ?_⟩); go_big_quiet_on))); (refine wpQuiet_nil ?_)
  refine wpAnyH_tk 20 hC ?_
  (go_big_quiet_want; (go_big_quiet_op; ((refine ⟨_, fun _ _ => rfl, ?_⟩); go_big_quiet_on))); (refine wpQuiet_nil ?_)
  refine wpAnyH_1 21 ?_
  rotate_left 1
  all_goals
    refine wpOp_of_listL rfl ?_
    ((refine wpList_step (fun K hK => ?_)); go_simp; ((refine hK _ _ ?_); clear hK K))
    refine wpList_done (qk_intro ?_)
    replace hC : (Own [] w [⟨n25, mnsC, 3⟩, ⟨n24, dysC, 3⟩, ⟨n23, tmC, 9⟩, ⟨n22, dyC, 9⟩] [] []) _ := hO.cls
    refine ⟨hC, ?_⟩
  refine wpAnyH_1 22 ?_
  rotate_left 1
  all_goals
    refine wpOp_of_listL rfl ?_
    ((refine wpList_step (fun K hK => ?_)); go_simp; ((refine hK _ _ ?_); clear hK K))
    refine wpList_done (qk_intro ?_)
    replace hC : (Own [] w [⟨n25, mnsC, 3⟩, ⟨n24, dysC, 3⟩, ⟨n23, tmC, 9⟩, ⟨n22, dyC, 9⟩] [] []) _ := hO.cls
    refine ⟨hC, ?_⟩
  refine wpAnyH_done (by kernel_rfl) ?_ _
  rotate_left
  all_goals clear hC
  all_goals go_upto_region 8 with (fail)
  all_goals replace hO := hO.sub (X' := [⟨n25, mnsC, 3⟩, ⟨n24, dysC, 3⟩, ⟨n23, tmC, 9⟩, ⟨n22, dyC, 9⟩]) (.cons _ (.refl _)) (.refl _) (fun _ h => h)
  refine wp_region_held (S := (Own [] w [⟨n25, mnsC, 3⟩, ⟨n24, dysC, 3⟩, ⟨n23, tmC, 9⟩, ⟨n22, dyC, 9⟩] [] [])) (by kernel_rfl) ?_
  replace hO := hO.drew
  have hC : (Own [] w [⟨n25, mnsC, 3⟩, ⟨n24, dysC, 3⟩, ⟨n23, tmC, 9⟩, ⟨n22, dyC, 9⟩] [] []) _ := hO.cls
  refine wpAnyH_tk 0 hC ?_
  (go_big_quiet_want; (go_big_quiet_op; (go_big_quiet_on))); (refine wpQuiet_nil ?_)
  refine wpAnyH_tk 1 hC ?_
  (go_big_quiet_want; (go_big_quiet_op; (go_big_quiet_on))); (refine wpQuiet_nil ?_)
  refine wpAnyH_tk 2 hC ?_
  (go_big_quiet_want; (go_big_quiet_op; ((refine ⟨_, fun _ _ => rfl, ?_⟩); go_big_quiet_on))); (refine wpQuiet_nil ?_)
  refine wpAnyH_tk 3 hC ?_
  (go_big_quiet_want; ((with_reducible refine is_loadQ ?_); (refine q_ldV (h := ?_)); (try simp only [Act.put]); (try simp only [List.setIfInBounds_toArray, List.set_cons_zero, List.set_cons_succ]); go_big_quiet_on)); (refine wpQuiet_nil ?_)
  refine wpAnyH_tk 4 hC ?_
  (go_big_quiet_want; (go_big_quiet_op; (go_big_quiet_on))); (refine wpQuiet_nil ?_)
  refine wpAnyH_tk 5 hC ?_
  (go_big_quiet_want; (go_big_quiet_op; (go_big_quiet_on))); (refine wpQuiet_nil ?_)
  refine wpAnyH_tk 6 hC ?_
  (go_big_quiet_want; (go_big_quiet_op; ((refine ⟨_, fun _ _ => rfl, ?_⟩); go_big_quiet_on))); (refine wpQuiet_nil ?_)
  refine wpAnyH_tk 7 hC ?_
  (go_big_quiet_want; ((with_reducible refine is_loadQ ?_); (refine q_ldV (h := ?_)); (try simp only [Act.put]); (try simp only [List.setIfInBounds_toArray, List.set_cons_zero, List.set_cons_succ]); go_big_quiet_on)); (refine wpQuiet_nil ?_)
  refine wpAnyH_tk 8 hC ?_
  (go_big_quiet_want; (go_big_quiet_op; (go_big_quiet_on))); (refine wpQuiet_nil ?_)
  refine wpAnyH_tk 9 hC ?_
  (go_big_quiet_want; (go_big_quiet_op; (go_big_quiet_on))); (refine wpQuiet_nil ?_)
  refine wpAnyH_tk 10 hC ?_
  (go_big_quiet_want; (go_big_quiet_op; ((refine ⟨_, fun _ _ => rfl, ?_⟩); go_big_quiet_on))); (refine wpQuiet_nil ?_)
  refine wpAnyH_tk 11 hC ?_
  (go_big_quiet_want; ((with_reducible refine is_loadQ ?_); (refine q_ldV (h := ?_)); (try simp only [Act.put]); (try simp only [List.setIfInBounds_toArray, List.set_cons_zero, List.set_cons_succ]); go_big_quiet_on)); (refine wpQuiet_nil ?_)
  refine wpAnyH_tk 12 hC ?_
  (go_big_quiet_want; (go_big_quiet_op; (go_big_quiet_on))); (refine wpQuiet_nil ?_)
  refine wpAnyH_tk 13 hC ?_
  (go_big_quiet_want; (go_big_quiet_op; (go_big_quiet_on))); (refine wpQuiet_nil ?_)
  refine wpAnyH_tk 14 hC ?_
  (go_big_quiet_want; (go_big_quiet_op; ((refine ⟨_, fun _ _ => rfl, ?_⟩); go_big_quiet_on))); (refine wpQuiet_nil ?_)
  refine wpAnyH_tk 15 hC ?_
  (go_big_quiet_want; ((with_reducible refine is_loadQ ?_); (refine q_ldV (h := ?_)); (try simp only [Act.put]); (try simp only [List.setIfInBounds_toArray, List.set_cons_zero, List.set_cons_succ]); go_big_quiet_on)); (refine wpQuiet_nil ?_)
  refine wpAnyH_1 16 ?_
  rotate_left 1
  all_goals
    refine wpOp_of_listL rfl ?_
    ((with_reducible refine is_build ?_); (refine' own_buildP (o := ⟨some 98, _, _, _, _, _⟩) [.string ⟨xc.toArray⟩, .string ⟨xd.toArray⟩, .string ⟨#[44]⟩, .string ⟨xa.toArray⟩, .string ⟨xb.toArray⟩] hO (by rfl) rfl slice_strings rfl rfl (by rfl) (by decide) (by decide) ?_); clear hO; intro n98 wv hO); (try simp only [Act.put]); (try simp only [List.setIfInBounds_toArray, List.set_cons_zero, List.set_cons_succ])
    refine wpList_done (qk_intro ?_)
    replace hC : (Own [] w [⟨n25, mnsC, 3⟩, ⟨n24, dysC, 3⟩, ⟨n23, tmC, 9⟩, ⟨n22, dyC, 9⟩] [] []) _ := hO.cls
    refine ⟨hC, ?_⟩
  refine wpAnyH_1 17 ?_
  rotate_left 1
  all_goals
    refine wpOp_of_listL rfl ?_
    ((refine wpList_step (fun K hK => ?_)); go_simp; ((go_at_call 23; (with_reducible refine (hp4 _ _ (hO.nms hN (by simp)) (lit_cells (own_chunkAt hO List.mem_cons_self))).mono ?_); rintro e wv ⟨v4, rfl, ⟨hv9, hn9⟩, hb9⟩; have f4 := isCells_form hv9; replace hO := hO.gainC hb9 hv9 hn9; clear hb9 hv9 hn9); (try simp only []); (refine hK _ _ ?_); clear hK K))
    refine wpList_done (qk_intro ?_)
    replace hC : (Own [] w [⟨n25, mnsC, 3⟩, ⟨n24, dysC, 3⟩, ⟨n23, tmC, 9⟩, ⟨n22, dyC, 9⟩] [] []) _ := hO.cls
    refine ⟨hC, ?_⟩
  refine wpAnyH_tk 18 hC ?_
  (go_big_quiet_want; (go_big_quiet_op; (go_big_quiet_on))); (refine wpQuiet_nil ?_)
  refine wpAnyH_tk 19 hC ?_
  (go_big_quiet_want; (go_big_quiet_op; ((refine ⟨_, fun _ _ => rfl, ?_⟩); go_big_quiet_on))); (refine wpQuiet_nil ?_)
  refine wpAnyH_tk 20 hC ?_
  (go_big_quiet_want; (go_big_quiet_op; ((refine ⟨_, fun _ _ => rfl, ?_⟩); go_big_quiet_on))); (refine wpQuiet_nil ?_)
  refine wpAnyH_1 21 ?_
  rotate_left 1
  all_goals
    refine wpOp_of_listL rfl ?_
    ((refine wpList_step (fun K hK => ?_)); go_simp; ((refine hK _ _ ?_); clear hK K))
    refine wpList_done (qk_intro ?_)
    replace hC : (Own [] w [⟨n25, mnsC, 3⟩, ⟨n24, dysC, 3⟩, ⟨n23, tmC, 9⟩, ⟨n22, dyC, 9⟩] [] []) _ := hO.cls
    refine ⟨hC, ?_⟩
  refine wpAnyH_1 22 ?_
  rotate_left 1
  all_goals
    refine wpOp_of_listL rfl ?_
    ((refine wpList_step (fun K hK => ?_)); go_simp; ((refine hK _ _ ?_); clear hK K))
    refine wpList_done (qk_intro ?_)
    replace hC : (Own [] w [⟨n25, mnsC, 3⟩, ⟨n24, dysC, 3⟩, ⟨n23, tmC, 9⟩, ⟨n22, dyC, 9⟩] [] []) _ := hO.cls
    refine ⟨hC, ?_⟩
  refine wpAnyH_done (by kernel_rfl) ?_ _
  rotate_left
  all_goals clear hC
  all_goals go_upto_region 11 with (fail)
  all_goals replace hO := hO.sub (X' := [⟨n25, mnsC, 3⟩, ⟨n24, dysC, 3⟩, ⟨n23, tmC, 9⟩, ⟨n22, dyC, 9⟩]) (.cons _ (.refl _)) (.refl _) (fun _ h => h)
  obtain ⟨a1, c1, rfl, -⟩ := f1.view
  obtain ⟨a2, c2, rfl, -⟩ := f2.view
  obtain ⟨a3, c3, rfl, -⟩ := f3.view
  obtain ⟨a4, c4, rfl, -⟩ := f4.view
  refine wp_region_held (S := (Own [] w [⟨n25, mnsC, 3⟩, ⟨n24, dysC, 3⟩, ⟨n23, tmC, 9⟩, ⟨n22, dyC, 9⟩] [] [])) (by kernel_rfl) ?_
  replace hO := hO.drew
  have hC : (Own [] w [⟨n25, mnsC, 3⟩, ⟨n24, dysC, 3⟩, ⟨n23, tmC, 9⟩, ⟨n22, dyC, 9⟩] [] []) _ := hO.cls
  refine wpAnyH_tk 0 hC ?_
  (go_big_quiet_want; (go_big_quiet_op; (go_big_quiet_on))); (refine wpQuiet_nil ?_)
  refine wpAnyH_tk 2 hC ?_
  (go_big_quiet_want; (go_big_quiet_op; (go_big_quiet_on))); (refine wpQuiet_nil ?_)
  refine wpAnyH_tk 3 hC ?_
  (go_big_quiet_want; (go_big_quiet_op; (go_big_quiet_on))); (refine wpQuiet_nil ?_)
  refine wpAnyH_tk 4 hC ?_
  (go_big_quiet_want; (go_big_quiet_op; ((refine ⟨_, fun _ _ => rfl, ?_⟩); go_big_quiet_on))); (refine wpQuiet_nil ?_)
  refine wpAnyH_tk 5 hC ?_
  (go_big_quiet_want; ((with_reducible refine is_loadQ ?_); (refine q_ldV (h := ?_)); (try simp only [Act.put]); (try simp only [List.setIfInBounds_toArray, List.set_cons_zero, List.set_cons_succ]); go_big_quiet_on)); (refine wpQuiet_nil ?_)
  refine wpAnyH_tk 6 hC ?_
  (go_big_quiet_want; (go_big_quiet_op; (go_big_quiet_on))); (refine wpQuiet_nil ?_)
  refine wpAnyH_tk 7 hC ?_
  (go_big_quiet_want; (go_big_quiet_op; (go_big_quiet_on))); (refine wpQuiet_nil ?_)
  refine wpAnyH_tk 8 hC ?_
  (go_big_quiet_want; (go_big_quiet_op; ((refine ⟨_, fun _ _ => rfl, ?_⟩); go_big_quiet_on))); (refine wpQuiet_nil ?_)
  refine wpAnyH_tk 9 hC ?_
  (go_big_quiet_want; ((with_reducible refine is_loadQ ?_); (refine q_ldV (h := ?_)); (try simp only [Act.put]); (try simp only [List.setIfInBounds_toArray, List.set_cons_zero, List.set_cons_succ]); go_big_quiet_on)); (refine wpQuiet_nil ?_)
  refine wpAnyH_tk 10 hC ?_
  (go_big_quiet_want; (go_big_quiet_op; ((refine ⟨_, fun _ _ => rfl, ?_⟩); go_big_quiet_on))); (refine wpQuiet_nil ?_)
  refine wpAnyH_tk 11 hC ?_
  (go_big_quiet_want; (go_big_quiet_op; ((refine ⟨_, fun _ _ => rfl, ?_⟩); go_big_quiet_on))); (refine wpQuiet_nil ?_)
  refine wpAnyH_1 1 ?_
  rotate_left 1
  all_goals
    refine wpOp_of_listL rfl ?_
    ((refine wpList_step (fun K hK => ?_)); go_simp; ((go_at_call 25; (with_reducible refine (hS _ _ (hO.isC f1 z1 (by intro q hq; repeat (first | exact List.mem_append_left _ hq | apply List.mem_append_right)))).mono ?_); rintro e wv ⟨rfl, hb⟩; replace hO := hO.call hb; clear hb); (try simp only []); (refine hK _ _ ?_); clear hK K))
    refine wpList_done (qk_intro ?_)
    replace hC : (Own [] w [⟨n25, mnsC, 3⟩, ⟨n24, dysC, 3⟩, ⟨n23, tmC, 9⟩, ⟨n22, dyC, 9⟩] [] []) _ := hO.cls
    refine ⟨hC, ?_⟩
  refine wpAnyH_tk 12 hC ?_
  (go_big_quiet_want; (go_big_quiet_op; ((refine ⟨_, fun _ _ => rfl, ?_⟩); go_big_quiet_on))); (refine wpQuiet_nil ?_)
  refine wpAnyH_tk 13 hC ?_
  (go_big_quiet_want; (go_big_quiet_op; (go_big_quiet_on))); (refine wpQuiet_nil ?_)
  refine wpAnyH_tk 14 hC ?_
  (go_big_quiet_want; (go_big_quiet_op; (go_big_quiet_on))); (refine wpQuiet_nil ?_)
  refine wpAnyH_tk 15 hC ?_
  (go_big_quiet_want; (go_big_quiet_op; (go_big_quiet_on))); (refine wpQuiet_nil ?_)
  refine wpAnyH_tk 17 hC ?_
  (go_big_quiet_want; (go_big_quiet_op; (go_big_quiet_on))); (refine wpQuiet_nil ?_)
  refine wpAnyH_1 16 ?_
  rotate_left 1
  all_goals
    refine wpOp_of_listL rfl ?_
    ((refine wpList_step (fun K hK => ?_)); go_simp; ((go_at_call 20; (with_reducible refine (hU _ _ _ (hO.isC f1 z1 (by intro q hq; repeat (first | exact List.mem_append_left _ hq | apply List.mem_append_right))) (hO.isC f2 z2 (by intro q hq; repeat (first | exact List.mem_append_left _ hq | apply List.mem_append_right)))).mono ?_); rintro e wv ⟨v5, rfl, ⟨hv9, hn9⟩, hb9⟩; have f5 := isCells_form hv9; replace hO := hO.gainC hb9 hv9 hn9; clear hb9 hv9 hn9; obtain ⟨a5, c5, rfl, -⟩ := f5.view); (try simp only []); (refine hK _ _ ?_); clear hK K))
    refine wpList_done (qk_intro ?_)
    replace hC : (Own [] w [⟨n25, mnsC, 3⟩, ⟨n24, dysC, 3⟩, ⟨n23, tmC, 9⟩, ⟨n22, dyC, 9⟩] [] []) _ := hO.cls
    refine ⟨hC, ?_⟩
  refine wpAnyH_1 18 ?_
  rotate_left 1
  all_goals
    refine wpOp_of_listL rfl ?_
    ((refine wpList_step (fun K hK => ?_)); go_simp; ((go_at_call 24; (with_reducible refine (hE _ _ _ (hO.isC f5 z3 (by intro q hq; repeat (exact List.mem_append_left _ hq))) (hO.isC f3 z3 (by intro q hq; repeat (first | exact List.mem_append_left _ hq | apply List.mem_append_right)))).mono ?_); rintro e wv ⟨rfl, hb9⟩; replace hO := hO.call hb9; clear hb9); (try simp only []); (refine hK _ _ ?_); clear hK K))
    refine wpList_done (qk_intro ?_)
    replace hC : (Own [] w [⟨n25, mnsC, 3⟩, ⟨n24, dysC, 3⟩, ⟨n23, tmC, 9⟩, ⟨n22, dyC, 9⟩] [] []) _ := hO.cls
    refine ⟨hC, ?_⟩
  refine wpAnyH_tk 19 hC ?_
  (go_big_quiet_want; (go_big_quiet_op; ((refine ⟨_, fun _ _ => rfl, ?_⟩); go_big_quiet_on))); (refine wpQuiet_nil ?_)
  refine wpAnyH_tk 20 hC ?_
  (go_big_quiet_want; (go_big_quiet_op; (go_big_quiet_on))); (refine wpQuiet_nil ?_)
  refine wpAnyH_tk 21 hC ?_
  (go_big_quiet_want; (go_big_quiet_op; (go_big_quiet_on))); (refine wpQuiet_nil ?_)
  refine wpAnyH_tk 22 hC ?_
  (go_big_quiet_want; (go_big_quiet_op; (go_big_quiet_on))); (refine wpQuiet_nil ?_)
  refine wpAnyH_1 23 ?_
  rotate_left 1
  all_goals
    refine wpOp_of_listL rfl ?_
    ((refine wpList_step (fun K hK => ?_)); go_simp; ((go_at_call 24; (with_reducible refine (hE _ _ _ (hO.isC f3 z3 (by intro q hq; repeat (first | exact List.mem_append_left _ hq | apply List.mem_append_right))) (hO.isC f4 z3 (by intro q hq; repeat (first | exact List.mem_append_left _ hq | apply List.mem_append_right)))).mono ?_); rintro e wv ⟨rfl, hb9⟩; replace hO := hO.call hb9; clear hb9); (try simp only []); (refine hK _ _ ?_); clear hK K))
    refine wpList_done (qk_intro ?_)
    replace hC : (Own [] w [⟨n25, mnsC, 3⟩, ⟨n24, dysC, 3⟩, ⟨n23, tmC, 9⟩, ⟨n22, dyC, 9⟩] [] []) _ := hO.cls
    refine ⟨hC, ?_⟩
  refine wpAnyH_tk 24 hC ?_
  (go_big_quiet_want; (go_big_quiet_op; ((refine ⟨_, fun _ _ => rfl, ?_⟩); go_big_quiet_on))); (refine wpQuiet_nil ?_)
  refine wpAnyH_tk 25 hC ?_
  (go_big_quiet_want; (go_big_quiet_op; (go_big_quiet_on))); (refine wpQuiet_nil ?_)
  refine wpAnyH_1 26 ?_
  rotate_left 1
  all_goals
    refine wpOp_of_listL rfl ?_
    ((refine wpList_step (fun K hK => ?_)); go_simp; ((go_at_call 16; (with_reducible refine (hsn _ (hO.nms hN (by simp))).mono ?_); rintro e wv ⟨rfl, hb⟩; replace hO := hO.call hb; clear hb); (try simp only []); (refine hK _ _ ?_); clear hK K))
    refine wpList_done (qk_intro ?_)
    replace hC : (Own [] w [⟨n25, mnsC, 3⟩, ⟨n24, dysC, 3⟩, ⟨n23, tmC, 9⟩, ⟨n22, dyC, 9⟩] [] []) _ := hO.cls
    refine ⟨hC, ?_⟩
  refine wpAnyH_tk 27 hC ?_
  (go_big_quiet_want; (go_big_quiet_op; ((refine ⟨_, fun _ _ => rfl, ?_⟩); go_big_quiet_on))); (refine wpQuiet_nil ?_)
  refine wpAnyH_1 28 ?_
  rotate_left 1
  all_goals
    refine wpOp_of_listL rfl ?_
    ((refine wpList_step (fun K hK => ?_)); go_simp; ((refine hK _ _ ?_); clear hK K))
    refine wpList_done (qk_intro ?_)
    replace hC : (Own [] w [⟨n25, mnsC, 3⟩, ⟨n24, dysC, 3⟩, ⟨n23, tmC, 9⟩, ⟨n22, dyC, 9⟩] [] []) _ := hO.cls
    refine ⟨hC, ?_⟩
  refine wpAnyH_done (by kernel_rfl) ?_ _
  rotate_left
  all_goals clear hC
  all_goals go_wp2_with fail
  all_goals
    go_ret
    exact ⟨rfl, hO.keep.below⟩
end Go.Proofs.YtfhkmkbfgmbbaaaDoor
