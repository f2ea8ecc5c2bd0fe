/- CalendarMoments: the walk. -/
import Derived.Test.YtfhkmkbfgmbbaaaDoorMQ
import Derived.Test.YtfhkmkbfgmbbaaaDoorMJ
import Derived.Test.YtfhkmkbfgmbbaaaDoorMI
import Derived.Test.YtfhkmkbfgmbbaaaDoorMO
import Derived.Test.YtfhkmkbfgmbbaaaDoorMB
namespace Go.Proofs.YtfhkmkbfgmbbaaaDoor
open Go.RowKit
set_option maxRecDepth 100000
theorem momI_len (m : Int) : (momI m).length ≤ 9 := by
  unfold momI
  split
  · unfold momT
    rw [List.length_append, List.length_cons, timeT_len]
    have := (dayT_bare (m.toNat / 1440) (by omega)).2.2
    omega
  · simp
def sunX : Bs := [115, 117, 110, 32, 50, 52, 58, 48, 48]
def monX : Bs := [109, 111, 110, 32, 48, 48, 58, 48, 48]
set_option maxHeartbeats 16000000 in
theorem mom_law {sl : Value} {zs : List Int} (s : Bs) (minute : Int) (hs : s.length ≤ 9223372036854775807) (w : World) (hN : Nms w) (hZ : ZsOk sl zs) (hr : ∀ s ∈ roS sl (ints zs), w.rangeAt s.g s.o s.xs) :
    Calls Tryd.prog 3 #[sl, .string ⟨s.toArray⟩, .int .i64 minute] w fun e w' => e = .returned (.bool true) ∧ Below w.heap.size w w' := by
  have hO := own_law hr
  clear hr
  obtain ⟨sa, sc, rfl, -⟩ := hZ.view
  have hmod := fun w => mod_is minute 10080 w (by omega) (by omega)
  generalize modI minute 10080 = n2 at *
  have hsn := fun w h => sane9_any w h
  go_enter Tryd.func3, Tryd.ntmps3
  go_upto_region 3 with (first | (go_at_call 8; (with_reducible refine (new_any _ _ _).mono ?_); rintro e wv ⟨n, rfl, hB, hn, hb⟩; replace hO := hO.gain hb hB hn; have hT := hO.tapeIn List.mem_cons_self (fun _ h => h) (Nat.zero_le _); clear hb hB hn) | (go_at_call 10; (with_reducible refine (minute_any hZ (hO.tapeIn List.mem_cons_self (fun _ h => h) hT.le)).mono ?_); rintro e wv ⟨v, i4, rfl, ⟨m0, rfl, m1, m2⟩, hk9, hT1⟩; replace hO := hO.after (by (repeat (exact Upd.here))) hk9 hT1.blk; replace hT := hT1; clear hT1 hk9) | (go_at_call 9; (with_reducible refine (rmoment_any _ _).mono ?_); rintro e wv ⟨rfl, hb⟩; replace hO := hO.call hb; clear hb))
  have hx := momI_len m0
  generalize momI m0 = x at *
  go_upto_region 4 with (first | ((fail_if_success (have := y1)); (go_at_call 11; (with_reducible refine (text_any hZ (hO.tapeIn List.mem_cons_self (fun _ h => h) hT.le) x (by omega)).mono ?_); rintro e wv ⟨v, i5, rfl, ⟨y1, rfl, hy1⟩, hk9, hT1⟩; replace hO := hO.after (by (repeat (exact Upd.here))) hk9 hT1.blk; replace hT := hT1; clear hT1 hk9)) | ((fail_if_success (have := y2)); (go_at_call 11; (with_reducible refine (text_any hZ (hO.tapeIn List.mem_cons_self (fun _ h => h) hT.le) x (by omega)).mono ?_); rintro e wv ⟨v, i6, rfl, ⟨y2, rfl, hy2⟩, hk9, hT1⟩; replace hO := hO.after (by (repeat (exact Upd.here))) hk9 hT1.blk; replace hT := hT1; clear hT1 hk9)) | ((fail_if_success (have := y3)); (go_at_call 11; (with_reducible refine (text_any hZ (hO.tapeIn List.mem_cons_self (fun _ h => h) hT.le) y2 (by omega)).mono ?_); rintro e wv ⟨v, i7, rfl, ⟨y3, rfl, hy3⟩, hk9, hT1⟩; replace hO := hO.after (by (repeat (exact Upd.here))) hk9 hT1.blk; replace hT := hT1; clear hT1 hk9)) | ((with_reducible refine is_build ?_); (refine' own_buildP (o := ⟨some 30, _, _, _, _, _⟩) [.string ⟨s.toArray⟩, .string ⟨x.toArray⟩, .string ⟨y1.toArray⟩, .string ⟨y3.toArray⟩, .string ⟨#[115, 117, 110, 32, 50, 52, 58, 48, 48]⟩, .string ⟨#[109, 111, 110, 32, 48, 48, 58, 48, 48]⟩] hO (by rfl) rfl slice_strings rfl rfl (by rfl) (by decide) (by decide) ?_); clear hO; intro n30 wv hO))
  have hz : ∀ z ∈ [s, x, y1, y3, sunX, monX], z.length ≤ 9223372036854775807 := by
    have a1 : sunX.length = 9 := rfl
    have a2 : monX.length = 9 := rfl
    intro z h
    simp only [List.mem_cons, List.not_mem_nil, or_false] at h
    rcases h with rfl | rfl | rfl | rfl | rfl | rfl <;> omega
  replace hO := (hO.sub (X' := [⟨n30, scs [s, x, y1, y3, sunX, monX], 9⟩]) (.cons_cons _ (.cons _ .slnil)) (.refl _) (fun _ h => h)).chunkRoX
  have hLl : [s, x, y1, y3, sunX, monX].length = 6 := rfl
  generalize [s, x, y1, y3, sunX, monX] = L at *
  clear hx hy1 hy2 hy3 m1 m2 hs hT
  go_wp2_with fail
  go_loopw [10] (fun q wr => ∃ i : Nat, i ≤ 6 ∧ q = .int .i64 i ∧ Own [] w [] [] (⟨n30, 0, scs L⟩ :: roS (.slice sa zs.length sc) (ints zs)) wr) (fun q _ => 6 - (intOf q).toNat)
  case atStart => exact ⟨0, by omega, rfl, hO⟩
  case round =>
    clear hO
    obtain ⟨i, hi, rfl, hO⟩ := hrel
    have s4 : IntKind.i64.wrap ((i : Int) + 1) = (i : Int) + 1 := IntWalk.i64_in _ (by omega)
    by_cases hlt : i < 6
    · have g1 : decide ((i : Int) < 6) = true := decide_eq_true (by omega)
      have hli : i < L.length := by omega
      have u1 := scs_at hli
      have q3 := hO.ro ⟨n30, 0, scs L⟩ List.mem_cons_self i _ u1
      dsimp only at q3
      rw [Nat.zero_add] at q3
      have hzl := hz _ (List.getElem_mem hli)
      generalize L[i] = z at *
      have hp1 := fun w h => parseMoment_any z w hzl h
      have hp2 := fun w => rparseMoment_any z w hzl
      generalize (momR z).getD 0 = V at *
      generalize (momR z).isSome = b at *
      have e1 : (V != V) = false := by simp
      have e2 : (b != b) = false := by simp
      have e3 : (V == V) = true := by simp
      have e4 : (b == b) = true := by simp
      go_wp2_with (first | ((with_reducible refine is_load ?_); (refine own_ldV (h := ?_))) | (go_at_call 12; (with_reducible refine (hp1 _ (hO.nms hN (by simp))).mono ?_); rintro e wv ⟨rfl, hb⟩; replace hO := hO.call hb; clear hb) | (go_at_call 13; (with_reducible refine (hp2 _).mono ?_); rintro e wv ⟨rfl, hb⟩; replace hO := hO.call hb; clear hb))
      go_roundw
      case rel => exact ⟨i + 1, by omega, by go_num, hO⟩
      case measure => simp [intOf]; omega
    · have g1 : decide ((i : Int) < 6) = false := decide_eq_false (by omega)
      have hm1 := fun w h => moment_any minute w h
      have hm2 := fun w => rmoment_any minute w
      have hm3 := fun w h => moment_any n2 w h
      have hm4 := fun w => rmoment_any n2 w
      generalize momI minute = a1 at *
      generalize momI n2 = a2 at *
      go_wp2_with (first | (go_at_call 14; (with_reducible refine (hm1 _ (hO.nms hN (by simp))).mono ?_); rintro e wv ⟨rfl, hb⟩; replace hO := hO.call hb; clear hb) | (go_at_call 14; (with_reducible refine (hm3 _ (hO.nms hN (by simp))).mono ?_); rintro e wv ⟨rfl, hb⟩; replace hO := hO.call hb; clear hb) | (go_at_call 9; (with_reducible refine (hm2 _).mono ?_); rintro e wv ⟨rfl, hb⟩; replace hO := hO.call hb; clear hb) | (go_at_call 9; (with_reducible refine (hm4 _).mono ?_); rintro e wv ⟨rfl, hb⟩; replace hO := hO.call hb; clear hb) | (go_at_call 15; (with_reducible refine (hmod _).mono ?_); rintro e _ ⟨rfl, rfl⟩) | (go_at_call 16; (with_reducible refine (hsn _ (hO.nms hN (by simp))).mono ?_); rintro e wv ⟨rfl, hb⟩; replace hO := hO.call hb; clear hb))
      go_ret
      exact ⟨rfl, hO.keep.below⟩
end Go.Proofs.YtfhkmkbfgmbbaaaDoor
