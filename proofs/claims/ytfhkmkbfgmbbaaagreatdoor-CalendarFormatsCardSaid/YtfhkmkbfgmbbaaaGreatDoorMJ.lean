/- The calendar's example: plain. -/
import Derived.Lib.LaidTab
import Derived.SliceStrings
import Derived.ChangeMaps5
import Derived.Test.YtfhkmkbfgmbbaaaGreatDoorMG
import Derived.Test.YtfhkmkbfgmbbaaaGreatDoorMI
import Derived.Test.YtfhkmkbfgmbbaaaGreatDoorMB
import Derived.Test.YtfhkmkbfgmbbaaaGreatDoorMC
namespace Go.Proofs.YtfhkmkbfgmbbaaaGreatDoor
/-- mon-fri 08:00-17:00 , sat 09:00-12:00 -/
def exW : List Bs := [[109, 111, 110, 45, 102, 114, 105], [48, 56, 58, 48, 48, 45, 49, 55, 58, 48, 48], [44], [115, 97, 116], [48, 57, 58, 48, 48, 45, 49, 50, 58, 48, 48]]
def exL : List Rg := [⟨480, 1019⟩, ⟨1920, 2459⟩, ⟨3360, 3899⟩, ⟨4800, 5339⟩, ⟨6240, 6779⟩, ⟨7740, 7919⟩]
theorem ex_items : itemsF exW = some (exL, 2) := by decide +kernel
theorem ex_can : canU exL = exL := by decide +kernel
theorem ex_parse : parsF 16 exW = .is exL := by
  unfold parsF
  rw [if_neg (by decide), ex_items]
  dsimp only
  rw [ex_can, if_neg (by decide)]
/-- tue 00:01 -/
def exM : Bs := [116, 117, 101, 32, 48, 48, 58, 48, 49]
theorem ex_mom : momR exM = some 1441 := by decide +kernel
theorem ex_txt : momT 1441 = exM := by decide +kernel
theorem ex_mem : memB exL 480 = true := by decide +kernel
theorem ex_len : (fmtF exL).length = 17 := by decide +kernel
theorem ex_win : wokR 10079 exL exL.length := can_wok ⟨by decide, by decide⟩ (by decide)
end Go.Proofs.YtfhkmkbfgmbbaaaGreatDoor

/- The calendar's sanity check. -/
namespace Go.Proofs.YtfhkmkbfgmbbaaaGreatDoor
open Go.RowKit
set_option maxRecDepth 100000
theorem exL_bnd : BndR exL := by decide
theorem ex_fmt : winB 10079 exL = true := winB_iff.2 ex_win
theorem head_cells {M : List Nat} {w0 w : World} {X : List Chunk} {R : List Row} {S : List Ro} {g o k c : Nat} {xs : List Value} (hO : Own M w0 X R (⟨g, o, xs⟩ :: S) w) (hc : k ≤ c) : IsCells w (.slice (some ⟨g, o, none⟩) k c) k xs := .inr ⟨g, o, c, rfl, hc, hO.ro ⟨g, o, xs⟩ List.mem_cons_self⟩
theorem formC_cap {g o n c : Nat} (h : FormC (.slice (some ⟨g, o, none⟩) n c) n) : n ≤ c := by
  rcases h with ⟨h, _⟩ | ⟨g', o', c', h, h2⟩
  · cases h
  · cases h; exact h2
set_option maxHeartbeats 8000000 in
theorem sane9_any (w : World) (hN : Nms w) : Calls Tryz.prog 16 #[] w fun e w' => e = .returned (.bool true) ∧ Below w.heap.size w w' := by
  have hO := own_nms hN
  have hP : ∀ n w, Nms w → IsCells w (.slice (some ⟨n, 0, none⟩) 5 5) 5 [.string ⟨#[109, 111, 110, 45, 102, 114, 105]⟩, .string ⟨#[48, 56, 58, 48, 48, 45, 49, 55, 58, 48, 48]⟩, .string ⟨#[44]⟩, .string ⟨#[115, 97, 116]⟩, .string ⟨#[48, 57, 58, 48, 48, 45, 49, 50, 58, 48, 48]⟩] → Calls Tryz.prog 32 #[.slice (some ⟨n, 0, none⟩) 5 5] w fun e w' => ∃ v, e = .returned (.tuple #[v, .int .i64 0]) ∧ (IsCells w' v 6 (rcs exL) ∧ NewFrom w v) ∧ Below w.heap.size w w' := fun n w h hc => by
    have h2 := parse_any (ws := exW) w hc (by decide) (by decide) h
    rw [ex_parse] at h2
    exact h2
  have hM : ∀ w, Nms w → Calls Tryz.prog 33 #[.string ⟨#[116, 117, 101, 32, 48, 48, 58, 48, 49]⟩] w fun e w' => e = .returned (.tuple #[.int .i64 1441, .bool true]) ∧ Below w.heap.size w w' := fun w h => by
    have h2 := parseMoment_any exM w (by decide) h
    rw [ex_mom] at h2
    exact h2
  have hT : ∀ w, Nms w → Calls Tryz.prog 34 #[.int .i64 1441] w fun e w' => e = .returned (.string ⟨#[116, 117, 101, 32, 48, 48, 58, 48, 49]⟩) ∧ Below w.heap.size w w' := fun w h => by
    have h2 := moment_any 1441 w h
    rw [show momI 1441 = exM from by unfold momI; rw [if_pos (by decide)]; exact ex_txt] at h2
    exact h2
  have hA : ∀ v w, IsCells w v 6 (rcs exL) → Calls Tryz.prog 11 #[v, .int .i64 480] w fun e w' => e = .returned (.bool true) ∧ Below w.heap.size w w' := fun v w h => by
    have h2 := active9_any (l := exL) 480 w h (by decide) exL_bnd
    rw [ex_mem] at h2
    exact h2
  have hF : ∀ v w, Nms w → IsCells w v 6 (rcs exL) → Calls Tryz.prog 9 #[v] w fun e w' => ∃ v, e = .returned v ∧ (IsCells w' v 17 (scs (fmtF exL)) ∧ NewFrom w v) ∧ Below w.heap.size w w' := fun v w hn h => by
    have h2 := format_any (l := exL) w h (by decide) exL_bnd hn
    rw [ex_fmt, if_pos rfl] at h2
    unfold RetTexts IsTexts at h2
    rw [ex_len] at h2
    exact h2
  go_enter Tryz.func16, Tryz.ntmps16
  go_upto_region 3 with (first | ((with_reducible refine is_build ?_); (refine' own_buildP (o := ⟨some 6, _, _, _, _, _⟩) [.string ⟨#[109, 111, 110, 45, 102, 114, 105]⟩, .string ⟨#[48, 56, 58, 48, 48, 45, 49, 55, 58, 48, 48]⟩, .string ⟨#[44]⟩, .string ⟨#[115, 97, 116]⟩, .string ⟨#[48, 57, 58, 48, 48, 45, 49, 50, 58, 48, 48]⟩] hO (by rfl) rfl slice_strings rfl rfl (by rfl) (by decide) (by decide) ?_); clear hO; intro n6 wv hO) | (go_at_call 32; (with_reducible refine (hP _ _ (hO.nms hN (by simp)) (lit_cells (own_chunkAt hO List.mem_cons_self))).mono ?_); rintro e wv ⟨v9, rfl, ⟨hv9, hn9⟩, hb9⟩; have hf9 := isCells_form hv9; replace hO := hO.gainC hb9 hv9 hn9; clear hb9 hv9 hn9 hP; obtain ⟨a9, c9, rfl, ha9⟩ := hf9.view; obtain ⟨g9, o9, rfl⟩ := ha9 (by omega); clear ha9; simp only [roS, List.cons_append, List.nil_append] at hO) | (go_at_call 33; (with_reducible refine (hM _ (hO.nms hN (by simp))).mono ?_); rintro e wv ⟨rfl, hb⟩; replace hO := hO.call hb; clear hb))
  have hc9 := formC_cap hf9
  have q1 := hO.ro ⟨g9, o9, rcs exL⟩ List.mem_cons_self 0 (.int .u32 480) rfl
  have q2 := hO.ro ⟨g9, o9, rcs exL⟩ List.mem_cons_self 1 (.int .u32 1019) rfl
  simp only [Nat.add_zero] at q1
  go_wp2_with (first | (go_at_call 34; (with_reducible refine (hT _ (hO.nms hN (by simp))).mono ?_); rintro e wv ⟨rfl, hb⟩; replace hO := hO.call hb; clear hb) | (go_at_call 11; (with_reducible refine (hA _ _ (head_cells hO hc9)).mono ?_); rintro e wv ⟨rfl, hb⟩; replace hO := hO.call hb; clear hb) | (go_at_call 9; (with_reducible refine (hF _ _ (hO.nms hN (by simp)) (head_cells hO hc9)).mono ?_); rintro e wv ⟨v8, rfl, ⟨hv8, hn8⟩, hb9⟩; have hf8 := isCells_form hv8; replace hO := hO.call hb9; clear hb9 hv8 hn8; obtain ⟨a8, c8, rfl, -⟩ := hf8.view))
  go_ret
  exact ⟨rfl, hO.keep.below⟩
end Go.Proofs.YtfhkmkbfgmbbaaaGreatDoor

/- The listed names of the days; strings as arguments. -/
namespace Go.Proofs.YtfhkmkbfgmbbaaaGreatDoor
open Go.ChangeShapes Go.WideShapes Go.ChangeAt Go.RowKit
set_option maxRecDepth 100000
theorem str_back (s : ByteArray) : s = ⟨s.data.toList.toArray⟩ := by cases s; simp
theorem cells_of_strs {H : Type} {enc : TypeId × Value → H} {P : Program} {w : World} {base : Nat} {sp : Nat → Bool} {held : Bool} {fuel : Nat} {t e : TypeId} {n : Nat} {cs : List Value} {zs : List Bs} {p : List MemPlace}
    (ht : P.underlying t = some (.array n e)) (he : P.underlying e = some .string) (hce : P.cellsOf e = 1) (hct : P.cellsOf t = n)
    (h : DataW.trod enc P w base sp held fuel t cs = some (.agg (zs.map fun z => .lit (.string z)), p)) : cs = scs zs := by
  cases fuel with
  | zero => simp [DataW.trod] at h
  | succ fuel =>
    simp only [DataW.trod, ht, hce, hct, Nat.mul_one] at h
    split at h
    · rename_i hl
      obtain ⟨xs, hm, hx⟩ := Option.map_eq_some_iff.1 h
      have hxs : xs.map (·.1) = zs.map fun z => (DataW.lit (.string z) : DataW H) := by
        have := congrArg Prod.fst hx
        simpa using this
      have hxl : xs.length = n := by simpa using Lib.mapM_length hm
      have hzl : zs.length = n := by
        have := congrArg List.length hxs
        simp at this
        omega
      apply List.ext_getElem?
      intro i
      by_cases hi : i < n
      · obtain ⟨b, hb, hf⟩ := Lib.mapM_at hm i i (by simp [hi])
        obtain ⟨z, hc, rfl, _⟩ := DataW.trod_string he hf
        have h1 : cs[i]? = some (.string z) := by
          have := congrArg (·[0]?) hc
          simpa [List.getElem?_take, List.getElem?_drop] using this
        have h2 : (xs.map (·.1))[i]? = some (DataW.lit (.string z.data.toList) : DataW H) := by simp [hb]
        rw [hxs] at h2
        simp only [List.getElem?_map, Option.map_eq_some_iff, DataW.lit.injEq, Lit.string.injEq] at h2
        obtain ⟨z', hz', rfl⟩ := h2
        rw [h1, scs, List.getElem?_map, hz', Option.map_some, ← str_back]
      · rw [List.getElem?_eq_none (by omega), List.getElem?_eq_none (by rw [scs_len]; omega)]
    · cases h
theorem nms_of {W : World} (h : laidMetH Tryz.prog [("netsegment/calendar.names", Rows.laid_netsegment_calendar_names)] W) : Nms W := by
  have h' : laidMet Tryz.prog [("netsegment/calendar.names", Rows.laid_netsegment_calendar_names)] W := h
  obtain ⟨ps, ⟨g', t', cs, fuel, p, q, hg', ht', hvar, hd, _, _⟩, _⟩ := h'
  obtain rfl := Option.some.inj ((show (Tryz.prog).globalNamed "netsegment/calendar.names" = some 0 by kernel_rfl).symm.trans hg')
  obtain rfl := Option.some.inj ((show ((Tryz.prog).globals[0]?).map (·.type) = some 49 by kernel_rfl).symm.trans ht')
  have hc := cells_of_strs (zs := dayL) Tryz.underlying49 Tryz.underlying9 (by kernel_rfl) (by kernel_rfl) hd
  intro k hk
  have h2 := World.var?_cell (show (Tryz.prog).globalNamed "netsegment/calendar.names" = some 0 by kernel_rfl) hvar k
  rw [h2]
  have h3 : cs.toList = scs dayL := hc
  rw [← Array.getElem?_toList, h3]
  exact scs_at hk
end Go.Proofs.YtfhkmkbfgmbbaaaGreatDoor
