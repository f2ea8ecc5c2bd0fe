/- Words that are mostly a window; both programs' Parse at a list of words. -/
import Derived.Test.YtfhkmkbfgmbbaaaDoorMN
import Derived.Test.YtfhkmkbfgmbbaaaDoorMJ
import Derived.Test.YtfhkmkbfgmbbaaaDoorMQ
import Derived.Test.YtfhkmkbfgmbbaaaDoorMB
namespace Go.Proofs.YtfhkmkbfgmbbaaaDoor
open Go.RowKit
set_option maxRecDepth 100000
def dywC : List Value := [.string ⟨#[109, 111, 110]⟩, .string ⟨#[116, 117, 101]⟩, .string ⟨#[119, 101, 100, 45, 116, 104, 117]⟩, .string ⟨#[109, 111, 110, 45, 115, 117, 110]⟩, .string ⟨#[115, 117, 110, 45, 115, 117, 110]⟩, .string ⟨#[102, 114, 105, 45, 109, 111, 110]⟩, .string ⟨#[100, 97, 121]⟩, .string ⟨#[109, 111, 110, 45]⟩, .string ⟨#[109, 111, 110, 45, 116, 117, 101, 45, 119, 101, 100]⟩]
theorem dyw_cell {a : Nat} (h : a < 9) : ∃ x : Bs, dywC[a]? = some (.string ⟨x.toArray⟩) ∧ x.length ≤ 11 := by
  rcases (show a = 0 ∨ a = 1 ∨ a = 2 ∨ a = 3 ∨ a = 4 ∨ a = 5 ∨ a = 6 ∨ a = 7 ∨ a = 8 by omega) with rfl | rfl | rfl | rfl | rfl | rfl | rfl | rfl | rfl
  · exact ⟨[109, 111, 110], rfl, by decide⟩
  · exact ⟨[116, 117, 101], rfl, by decide⟩
  · exact ⟨[119, 101, 100, 45, 116, 104, 117], rfl, by decide⟩
  · exact ⟨[109, 111, 110, 45, 115, 117, 110], rfl, by decide⟩
  · exact ⟨[115, 117, 110, 45, 115, 117, 110], rfl, by decide⟩
  · exact ⟨[102, 114, 105, 45, 109, 111, 110], rfl, by decide⟩
  · exact ⟨[100, 97, 121], rfl, by decide⟩
  · exact ⟨[109, 111, 110, 45], rfl, by decide⟩
  · exact ⟨[109, 111, 110, 45, 116, 117, 101, 45, 119, 101, 100], rfl, by decide⟩
def tmwC : List Value := [.string ⟨#[48, 48, 58, 48, 48, 45, 50, 52, 58, 48, 48]⟩, .string ⟨#[48, 56, 58, 48, 48, 45, 49, 55, 58, 48, 48]⟩, .string ⟨#[50, 51, 58, 53, 57, 45, 50, 52, 58, 48, 48]⟩, .string ⟨#[48, 57, 58, 48, 48, 45, 48, 57, 58, 48, 48]⟩, .string ⟨#[57, 58, 48, 48, 45, 49, 48, 58, 48, 48]⟩, .string ⟨#[50, 52, 58, 48, 48, 45, 50, 52, 58, 48, 48]⟩, .string ⟨#[49, 48, 58, 54, 48, 45, 49, 49, 58, 48, 48]⟩, .string ⟨#[48, 56, 58, 48, 48]⟩, .string ⟨#[49, 55, 58, 48, 48, 45, 48, 56, 58, 48, 48]⟩]
theorem tmw_cell {a : Nat} (h : a < 9) : ∃ x : Bs, tmwC[a]? = some (.string ⟨x.toArray⟩) ∧ x.length ≤ 11 := by
  rcases (show a = 0 ∨ a = 1 ∨ a = 2 ∨ a = 3 ∨ a = 4 ∨ a = 5 ∨ a = 6 ∨ a = 7 ∨ a = 8 by omega) with rfl | rfl | rfl | rfl | rfl | rfl | rfl | rfl | rfl
  · exact ⟨[48, 48, 58, 48, 48, 45, 50, 52, 58, 48, 48], rfl, by decide⟩
  · exact ⟨[48, 56, 58, 48, 48, 45, 49, 55, 58, 48, 48], rfl, by decide⟩
  · exact ⟨[50, 51, 58, 53, 57, 45, 50, 52, 58, 48, 48], rfl, by decide⟩
  · exact ⟨[48, 57, 58, 48, 48, 45, 48, 57, 58, 48, 48], rfl, by decide⟩
  · exact ⟨[57, 58, 48, 48, 45, 49, 48, 58, 48, 48], rfl, by decide⟩
  · exact ⟨[50, 52, 58, 48, 48, 45, 50, 52, 58, 48, 48], rfl, by decide⟩
  · exact ⟨[49, 48, 58, 54, 48, 45, 49, 49, 58, 48, 48], rfl, by decide⟩
  · exact ⟨[48, 56, 58, 48, 48], rfl, by decide⟩
  · exact ⟨[49, 55, 58, 48, 48, 45, 48, 56, 58, 48, 48], rfl, by decide⟩
def cmwC : List Value := [.string ⟨#[44]⟩, .string ⟨#[44]⟩, .string ⟨#[44]⟩, .string ⟨#[59]⟩]
theorem cmw_cell {a : Nat} (h : a < 4) : ∃ x : Bs, cmwC[a]? = some (.string ⟨x.toArray⟩) ∧ x.length ≤ 11 := by
  rcases (show a = 0 ∨ a = 1 ∨ a = 2 ∨ a = 3 by omega) with rfl | rfl | rfl | rfl
  · exact ⟨[44], rfl, by decide⟩
  · exact ⟨[44], rfl, by decide⟩
  · exact ⟨[44], rfl, by decide⟩
  · exact ⟨[59], rfl, by decide⟩
def fnwC : List Value := [.string ⟨#[110, 101, 118, 101, 114]⟩, .string ⟨#[44]⟩, .string ⟨#[109, 111, 110]⟩]
theorem fnw_cell {a : Nat} (h : a < 3) : ∃ x : Bs, fnwC[a]? = some (.string ⟨x.toArray⟩) ∧ x.length ≤ 11 := by
  rcases (show a = 0 ∨ a = 1 ∨ a = 2 by omega) with rfl | rfl | rfl
  · exact ⟨[110, 101, 118, 101, 114], rfl, by decide⟩
  · exact ⟨[44], rfl, by decide⟩
  · exact ⟨[109, 111, 110], rfl, by decide⟩
theorem row_fresh {w0 w : World} {n : Nat} {cs : List Value} {t : TypeId} {X : List Chunk} {R : List Row} {S : List Ro} (hO : Own [n] w0 X R S w) (hm : (⟨n, cs, t⟩ : Chunk) ∈ X) {g k c size : Nat} {xs : List Value} {e : TypeId} (hr : (⟨.slice (some ⟨g, 0, none⟩) k c, k, xs, e, size⟩ : Row) ∈ R) : w0.heap.size ≤ g := by
  have h1 : g ∈ R.filterMap (·.v.ownBlock) := List.mem_filterMap.2 ⟨_, hr, rfl⟩
  have h2 : n ∈ X.map (·.n) := List.mem_map.2 ⟨_, hm, rfl⟩
  rcases hO.free g (List.mem_append.2 (.inr h1)) with h | h
  · obtain rfl := List.mem_singleton.1 h
    exact absurd rfl ((List.nodup_append.1 hO.nd).2.2 g h2 g h1)
  · exact h
theorem same_nil (w : World) : Calls Tryd.prog 24 #[.slice none 0 0, .slice none 0 0] w fun e w' => e = .returned (.bool true) ∧ Below w.heap.size w w' := rsameR_any _ _ [] w (.inl ⟨rfl, rfl, rfl⟩) (.inl ⟨rfl, rfl, rfl⟩) (by simp)
set_option maxHeartbeats 4000000 in
theorem parses_any {vl : Value} {ws : List Bs} (w : World) (hv : IsCells w vl ws.length (scs ws)) (hn : ws.length ≤ 1000) (hx : ∀ x ∈ ws, x.length ≤ 1000000000) (hN : Nms w) :
    Calls Tryd.prog 18 #[vl] w fun e w' => e = .returned (.bool true) ∧ Below w.heap.size w w' := by
  have f0 := isCells_form hv
  have z0 := scs_nil (ws := ws)
  have hO := own_cellsA (own_start [] w) hv
  obtain ⟨a, c, rfl, ha⟩ := formC_view f0
  clear hv ha
  have hP := fun w h hN => parse_any (vl := .slice a ws.length c) (ws := ws) w h (by omega) (fun x hx' => by have := hx x hx'; omega) hN
  have hQ := fun w h => rparse_any (vl := .slice a ws.length c) (ws := ws) w h (by omega) hx
  have hlen : ∀ l, parsF 16 ws = .is l → l.length ≤ 1000 := fun l h => (pars_win h).2.2
  clear hx
  cases hp : parsF 16 ws with
  | bad =>
    have hP2 : ∀ w, IsCells w (.slice a ws.length c) ws.length (scs ws) → Nms w → Calls Tryd.prog 23 #[.slice a ws.length c] w fun e w' => e = .returned (.tuple #[.slice none 0 0, .int .i64 4]) ∧ Below w.heap.size w w' := fun w h hN => by
      have h2 := hP w h hN
      rw [hp] at h2
      exact h2
    have hQ2 : ∀ w, IsCells w (.slice a ws.length c) ws.length (scs ws) → Calls Tryd.prog 36 #[.slice a ws.length c] w fun e w' => e = .returned (.tuple #[.slice none 0 0, .int .i64 4]) ∧ Below w.heap.size w w' := fun w h => by
      have h2 := hQ w h
      rw [hp] at h2
      exact h2
    clear hp hP hQ hlen
    go_enter Tryd.func18, Tryd.ntmps18
    go_wp2_with (first | (go_at_call 23; (with_reducible refine (hP2 _ (hO.isC f0 z0 (by intro q hq; repeat (exact List.mem_append_left _ hq))) (hO.nms hN (by simp))).mono ?_); rintro e wv ⟨rfl, hb⟩; replace hO := hO.call hb; clear hb) | (go_at_call 36; (with_reducible refine (hQ2 _ (hO.isC f0 z0 (by intro q hq; repeat (exact List.mem_append_left _ hq)))).mono ?_); rintro e wv ⟨rfl, hb⟩; replace hO := hO.call hb; clear hb) | (go_at_call 24; (with_reducible refine (same_nil _).mono ?_); rintro e wv ⟨rfl, hb⟩; replace hO := hO.call hb; clear hb))
    go_ret
    exact ⟨rfl, hO.keep.below⟩
  | much =>
    have hP2 : ∀ w, IsCells w (.slice a ws.length c) ws.length (scs ws) → Nms w → Calls Tryd.prog 23 #[.slice a ws.length c] w fun e w' => e = .returned (.tuple #[.slice none 0 0, .int .i64 3]) ∧ Below w.heap.size w w' := fun w h hN => by
      have h2 := hP w h hN
      rw [hp] at h2
      exact h2
    have hQ2 : ∀ w, IsCells w (.slice a ws.length c) ws.length (scs ws) → Calls Tryd.prog 36 #[.slice a ws.length c] w fun e w' => e = .returned (.tuple #[.slice none 0 0, .int .i64 3]) ∧ Below w.heap.size w w' := fun w h => by
      have h2 := hQ w h
      rw [hp] at h2
      exact h2
    clear hp hP hQ hlen
    go_enter Tryd.func18, Tryd.ntmps18
    go_wp2_with (first | (go_at_call 23; (with_reducible refine (hP2 _ (hO.isC f0 z0 (by intro q hq; repeat (exact List.mem_append_left _ hq))) (hO.nms hN (by simp))).mono ?_); rintro e wv ⟨rfl, hb⟩; replace hO := hO.call hb; clear hb) | (go_at_call 36; (with_reducible refine (hQ2 _ (hO.isC f0 z0 (by intro q hq; repeat (exact List.mem_append_left _ hq)))).mono ?_); rintro e wv ⟨rfl, hb⟩; replace hO := hO.call hb; clear hb) | (go_at_call 24; (with_reducible refine (same_nil _).mono ?_); rintro e wv ⟨rfl, hb⟩; replace hO := hO.call hb; clear hb))
    go_ret
    exact ⟨rfl, hO.keep.below⟩
  | is K =>
    have hP2 : ∀ w, IsCells w (.slice a ws.length c) ws.length (scs ws) → Nms w → Calls Tryd.prog 23 #[.slice a ws.length c] w fun e w' => ∃ v, e = .returned (.tuple #[v, .int .i64 0]) ∧ (IsCells w' v K.length (rcs K) ∧ NewFrom w v) ∧ Below w.heap.size w w' := fun w h hN => by
      have h2 := hP w h hN
      rw [hp] at h2
      exact h2
    have hQ2 : ∀ w, IsCells w (.slice a ws.length c) ws.length (scs ws) → Calls Tryd.prog 36 #[.slice a ws.length c] w fun e w' => ∃ v, e = .returned (.tuple #[v, .int .i64 0]) ∧ (IsCells w' v K.length (rcs K) ∧ NewFrom w v) ∧ Below w.heap.size w w' := fun w h => by
      have h2 := hQ w h
      rw [hp] at h2
      exact h2
    have hl := hlen K hp
    have z3 := rcs_nil_of K
    clear hp hP hQ hlen
    go_enter Tryd.func18, Tryd.ntmps18
    go_wp2_with (first | (go_at_call 23; (with_reducible refine (hP2 _ (hO.isC f0 z0 (by intro q hq; repeat (exact List.mem_append_left _ hq))) (hO.nms hN (by simp))).mono ?_); rintro e wv ⟨v3, rfl, ⟨hv9, hn9⟩, hb9⟩; have f3 := isCells_form hv9; replace hO := hO.gainC hb9 hv9 hn9; clear hb9 hv9 hn9; obtain ⟨a3, c3, rfl, -⟩ := f3.view) | (go_at_call 36; (with_reducible refine (hQ2 _ (hO.isC f0 z0 (by intro q hq; repeat (first | exact List.mem_append_left _ hq | apply List.mem_append_right)))).mono ?_); rintro e wv ⟨v5, rfl, ⟨hv9, hn9⟩, hb9⟩; have f5 := isCells_form hv9; replace hO := hO.gainC hb9 hv9 hn9; clear hb9 hv9 hn9; obtain ⟨a5, c5, rfl, -⟩ := f5.view) | (go_at_call 24; (with_reducible refine (rsameR_any _ _ K _ (hO.isC f3 z3 (by intro q hq; repeat (first | exact List.mem_append_left _ hq | apply List.mem_append_right))) (hO.isC f5 z3 (by intro q hq; repeat (exact List.mem_append_left _ hq))) (by omega)).mono ?_); rintro e wv ⟨rfl, hb⟩; replace hO := hO.call hb; clear hb))
    go_ret
    exact ⟨rfl, hO.keep.below⟩
set_option maxHeartbeats 16000000 in
theorem words_any {w : World} {n : Nat} {sl : Value} {zs : List Int} {i : Nat} (hZ : ZsOk sl zs) (hT : TapeIn w n sl zs i) :
    Calls Tryd.prog 17 #[.pointer (some ⟨n, 0, none⟩)] w (TPost w n sl zs fun v w' => ∃ (ws : List Bs) (cap : Nat) (g : Nat), v = .slice (some ⟨g, 0, none⟩) ws.length cap ∧ 2 ≤ ws.length ∧ ws.length ≤ 20 ∧ (∀ x ∈ ws, x.length ≤ 11) ∧ w'.ownsRow 0 9 1 v ws.length (scs ws) ∧ w.heap.size ≤ g) := by
  have hO := own_tape hT
  obtain ⟨sa, sc, rfl, -⟩ := hZ.view
  go_enter Tryd.func17, Tryd.ntmps17
  go_upto_region 4 with (first | ((with_reducible refine is_build ?_); (refine' own_buildP (o := ⟨some 7, _, _, _, _, _⟩) [.string ⟨#[109, 111, 110]⟩, .string ⟨#[116, 117, 101]⟩, .string ⟨#[119, 101, 100, 45, 116, 104, 117]⟩, .string ⟨#[109, 111, 110, 45, 115, 117, 110]⟩, .string ⟨#[115, 117, 110, 45, 115, 117, 110]⟩, .string ⟨#[102, 114, 105, 45, 109, 111, 110]⟩, .string ⟨#[100, 97, 121]⟩, .string ⟨#[109, 111, 110, 45]⟩, .string ⟨#[109, 111, 110, 45, 116, 117, 101, 45, 119, 101, 100]⟩] hO (by rfl) rfl slice_strings rfl rfl (by rfl) (by decide) (by decide) ?_); clear hO; intro n7 wv hO) | ((with_reducible refine is_build ?_); (refine' own_buildP (o := ⟨some 8, _, _, _, _, _⟩) [.string ⟨#[48, 48, 58, 48, 48, 45, 50, 52, 58, 48, 48]⟩, .string ⟨#[48, 56, 58, 48, 48, 45, 49, 55, 58, 48, 48]⟩, .string ⟨#[50, 51, 58, 53, 57, 45, 50, 52, 58, 48, 48]⟩, .string ⟨#[48, 57, 58, 48, 48, 45, 48, 57, 58, 48, 48]⟩, .string ⟨#[57, 58, 48, 48, 45, 49, 48, 58, 48, 48]⟩, .string ⟨#[50, 52, 58, 48, 48, 45, 50, 52, 58, 48, 48]⟩, .string ⟨#[49, 48, 58, 54, 48, 45, 49, 49, 58, 48, 48]⟩, .string ⟨#[48, 56, 58, 48, 48]⟩, .string ⟨#[49, 55, 58, 48, 48, 45, 48, 56, 58, 48, 48]⟩] hO (by rfl) rfl slice_strings rfl rfl (by rfl) (by decide) (by decide) ?_); clear hO; intro n8 wv hO))
  replace hO : Own [n] w [⟨n8, tmwC, 9⟩, ⟨n7, dywC, 9⟩, ⟨n, tcs (.slice sa zs.length sc) i, 54⟩] [] (roS (.slice sa zs.length sc) (ints zs)) wv := hO
  replace hT := (hO.tapeIn (by (repeat (first | exact List.mem_cons_self | refine List.mem_cons_of_mem _ ?_))) (fun _ h => h) hT.le)
  replace hO := hO.nilRow 9 1
  go_wp2_with ((go_at_call 19); (with_reducible refine (next_pos 4 hZ (hO.tapeIn (by (repeat (first | exact List.mem_cons_self | refine List.mem_cons_of_mem _ ?_))) (fun _ h => h) hT.le) (by omega) (by omega)).mono ?_); rintro e wv ⟨v, i1, rfl, hv, hk9, hT1⟩; replace hO := hO.after (by (repeat (first | exact Upd.here | apply Upd.there))) hk9 hT1.blk; replace hT := hT1; clear hT1 hk9; obtain ⟨r, rfl, hr1, hs1⟩ := hv; obtain ⟨J, rfl⟩ : ∃ J : Nat, r = (J : Int) := ⟨r.toNat, by omega⟩; have t1 : IntKind.i64.wrap (1 + (J : Int)) = ((J + 1 : Nat) : Int) := by rw [IntWalk.i64_in _ (by omega)]; omega)
  go_loopw [5, 6] (fun r q wr => ∃ (ws : List Bs) (i1 j : Nat), q = .int .i64 j ∧ j ≤ 4 ∧ ws.length + 3 * j ≤ 12 ∧ (ws.length + 2 * j ≥ 2) ∧ (∀ x ∈ ws, x.length ≤ 11) ∧ TapeIn wr n (.slice sa zs.length sc) zs i1 ∧ Own [n] w [⟨n8, tmwC, 9⟩, ⟨n7, dywC, 9⟩, ⟨n, tcs (.slice sa zs.length sc) i1, 54⟩] [⟨r, ws.length, scs ws, 9, 1⟩] (roS (.slice sa zs.length sc) (ints zs)) wr) (fun _ q _ => (intOf q).toNat)
  case atStart => exact ⟨[], i1, J + 1, rfl, by omega, by simp; omega, by simp; omega, by simp, hT, hO⟩
  case round =>
    clear hO hT hr1 hs1 t1
    obtain ⟨ws, i1, j, rfl, hj4, hwl, hw2, hwx, hT, hO⟩ := hrel
    by_cases hj : 0 < j
    · obtain ⟨j, rfl⟩ : ∃ k, j = k + 1 := ⟨j - 1, by omega⟩
      have g1 : decide (((j + 1 : Nat) : Int) > 0) = true := decide_eq_true (by omega)
      have s1 : IntKind.i64.wrap (((j + 1 : Nat) : Int) - 1) = (j : Int) := by rw [IntWalk.i64_in _ (by omega)]; omega
      obtain ⟨a7, c7, rfl, -⟩ := own_view hO List.mem_cons_self
      have hw0 : ¬ 0 < ws.length ∨ 0 < ws.length := by omega
      rcases hw0 with hw0 | hw0
      · have g2 : decide ((ws.length : Int) > 0) = false := decide_eq_false (by omega)
        have g3 : decide (0 < ws.length) = false := decide_eq_false (by omega)
        clear hw0
        go_upto_region 9 with (fail)
        refine wp_region_any (by kernel_rfl) ?_
        replace hO := hO.drew
        have ix9 := Ix.mk [0, 1, 2, 3, 9, 10, 11]
        iterate 7 (refine wpAny_tk ix9 ?_; replace ix9 := ix9.tail; (first | go_big_quiet_skip | (go_big_quiet_want; (go_big_quiet_op; (first | go_big_quiet_on | ((refine ⟨_, fun _ _ => rfl, ?_⟩); go_big_quiet_on))))); (refine wpQuiet_nil ?_); (try simp only [Act.put]); (try simp only [List.setIfInBounds_toArray, List.set_cons_zero, List.set_cons_succ]))
        clear ix9
        refine wpAny_all (rs := [4]) (by kernel_rfl) (by simp) (ord_cons ?_ ord_nil)
        rotate_left 1
        all_goals
          refine wpOp_of_listL rfl ?_
          ((refine wpList_step (fun K hK => ?_)); go_simp; (((fail_if_success (have := hr1)); (go_at_call 19); (with_reducible refine (next_pos 5 hZ (hO.tapeIn (by (repeat (first | exact List.mem_cons_self | refine List.mem_cons_of_mem _ ?_))) (fun _ h => h) hT.le) (by omega) (by omega)).mono ?_); rintro e wv ⟨v, i1, rfl, hv, hk9, hT1⟩; replace hO := hO.after (by (repeat (first | exact Upd.here | apply Upd.there))) hk9 hT1.blk; replace hT := hT1; clear hT1 hk9; obtain ⟨r, rfl, hr1, hs1⟩ := hv; obtain ⟨A1, rfl⟩ : ∃ A1 : Nat, r = (A1 : Int) := ⟨r.toNat, by omega⟩; have w1 : IntKind.i64.wrap (5 + (A1 : Int)) = 5 + (A1 : Int) := IntWalk.i64_in _ (by omega)); (try simp only []); (refine hK _ _ ?_); clear hK K))
          refine wpList_done (qk_intro ?_)
        refine wpAny_tk (Ix.mk [5]) ?_
        (first | go_big_quiet_skip | (go_big_quiet_want; (go_big_quiet_op; (first | go_big_quiet_on | ((refine ⟨_, fun _ _ => rfl, ?_⟩); go_big_quiet_on))))); (refine wpQuiet_nil ?_); (try simp only [Act.put]); (try simp only [List.setIfInBounds_toArray, List.set_cons_zero, List.set_cons_succ])
        refine wpAny_all (rs := [6]) (by kernel_rfl) (by simp) (ord_cons ?_ ord_nil)
        rotate_left 1
        all_goals
          refine wpOp_of_listL rfl ?_
          ((refine wpList_step (fun K hK => ?_)); go_simp; (((fail_if_success (have := hr2)); (go_at_call 19); (with_reducible refine (next_pos (5 + (A1 : Int)) hZ (hO.tapeIn (by (repeat (first | exact List.mem_cons_self | refine List.mem_cons_of_mem _ ?_))) (fun _ h => h) hT.le) (by omega) (by omega)).mono ?_); rintro e wv ⟨v, i2, rfl, hv, hk9, hT1⟩; replace hO := hO.after (by (repeat (first | exact Upd.here | apply Upd.there))) hk9 hT1.blk; replace hT := hT1; clear hT1 hk9; obtain ⟨r, rfl, hr2, hs2⟩ := hv; obtain ⟨A, rfl⟩ : ∃ A : Nat, r = (A : Int) := ⟨r.toNat, by omega⟩; obtain ⟨xa, hxa, na⟩ := dyw_cell (a := A) (by omega)); (try simp only []); (refine hK _ _ ?_); clear hK K))
          refine wpList_done (qk_intro ?_)
        refine wpAny_tk (Ix.mk [7]) ?_
        (first | go_big_quiet_skip | (go_big_quiet_want; (go_big_quiet_op; (first | go_big_quiet_on | ((refine ⟨_, fun _ _ => rfl, ?_⟩); go_big_quiet_on))))); (refine wpQuiet_nil ?_); (try simp only [Act.put]); (try simp only [List.setIfInBounds_toArray, List.set_cons_zero, List.set_cons_succ])
        refine wpAny_all (rs := [8, 12]) (by kernel_rfl) (by simp) (ord_cons ?_ (ord_cons ?_ ord_nil))
        rotate_left 2
        all_goals
          refine wpOp_of_listL rfl ?_
          (first | ((with_reducible refine is_load ?_); (refine own_ldV (h := ?_))) | ((refine wpList_step (fun K hK => ?_)); go_simp; (((fail_if_success (have := hr3)); (go_at_call 19); (with_reducible refine (next_pos 7 hZ (hO.tapeIn (by (repeat (first | exact List.mem_cons_self | refine List.mem_cons_of_mem _ ?_))) (fun _ h => h) hT.le) (by omega) (by omega)).mono ?_); rintro e wv ⟨v, i3, rfl, hv, hk9, hT1⟩; replace hO := hO.after (by (repeat (first | exact Upd.here | apply Upd.there))) hk9 hT1.blk; replace hT := hT1; clear hT1 hk9; obtain ⟨r, rfl, hr3, hs3⟩ := hv; obtain ⟨A3, rfl⟩ : ∃ A3 : Nat, r = (A3 : Int) := ⟨r.toNat, by omega⟩; have w3 : IntKind.i64.wrap (3 + (A3 : Int)) = 3 + (A3 : Int) := IntWalk.i64_in _ (by omega)); (try simp only []); (refine hK _ _ ?_); clear hK K))); (try simp only [Act.put]); (try simp only [List.setIfInBounds_toArray, List.set_cons_zero, List.set_cons_succ])
          refine wpList_done (qk_intro ?_)
        refine wpAny_all (rs := [12]) (by kernel_rfl) (by simp) (ord_cons ?_ ord_nil)
        rotate_left 1
        refine wpAny_tk (Ix.mk [13]) ?_
        (first | go_big_quiet_skip | (go_big_quiet_want; (go_big_quiet_op; (first | go_big_quiet_on | ((refine ⟨_, fun _ _ => rfl, ?_⟩); go_big_quiet_on))))); (refine wpQuiet_nil ?_); (try simp only [Act.put]); (try simp only [List.setIfInBounds_toArray, List.set_cons_zero, List.set_cons_succ])
        refine wpAny_all (rs := [8, 14]) (by kernel_rfl) (by simp) (ord_cons ?_ (ord_cons ?_ ord_nil))
        rotate_left 2
        all_goals
          refine wpOp_of_listL rfl ?_
          (first | ((with_reducible refine is_load ?_); (refine own_ldV (h := ?_))) | ((refine wpList_step (fun K hK => ?_)); go_simp; ((first | ((fail_if_success (have := hr3)); (go_at_call 19); (with_reducible refine (next_pos 7 hZ (hO.tapeIn (by (repeat (first | exact List.mem_cons_self | refine List.mem_cons_of_mem _ ?_))) (fun _ h => h) hT.le) (by omega) (by omega)).mono ?_); rintro e wv ⟨v, i3, rfl, hv, hk9, hT1⟩; replace hO := hO.after (by (repeat (first | exact Upd.here | apply Upd.there))) hk9 hT1.blk; replace hT := hT1; clear hT1 hk9; obtain ⟨r, rfl, hr3, hs3⟩ := hv; obtain ⟨A3, rfl⟩ : ∃ A3 : Nat, r = (A3 : Int) := ⟨r.toNat, by omega⟩; have w3 : IntKind.i64.wrap (3 + (A3 : Int)) = 3 + (A3 : Int) := IntWalk.i64_in _ (by omega)) | ((fail_if_success (have := hr4)); (go_at_call 19); (with_reducible refine (next_pos (3 + (A3 : Int)) hZ (hO.tapeIn (by (repeat (first | exact List.mem_cons_self | refine List.mem_cons_of_mem _ ?_))) (fun _ h => h) hT.le) (by omega) (by omega)).mono ?_); rintro e wv ⟨v, i4, rfl, hv, hk9, hT1⟩; replace hO := hO.after (by (repeat (first | exact Upd.here | apply Upd.there))) hk9 hT1.blk; replace hT := hT1; clear hT1 hk9; obtain ⟨r, rfl, hr4, hs4⟩ := hv; obtain ⟨B, rfl⟩ : ∃ B : Nat, r = (B : Int) := ⟨r.toNat, by omega⟩; obtain ⟨xb, hxb, nb⟩ := tmw_cell (a := B) (by omega))); (try simp only []); (refine hK _ _ ?_); clear hK K))); (try simp only [Act.put]); (try simp only [List.setIfInBounds_toArray, List.set_cons_zero, List.set_cons_succ])
          refine wpList_done (qk_intro ?_)
        refine wpAny_tk (Ix.mk [13]) ?_
        (first | go_big_quiet_skip | (go_big_quiet_want; (go_big_quiet_op; (first | go_big_quiet_on | ((refine ⟨_, fun _ _ => rfl, ?_⟩); go_big_quiet_on))))); (refine wpQuiet_nil ?_); (try simp only [Act.put]); (try simp only [List.setIfInBounds_toArray, List.set_cons_zero, List.set_cons_succ])
        refine wpAny_all (rs := [14]) (by kernel_rfl) (by simp) (ord_cons ?_ ord_nil)
        rotate_left 1
        refine wpAny_all (rs := [14]) (by kernel_rfl) (by simp) (ord_cons ?_ ord_nil)
        rotate_left 1
        refine wpAny_tk (Ix.mk [15]) ?_
        (first | go_big_quiet_skip | (go_big_quiet_want; (go_big_quiet_op; (first | go_big_quiet_on | ((refine ⟨_, fun _ _ => rfl, ?_⟩); go_big_quiet_on))))); (refine wpQuiet_nil ?_); (try simp only [Act.put]); (try simp only [List.setIfInBounds_toArray, List.set_cons_zero, List.set_cons_succ])
        refine wpAny_all (rs := [8, 16]) (by kernel_rfl) (by simp) (ord_cons ?_ (ord_cons ?_ ord_nil))
        rotate_left 2
        all_goals
          refine wpOp_of_listL rfl ?_
          (first | ((with_reducible refine is_load ?_); (refine own_ldV (h := ?_))) | ((refine wpList_step (fun K hK => ?_)); go_simp; (((fail_if_success (have := hr4)); (go_at_call 19); (with_reducible refine (next_pos (3 + (A3 : Int)) hZ (hO.tapeIn (by (repeat (first | exact List.mem_cons_self | refine List.mem_cons_of_mem _ ?_))) (fun _ h => h) hT.le) (by omega) (by omega)).mono ?_); rintro e wv ⟨v, i4, rfl, hv, hk9, hT1⟩; replace hO := hO.after (by (repeat (first | exact Upd.here | apply Upd.there))) hk9 hT1.blk; replace hT := hT1; clear hT1 hk9; obtain ⟨r, rfl, hr4, hs4⟩ := hv; obtain ⟨B, rfl⟩ : ∃ B : Nat, r = (B : Int) := ⟨r.toNat, by omega⟩; obtain ⟨xb, hxb, nb⟩ := tmw_cell (a := B) (by omega)); (try simp only []); (refine hK _ _ ?_); clear hK K))); (try simp only [Act.put]); (try simp only [List.setIfInBounds_toArray, List.set_cons_zero, List.set_cons_succ])
          refine wpList_done (qk_intro ?_)
        refine wpAny_tk (Ix.mk [15]) ?_
        (first | go_big_quiet_skip | (go_big_quiet_want; (go_big_quiet_op; (first | go_big_quiet_on | ((refine ⟨_, fun _ _ => rfl, ?_⟩); go_big_quiet_on))))); (refine wpQuiet_nil ?_); (try simp only [Act.put]); (try simp only [List.setIfInBounds_toArray, List.set_cons_zero, List.set_cons_succ])
        refine wpAny_all (rs := [16]) (by kernel_rfl) (by simp) (ord_cons ?_ ord_nil)
        rotate_left 1
        refine wpAny_tk (Ix.mk [15]) ?_
        (first | go_big_quiet_skip | (go_big_quiet_want; (go_big_quiet_op; (first | go_big_quiet_on | ((refine ⟨_, fun _ _ => rfl, ?_⟩); go_big_quiet_on))))); (refine wpQuiet_nil ?_); (try simp only [Act.put]); (try simp only [List.setIfInBounds_toArray, List.set_cons_zero, List.set_cons_succ])
        refine wpAny_all (rs := [16]) (by kernel_rfl) (by simp) (ord_cons ?_ ord_nil)
        rotate_left 1
        refine wpAny_all (rs := [16]) (by kernel_rfl) (by simp) (ord_cons ?_ ord_nil)
        rotate_left 1
        refine wpAny_all (rs := [8]) (by kernel_rfl) (by simp) (ord_cons ?_ ord_nil)
        rotate_left 1
        all_goals
          refine wpOp_of_listL rfl ?_
          ((with_reducible refine is_load ?_); (refine own_ldV (h := ?_))); (try simp only [Act.put]); (try simp only [List.setIfInBounds_toArray, List.set_cons_zero, List.set_cons_succ])
          refine wpList_done (qk_intro ?_)
        refine wpAny_all (rs := [17]) (by kernel_rfl) (by simp) (ord_cons ?_ ord_nil)
        rotate_left 1
        refine wpAny_all (rs := [17]) (by kernel_rfl) (by simp) (ord_cons ?_ ord_nil)
        rotate_left 1
        refine wpAny_all (rs := [17]) (by kernel_rfl) (by simp) (ord_cons ?_ ord_nil)
        rotate_left 1
        refine wpAny_all (rs := [17]) (by kernel_rfl) (by simp) (ord_cons ?_ ord_nil)
        rotate_left 1
        all_goals
          refine wpOp_of_listL rfl ?_
          ((with_reducible refine is_build ?_); (refine' own_buildP (o := ⟨some 44, _, _, _, _, _⟩) [.string ⟨xa.toArray⟩, .string ⟨xb.toArray⟩] hO (by rfl) rfl slice_strings rfl rfl (by rfl) (by decide) (by decide) ?_); clear hO; intro n44 wv hO); (try simp only [Act.put]); (try simp only [List.setIfInBounds_toArray, List.set_cons_zero, List.set_cons_succ])
          refine wpList_done (qk_intro ?_)
        refine wpAny_all (rs := [18]) (by kernel_rfl) (by simp) (ord_cons ?_ ord_nil)
        rotate_left 1
        refine wpAny_all (rs := [18]) (by kernel_rfl) (by simp) (ord_cons ?_ ord_nil)
        rotate_left 1
        refine wpAny_all (rs := [18]) (by kernel_rfl) (by simp) (ord_cons ?_ ord_nil)
        rotate_left 1
        refine wpAny_all (rs := [18]) (by kernel_rfl) (by simp) (ord_cons ?_ ord_nil)
        rotate_left 1
        all_goals
          refine wpOp_of_listL rfl ?_
          ((with_reducible refine is_append ?_); (refine own_apV (o := ⟨some 45, _, _, _, _, _⟩) (hO := hO) (h := ?_); clear hO; intro g45 c45 wv hO)); (try simp only [Act.put]); (try simp only [List.setIfInBounds_toArray, List.set_cons_zero, List.set_cons_succ])
          refine wpList_done (qk_intro ?_)
        refine wpAny_all (rs := [19]) (by kernel_rfl) (by simp) (ord_cons ?_ ord_nil)
        rotate_left 1
        refine wpAny_all (rs := [19]) (by kernel_rfl) (by simp) (ord_cons ?_ ord_nil)
        rotate_left 1
        refine wpAny_all (rs := [19]) (by kernel_rfl) (by simp) (ord_cons ?_ ord_nil)
        rotate_left 1
        refine wpAny_all (rs := [19]) (by kernel_rfl) (by simp) (ord_cons ?_ ord_nil)
        rotate_left 1
        all_goals
          refine wpOp_of_listL rfl ?_
          ((refine wpList_step (fun K hK => ?_)); go_simp; ((refine hK _ _ ?_); clear hK K))
          refine wpList_done (qk_intro ?_)
        refine wpAny_done (by kernel_rfl) ?_ _
        rotate_left
        refine wpAny_done (by kernel_rfl) ?_ _
        rotate_left
        refine wpAny_done (by kernel_rfl) ?_ _
        rotate_left
        refine wpAny_done (by kernel_rfl) ?_ _
        rotate_left
        all_goals
          have HC : Hid (scs ws ++ [Value.string ⟨xa.toArray⟩, Value.string ⟨xb.toArray⟩] = scs (ws ++ [xa, xb])) := Lib.hid (by simp [scs])
          rw [HC.out] at hO
          clear hxa hxb hr1 hs1 hr2 hs2 hr3 hs3 hr4 hs4 w1 w3
          go_wp2_with fail
          go_roundw
          case rel =>
            refine ⟨ws ++ [xa, xb], i4, j, by go_num, by omega, by simp; omega, by simp; omega, fun x hx => ?_, (hO.tapeIn (by (repeat (first | exact List.mem_cons_self | refine List.mem_cons_of_mem _ ?_))) (fun _ h => h) hT.le), by rw [List.length_append]; exact hO.sub (X' := [⟨n8, tmwC, 9⟩, ⟨n7, dywC, 9⟩, ⟨n, tcs (.slice sa zs.length sc) i4, 54⟩]) (.cons _ (.refl _)) (.refl _) (fun _ h => h)⟩
            rcases List.mem_append.1 hx with hx | hx
            · exact hwx x hx
            · simp only [List.mem_cons, List.not_mem_nil, or_false] at hx
              rcases hx with rfl | rfl
              · exact na
              · exact nb
          case measure => simp [intOf]
      · have g2 : decide ((ws.length : Int) > 0) = true := decide_eq_true (by omega)
        have g3 : decide (0 < ws.length) = true := decide_eq_true (by omega)
        clear hw0
        go_upto_region 9 with (first | ((with_reducible refine is_load ?_); (refine own_ldV (h := ?_))) | ((with_reducible refine is_append ?_); (refine own_apV (o := ⟨some 26, _, _, _, _, _⟩) (hO := hO) (h := ?_); clear hO; intro g26 c26 wv hO)) | ((with_reducible refine is_build ?_); (refine' own_buildP (o := ⟨some 20, _, _, _, _, _⟩) [.string ⟨#[44]⟩, .string ⟨#[44]⟩, .string ⟨#[44]⟩, .string ⟨#[59]⟩] hO (by rfl) rfl slice_strings rfl rfl (by rfl) (by decide) (by decide) ?_); clear hO; intro n20 wv hO) | ((go_at_call 19); (with_reducible refine (next_pos 4 hZ (hO.tapeIn (by (repeat (first | exact List.mem_cons_self | refine List.mem_cons_of_mem _ ?_))) (fun _ h => h) hT.le) (by omega) (by omega)).mono ?_); rintro e wv ⟨v, i8, rfl, hv, hk9, hT1⟩; replace hO := hO.after (by (repeat (first | exact Upd.here | apply Upd.there))) hk9 hT1.blk; replace hT := hT1; clear hT1 hk9; obtain ⟨r, rfl, hr8, hs8⟩ := hv; obtain ⟨A, rfl⟩ : ∃ A : Nat, r = (A : Int) := ⟨r.toNat, by omega⟩; obtain ⟨xc, hxc, nc⟩ := cmw_cell (a := A) (by omega)) | ((with_reducible refine is_build ?_); (refine' own_buildP (o := ⟨some 25, _, _, _, _, _⟩) [.string ⟨xc.toArray⟩] hO (by rfl) rfl slice_strings rfl rfl (by rfl) (by decide) (by decide) ?_); clear hO; intro n25 wv hO))
        have HC : Hid (scs ws ++ [Value.string ⟨xc.toArray⟩] = scs (ws ++ [xc])) := Lib.hid (by simp [scs])
        rw [HC.out] at hO
        clear HC hxc
        replace hO := hO.sub (X' := [⟨n8, tmwC, 9⟩, ⟨n7, dywC, 9⟩, ⟨n, tcs (.slice sa zs.length sc) i8, 54⟩]) (.cons _ (.cons _ (.refl _))) (.refl _) (fun _ h => h)
        have hvx : ∀ x ∈ ws ++ [xc], x.length ≤ 11 := fun x hx => by
          rcases List.mem_append.1 hx with hx | hx
          · exact hwx x hx
          · obtain rfl := List.mem_singleton.1 hx; exact nc
        clear hwx
        have hwx := hvx
        clear hvx
        have hvl : ws.length + 1 = (ws ++ [xc]).length := by simp
        rw [hvl] at hO
        rw [hvl]
        replace hwl : (ws ++ [xc]).length + 3 * j ≤ 10 := by omega
        clear hvl hw2 nc
        generalize ws ++ [xc] = ws at *
        refine wp_region_any (by kernel_rfl) ?_
        replace hO := hO.drew
        have ix9 := Ix.mk [0, 1, 2, 3, 9, 10, 11]
        iterate 7 (refine wpAny_tk ix9 ?_; replace ix9 := ix9.tail; (first | go_big_quiet_skip | (go_big_quiet_want; (go_big_quiet_op; (first | go_big_quiet_on | ((refine ⟨_, fun _ _ => rfl, ?_⟩); go_big_quiet_on))))); (refine wpQuiet_nil ?_); (try simp only [Act.put]); (try simp only [List.setIfInBounds_toArray, List.set_cons_zero, List.set_cons_succ]))
        clear ix9
        refine wpAny_all (rs := [4]) (by kernel_rfl) (by simp) (ord_cons ?_ ord_nil)
        rotate_left 1
        all_goals
          refine wpOp_of_listL rfl ?_
          ((refine wpList_step (fun K hK => ?_)); go_simp; (((fail_if_success (have := hr1)); (go_at_call 19); (with_reducible refine (next_pos 5 hZ (hO.tapeIn (by (repeat (first | exact List.mem_cons_self | refine List.mem_cons_of_mem _ ?_))) (fun _ h => h) hT.le) (by omega) (by omega)).mono ?_); rintro e wv ⟨v, i1, rfl, hv, hk9, hT1⟩; replace hO := hO.after (by (repeat (first | exact Upd.here | apply Upd.there))) hk9 hT1.blk; replace hT := hT1; clear hT1 hk9; obtain ⟨r, rfl, hr1, hs1⟩ := hv; obtain ⟨A1, rfl⟩ : ∃ A1 : Nat, r = (A1 : Int) := ⟨r.toNat, by omega⟩; have w1 : IntKind.i64.wrap (5 + (A1 : Int)) = 5 + (A1 : Int) := IntWalk.i64_in _ (by omega)); (try simp only []); (refine hK _ _ ?_); clear hK K))
          refine wpList_done (qk_intro ?_)
        refine wpAny_tk (Ix.mk [5]) ?_
        (first | go_big_quiet_skip | (go_big_quiet_want; (go_big_quiet_op; (first | go_big_quiet_on | ((refine ⟨_, fun _ _ => rfl, ?_⟩); go_big_quiet_on))))); (refine wpQuiet_nil ?_); (try simp only [Act.put]); (try simp only [List.setIfInBounds_toArray, List.set_cons_zero, List.set_cons_succ])
        refine wpAny_all (rs := [6]) (by kernel_rfl) (by simp) (ord_cons ?_ ord_nil)
        rotate_left 1
        all_goals
          refine wpOp_of_listL rfl ?_
          ((refine wpList_step (fun K hK => ?_)); go_simp; (((fail_if_success (have := hr2)); (go_at_call 19); (with_reducible refine (next_pos (5 + (A1 : Int)) hZ (hO.tapeIn (by (repeat (first | exact List.mem_cons_self | refine List.mem_cons_of_mem _ ?_))) (fun _ h => h) hT.le) (by omega) (by omega)).mono ?_); rintro e wv ⟨v, i2, rfl, hv, hk9, hT1⟩; replace hO := hO.after (by (repeat (first | exact Upd.here | apply Upd.there))) hk9 hT1.blk; replace hT := hT1; clear hT1 hk9; obtain ⟨r, rfl, hr2, hs2⟩ := hv; obtain ⟨A, rfl⟩ : ∃ A : Nat, r = (A : Int) := ⟨r.toNat, by omega⟩; obtain ⟨xa, hxa, na⟩ := dyw_cell (a := A) (by omega)); (try simp only []); (refine hK _ _ ?_); clear hK K))
          refine wpList_done (qk_intro ?_)
        refine wpAny_tk (Ix.mk [7]) ?_
        (first | go_big_quiet_skip | (go_big_quiet_want; (go_big_quiet_op; (first | go_big_quiet_on | ((refine ⟨_, fun _ _ => rfl, ?_⟩); go_big_quiet_on))))); (refine wpQuiet_nil ?_); (try simp only [Act.put]); (try simp only [List.setIfInBounds_toArray, List.set_cons_zero, List.set_cons_succ])
        refine wpAny_all (rs := [8, 12]) (by kernel_rfl) (by simp) (ord_cons ?_ (ord_cons ?_ ord_nil))
        rotate_left 2
        all_goals
          refine wpOp_of_listL rfl ?_
          (first | ((with_reducible refine is_load ?_); (refine own_ldV (h := ?_))) | ((refine wpList_step (fun K hK => ?_)); go_simp; (((fail_if_success (have := hr3)); (go_at_call 19); (with_reducible refine (next_pos 7 hZ (hO.tapeIn (by (repeat (first | exact List.mem_cons_self | refine List.mem_cons_of_mem _ ?_))) (fun _ h => h) hT.le) (by omega) (by omega)).mono ?_); rintro e wv ⟨v, i3, rfl, hv, hk9, hT1⟩; replace hO := hO.after (by (repeat (first | exact Upd.here | apply Upd.there))) hk9 hT1.blk; replace hT := hT1; clear hT1 hk9; obtain ⟨r, rfl, hr3, hs3⟩ := hv; obtain ⟨A3, rfl⟩ : ∃ A3 : Nat, r = (A3 : Int) := ⟨r.toNat, by omega⟩; have w3 : IntKind.i64.wrap (3 + (A3 : Int)) = 3 + (A3 : Int) := IntWalk.i64_in _ (by omega)); (try simp only []); (refine hK _ _ ?_); clear hK K))); (try simp only [Act.put]); (try simp only [List.setIfInBounds_toArray, List.set_cons_zero, List.set_cons_succ])
          refine wpList_done (qk_intro ?_)
        refine wpAny_all (rs := [12]) (by kernel_rfl) (by simp) (ord_cons ?_ ord_nil)
        rotate_left 1
        refine wpAny_tk (Ix.mk [13]) ?_
        (first | go_big_quiet_skip | (go_big_quiet_want; (go_big_quiet_op; (first | go_big_quiet_on | ((refine ⟨_, fun _ _ => rfl, ?_⟩); go_big_quiet_on))))); (refine wpQuiet_nil ?_); (try simp only [Act.put]); (try simp only [List.setIfInBounds_toArray, List.set_cons_zero, List.set_cons_succ])
        refine wpAny_all (rs := [8, 14]) (by kernel_rfl) (by simp) (ord_cons ?_ (ord_cons ?_ ord_nil))
        rotate_left 2
        all_goals
          refine wpOp_of_listL rfl ?_
          (first | ((with_reducible refine is_load ?_); (refine own_ldV (h := ?_))) | ((refine wpList_step (fun K hK => ?_)); go_simp; ((first | ((fail_if_success (have := hr3)); (go_at_call 19); (with_reducible refine (next_pos 7 hZ (hO.tapeIn (by (repeat (first | exact List.mem_cons_self | refine List.mem_cons_of_mem _ ?_))) (fun _ h => h) hT.le) (by omega) (by omega)).mono ?_); rintro e wv ⟨v, i3, rfl, hv, hk9, hT1⟩; replace hO := hO.after (by (repeat (first | exact Upd.here | apply Upd.there))) hk9 hT1.blk; replace hT := hT1; clear hT1 hk9; obtain ⟨r, rfl, hr3, hs3⟩ := hv; obtain ⟨A3, rfl⟩ : ∃ A3 : Nat, r = (A3 : Int) := ⟨r.toNat, by omega⟩; have w3 : IntKind.i64.wrap (3 + (A3 : Int)) = 3 + (A3 : Int) := IntWalk.i64_in _ (by omega)) | ((fail_if_success (have := hr4)); (go_at_call 19); (with_reducible refine (next_pos (3 + (A3 : Int)) hZ (hO.tapeIn (by (repeat (first | exact List.mem_cons_self | refine List.mem_cons_of_mem _ ?_))) (fun _ h => h) hT.le) (by omega) (by omega)).mono ?_); rintro e wv ⟨v, i4, rfl, hv, hk9, hT1⟩; replace hO := hO.after (by (repeat (first | exact Upd.here | apply Upd.there))) hk9 hT1.blk; replace hT := hT1; clear hT1 hk9; obtain ⟨r, rfl, hr4, hs4⟩ := hv; obtain ⟨B, rfl⟩ : ∃ B : Nat, r = (B : Int) := ⟨r.toNat, by omega⟩; obtain ⟨xb, hxb, nb⟩ := tmw_cell (a := B) (by omega))); (try simp only []); (refine hK _ _ ?_); clear hK K))); (try simp only [Act.put]); (try simp only [List.setIfInBounds_toArray, List.set_cons_zero, List.set_cons_succ])
          refine wpList_done (qk_intro ?_)
        refine wpAny_tk (Ix.mk [13]) ?_
        (first | go_big_quiet_skip | (go_big_quiet_want; (go_big_quiet_op; (first | go_big_quiet_on | ((refine ⟨_, fun _ _ => rfl, ?_⟩); go_big_quiet_on))))); (refine wpQuiet_nil ?_); (try simp only [Act.put]); (try simp only [List.setIfInBounds_toArray, List.set_cons_zero, List.set_cons_succ])
        refine wpAny_all (rs := [14]) (by kernel_rfl) (by simp) (ord_cons ?_ ord_nil)
        rotate_left 1
        refine wpAny_all (rs := [14]) (by kernel_rfl) (by simp) (ord_cons ?_ ord_nil)
        rotate_left 1
        refine wpAny_tk (Ix.mk [15]) ?_
        (first | go_big_quiet_skip | (go_big_quiet_want; (go_big_quiet_op; (first | go_big_quiet_on | ((refine ⟨_, fun _ _ => rfl, ?_⟩); go_big_quiet_on))))); (refine wpQuiet_nil ?_); (try simp only [Act.put]); (try simp only [List.setIfInBounds_toArray, List.set_cons_zero, List.set_cons_succ])
        refine wpAny_all (rs := [8, 16]) (by kernel_rfl) (by simp) (ord_cons ?_ (ord_cons ?_ ord_nil))
        rotate_left 2
        all_goals
          refine wpOp_of_listL rfl ?_
          (first | ((with_reducible refine is_load ?_); (refine own_ldV (h := ?_))) | ((refine wpList_step (fun K hK => ?_)); go_simp; (((fail_if_success (have := hr4)); (go_at_call 19); (with_reducible refine (next_pos (3 + (A3 : Int)) hZ (hO.tapeIn (by (repeat (first | exact List.mem_cons_self | refine List.mem_cons_of_mem _ ?_))) (fun _ h => h) hT.le) (by omega) (by omega)).mono ?_); rintro e wv ⟨v, i4, rfl, hv, hk9, hT1⟩; replace hO := hO.after (by (repeat (first | exact Upd.here | apply Upd.there))) hk9 hT1.blk; replace hT := hT1; clear hT1 hk9; obtain ⟨r, rfl, hr4, hs4⟩ := hv; obtain ⟨B, rfl⟩ : ∃ B : Nat, r = (B : Int) := ⟨r.toNat, by omega⟩; obtain ⟨xb, hxb, nb⟩ := tmw_cell (a := B) (by omega)); (try simp only []); (refine hK _ _ ?_); clear hK K))); (try simp only [Act.put]); (try simp only [List.setIfInBounds_toArray, List.set_cons_zero, List.set_cons_succ])
          refine wpList_done (qk_intro ?_)
        refine wpAny_tk (Ix.mk [15]) ?_
        (first | go_big_quiet_skip | (go_big_quiet_want; (go_big_quiet_op; (first | go_big_quiet_on | ((refine ⟨_, fun _ _ => rfl, ?_⟩); go_big_quiet_on))))); (refine wpQuiet_nil ?_); (try simp only [Act.put]); (try simp only [List.setIfInBounds_toArray, List.set_cons_zero, List.set_cons_succ])
        refine wpAny_all (rs := [16]) (by kernel_rfl) (by simp) (ord_cons ?_ ord_nil)
        rotate_left 1
        refine wpAny_tk (Ix.mk [15]) ?_
        (first | go_big_quiet_skip | (go_big_quiet_want; (go_big_quiet_op; (first | go_big_quiet_on | ((refine ⟨_, fun _ _ => rfl, ?_⟩); go_big_quiet_on))))); (refine wpQuiet_nil ?_); (try simp only [Act.put]); (try simp only [List.setIfInBounds_toArray, List.set_cons_zero, List.set_cons_succ])
        refine wpAny_all (rs := [16]) (by kernel_rfl) (by simp) (ord_cons ?_ ord_nil)
        rotate_left 1
        refine wpAny_all (rs := [16]) (by kernel_rfl) (by simp) (ord_cons ?_ ord_nil)
        rotate_left 1
        refine wpAny_all (rs := [8]) (by kernel_rfl) (by simp) (ord_cons ?_ ord_nil)
        rotate_left 1
        all_goals
          refine wpOp_of_listL rfl ?_
          ((with_reducible refine is_load ?_); (refine own_ldV (h := ?_))); (try simp only [Act.put]); (try simp only [List.setIfInBounds_toArray, List.set_cons_zero, List.set_cons_succ])
          refine wpList_done (qk_intro ?_)
        refine wpAny_all (rs := [17]) (by kernel_rfl) (by simp) (ord_cons ?_ ord_nil)
        rotate_left 1
        refine wpAny_all (rs := [17]) (by kernel_rfl) (by simp) (ord_cons ?_ ord_nil)
        rotate_left 1
        refine wpAny_all (rs := [17]) (by kernel_rfl) (by simp) (ord_cons ?_ ord_nil)
        rotate_left 1
        refine wpAny_all (rs := [17]) (by kernel_rfl) (by simp) (ord_cons ?_ ord_nil)
        rotate_left 1
        all_goals
          refine wpOp_of_listL rfl ?_
          ((with_reducible refine is_build ?_); (refine' own_buildP (o := ⟨some 44, _, _, _, _, _⟩) [.string ⟨xa.toArray⟩, .string ⟨xb.toArray⟩] hO (by rfl) rfl slice_strings rfl rfl (by rfl) (by decide) (by decide) ?_); clear hO; intro n44 wv hO); (try simp only [Act.put]); (try simp only [List.setIfInBounds_toArray, List.set_cons_zero, List.set_cons_succ])
          refine wpList_done (qk_intro ?_)
        refine wpAny_all (rs := [18]) (by kernel_rfl) (by simp) (ord_cons ?_ ord_nil)
        rotate_left 1
        refine wpAny_all (rs := [18]) (by kernel_rfl) (by simp) (ord_cons ?_ ord_nil)
        rotate_left 1
        refine wpAny_all (rs := [18]) (by kernel_rfl) (by simp) (ord_cons ?_ ord_nil)
        rotate_left 1
        refine wpAny_all (rs := [18]) (by kernel_rfl) (by simp) (ord_cons ?_ ord_nil)
        rotate_left 1
        all_goals
          refine wpOp_of_listL rfl ?_
          ((with_reducible refine is_append ?_); (refine own_apV (o := ⟨some 45, _, _, _, _, _⟩) (hO := hO) (h := ?_); clear hO; intro g45 c45 wv hO)); (try simp only [Act.put]); (try simp only [List.setIfInBounds_toArray, List.set_cons_zero, List.set_cons_succ])
          refine wpList_done (qk_intro ?_)
        refine wpAny_all (rs := [19]) (by kernel_rfl) (by simp) (ord_cons ?_ ord_nil)
        rotate_left 1
        refine wpAny_all (rs := [19]) (by kernel_rfl) (by simp) (ord_cons ?_ ord_nil)
        rotate_left 1
        refine wpAny_all (rs := [19]) (by kernel_rfl) (by simp) (ord_cons ?_ ord_nil)
        rotate_left 1
        refine wpAny_all (rs := [19]) (by kernel_rfl) (by simp) (ord_cons ?_ ord_nil)
        rotate_left 1
        all_goals
          refine wpOp_of_listL rfl ?_
          ((refine wpList_step (fun K hK => ?_)); go_simp; ((refine hK _ _ ?_); clear hK K))
          refine wpList_done (qk_intro ?_)
        refine wpAny_done (by kernel_rfl) ?_ _
        rotate_left
        refine wpAny_done (by kernel_rfl) ?_ _
        rotate_left
        refine wpAny_done (by kernel_rfl) ?_ _
        rotate_left
        refine wpAny_done (by kernel_rfl) ?_ _
        rotate_left
        all_goals
          have HC : Hid (scs ws ++ [Value.string ⟨xa.toArray⟩, Value.string ⟨xb.toArray⟩] = scs (ws ++ [xa, xb])) := Lib.hid (by simp [scs])
          rw [HC.out] at hO
          clear hxa hxb hr1 hs1 hr2 hs2 hr3 hs3 hr4 hs4 w1 w3
          go_wp2_with fail
          go_roundw
          case rel =>
            refine ⟨ws ++ [xa, xb], i4, j, by go_num, by omega, by simp; omega, by simp; omega, fun x hx => ?_, (hO.tapeIn (by (repeat (first | exact List.mem_cons_self | refine List.mem_cons_of_mem _ ?_))) (fun _ h => h) hT.le), by rw [List.length_append]; exact hO.sub (X' := [⟨n8, tmwC, 9⟩, ⟨n7, dywC, 9⟩, ⟨n, tcs (.slice sa zs.length sc) i4, 54⟩]) (.cons _ (.refl _)) (.refl _) (fun _ h => h)⟩
            rcases List.mem_append.1 hx with hx | hx
            · exact hwx x hx
            · simp only [List.mem_cons, List.not_mem_nil, or_false] at hx
              rcases hx with rfl | rfl
              · exact na
              · exact nb
          case measure => simp [intOf]
    · obtain rfl : j = 0 := by omega
      have g1 : decide (((0 : Nat) : Int) > 0) = false := rfl
      have hw0 : 0 < ws.length := by omega
      obtain ⟨a7, c7, rfl, ha7⟩ := own_view hO List.mem_cons_self
      obtain ⟨g7, rfl⟩ := ha7 hw0
      have hwa : ∀ xd : Bs, xd.length ≤ 11 → ∀ x ∈ ws ++ [xd], x.length ≤ 11 := fun xd nd x hx => by
        rcases List.mem_append.1 hx with hx | hx
        · exact hwx x hx
        · obtain rfl := List.mem_singleton.1 hx; exact nd
      go_wp2_with (first | ((with_reducible refine is_load ?_); (refine own_ldV (h := ?_))) | ((with_reducible refine is_append ?_); (refine own_apV (o := ⟨some 56, _, _, _, _, _⟩) (hO := hO) (h := ?_); clear hO; intro g56 c56 wv hO)) | ((go_at_call 19); (with_reducible refine (next_pos 8 hZ (hO.tapeIn (by (repeat (first | exact List.mem_cons_self | refine List.mem_cons_of_mem _ ?_))) (fun _ h => h) hT.le) (by omega) (by omega)).mono ?_); rintro e wv ⟨v, i8, rfl, hv, hk9, hT1⟩; replace hO := hO.after (by (repeat (first | exact Upd.here | apply Upd.there))) hk9 hT1.blk; replace hT := hT1; clear hT1 hk9; obtain ⟨r, rfl, hr8, hs8⟩ := hv) | ((with_reducible refine is_build ?_); (refine' own_buildP (o := ⟨some 50, _, _, _, _, _⟩) [.string ⟨#[110, 101, 118, 101, 114]⟩, .string ⟨#[44]⟩, .string ⟨#[109, 111, 110]⟩] hO (by rfl) rfl slice_strings rfl rfl (by rfl) (by decide) (by decide) ?_); clear hO; intro n50 wv hO) | ((go_at_call 19); (with_reducible refine (next_pos 3 hZ (hO.tapeIn (by (repeat (first | exact List.mem_cons_self | refine List.mem_cons_of_mem _ ?_))) (fun _ h => h) hT.le) (by omega) (by omega)).mono ?_); rintro e wv ⟨v, i9, rfl, hv, hk9, hT1⟩; replace hO := hO.after (by (repeat (first | exact Upd.here | apply Upd.there))) hk9 hT1.blk; replace hT := hT1; clear hT1 hk9; obtain ⟨r, rfl, hr9, hs9⟩ := hv; obtain ⟨A, rfl⟩ : ∃ A : Nat, r = (A : Int) := ⟨r.toNat, by omega⟩; obtain ⟨xd, hxd, nd⟩ := fnw_cell (a := A) (by omega)) | ((with_reducible refine is_build ?_); (refine' own_buildP (o := ⟨some 55, _, _, _, _, _⟩) [.string ⟨xd.toArray⟩] hO (by rfl) rfl slice_strings rfl rfl (by rfl) (by decide) (by decide) ?_); clear hO; intro n55 wv hO))
      all_goals go_ret
      all_goals
        first
        | exact ⟨_, i8, rfl, ⟨ws, c7, g7, rfl, by omega, by omega, hwx, hO.row _ List.mem_cons_self, row_fresh hO (by (repeat (first | exact List.mem_cons_self | refine List.mem_cons_of_mem _ ?_))) List.mem_cons_self⟩, hO.keep, (hO.tapeIn (by (repeat (first | exact List.mem_cons_self | refine List.mem_cons_of_mem _ ?_))) (fun _ h => h) hT.le)⟩
        | exact ⟨_, i9, rfl, ⟨ws ++ [xd], c56, g56, by simp, by simp; omega, by simp; omega, hwa xd nd, by rw [List.length_append, show scs (ws ++ [xd]) = scs ws ++ [.string ⟨xd.toArray⟩] by simp [scs]]; exact hO.row _ List.mem_cons_self, row_fresh hO (by (repeat (first | exact List.mem_cons_self | refine List.mem_cons_of_mem _ ?_))) List.mem_cons_self⟩, hO.keep, (hO.tapeIn (by (repeat (first | exact List.mem_cons_self | refine List.mem_cons_of_mem _ ?_))) (fun _ h => h) hT.le)⟩
end Go.Proofs.YtfhkmkbfgmbbaaaDoor

/- CalendarParses: the walk. -/
namespace Go.Proofs.YtfhkmkbfgmbbaaaDoor
open Go.RowKit
set_option maxRecDepth 100000
theorem one_strS : OneT Tryd.prog 9 := ⟨_, Tryd.underlying9, rfl, by kernel_rfl⟩
theorem front_cells {w : World} {g o n cap p : Nat} {ws : List Bs} (h : IsCells w (.slice (some ⟨g, o, none⟩) n cap) ws.length (scs ws)) (hp : p ≤ ws.length) : IsCells w (.slice (some ⟨g, o, none⟩) p cap) (ws.take p).length (scs (ws.take p)) := by
  rcases h with ⟨h, _⟩ | ⟨g', o', c', h, hc, h2⟩
  · cases h
  · cases h
    rw [List.length_take, Nat.min_eq_left hp]
    refine .inr ⟨g, o, cap, rfl, by omega, fun j v hv => h2 j v ?_⟩
    have hj := (List.getElem?_eq_some_iff.1 hv).1
    rw [scs_len, List.length_take] at hj
    unfold scs at hv ⊢
    rw [List.map_take, List.getElem?_take_of_lt (by omega)] at hv
    exact hv
theorem set_short {ws : List Bs} {y : Bs} {p : Nat} {b : Nat} (h : ∀ x ∈ ws, x.length ≤ b) (hy : y.length ≤ b) : ∀ x ∈ ws.set p y, x.length ≤ b := fun x hx => by
  rcases List.mem_or_eq_of_mem_set hx with h1 | rfl
  · exact h x h1
  · exact hy
theorem fresh_facts {M : List Nat} {w0 w : World} {X : List Chunk} {R : List Row} {S : List Ro} (hO : Own M w0 X R S w) {g : Nat} (hg : w.heap.size ≤ g) : g ∉ excl X R ∧ (∀ s ∈ S, s.xs ≠ [] → s.g ≠ g) ∧ w0.heap.size ≤ g :=
  ⟨fun h => by have := hO.lt g h; omega, fun s hs hne e => by have := ro_lt (hO.ro s hs) hne; omega, Nat.le_trans hO.keep.size hg⟩
theorem Own.addRowN {M : List Nat} {w0 w : World} {X : List Chunk} {R : List Row} {S : List Ro} (hO : Own M w0 X R S w) {g k c size : Nat} {xs : List Value} {e : TypeId} (hr : w.ownsRow 0 e size (.slice (some ⟨g, 0, none⟩) k c) k xs) (h1 : g ∉ excl X R) (h2 : ∀ s ∈ S, s.xs ≠ [] → s.g ≠ g) (h3 : w0.heap.size ≤ g) :
    Own M w0 X (⟨.slice (some ⟨g, 0, none⟩) k c, k, xs, e, size⟩ :: R) S w := by
  have he : ∀ q, q ∈ excl X (⟨.slice (some ⟨g, 0, none⟩) k c, k, xs, e, size⟩ :: R) ↔ q = g ∨ q ∈ excl X R := fun q => by
    unfold excl
    simp only [List.mem_append, List.filterMap_cons, show (Row.v ⟨.slice (some ⟨g, 0, none⟩) k c, k, xs, e, size⟩).ownBlock = some g from rfl, List.mem_cons]
    constructor
    · rintro (h | h | h)
      · exact .inr (.inl h)
      · exact .inl h
      · exact .inr (.inr h)
    · rintro (h | h | h)
      · exact .inr (.inl h)
      · exact .inl h
      · exact .inr (.inr h)
  refine ⟨hO.keep, hO.chunk, fun r hr' => ?_, hO.ro, ?_, fun q hq => ?_, fun s hs hne hq => ?_⟩
  · rcases List.mem_cons.1 hr' with rfl | hr'
    · exact hr
    · exact hO.row r hr'
  · have hnd := hO.nd
    have hn1 : g ∉ X.map (·.n) := fun h => h1 (List.mem_append.2 (.inl h))
    have hn2 : g ∉ R.filterMap (·.v.ownBlock) := fun h => h1 (List.mem_append.2 (.inr h))
    unfold excl at hnd ⊢
    rw [List.nodup_append] at hnd ⊢
    rw [List.filterMap_cons, show (Row.v ⟨.slice (some ⟨g, 0, none⟩) k c, k, xs, e, size⟩).ownBlock = some g from rfl]
    refine ⟨hnd.1, List.nodup_cons.2 ⟨hn2, hnd.2.1⟩, fun x hx y hy => ?_⟩
    rcases List.mem_cons.1 hy with rfl | hy
    · exact fun e => hn1 (e ▸ hx)
    · exact hnd.2.2 x hx y hy
  · rcases (he q).1 hq with rfl | hq
    · exact .inr h3
    · exact hO.free q hq
  · rcases (he s.g).1 hq with h | hq
    · exact h2 s hs hne h
    · exact hO.apart s hs hne hq
set_option maxHeartbeats 16000000 in
theorem parses_law {sl vw : Value} {zs : List Int} {us : List Bs} (w : World) (hN : Nms w) (hZ : ZsOk sl zs) (hr : ∀ s ∈ roS sl (ints zs), w.rangeAt s.g s.o s.xs) (hu : IsTexts w vw us) (hul : us.length ≤ 9223372036854775807) (hux : ∀ x ∈ us, x.length ≤ 1000000000) :
    Calls Tryd.prog 4 #[sl, vw] w fun e w' => e = .returned (.bool true) ∧ Below w.heap.size w w' := by
  have hO := own_cellsA (own_law hr) hu
  clear hr
  obtain ⟨sa, sc, rfl, -⟩ := hZ.view
  have fu := isCells_form hu
  have zu := scs_nil (ws := us)
  obtain ⟨ua, uc, rfl, hua⟩ := formC_view fu
  have hsn := fun w h => sane9_any w h
  go_enter Tryd.func4, Tryd.ntmps4
  go_upto_region 2 with (go_at_call 8; (with_reducible refine (new_any _ _ _).mono ?_); rintro e wv ⟨n, rfl, hB, hn, hb⟩; replace hO := hO.gain hb hB hn; have hT := hO.tapeIn List.mem_cons_self (by (intro s hs; repeat (first | exact hs | apply List.mem_append_right))) (Nat.zero_le _); clear hb hB hn)
  go_wp2_with fail
  go_loopw [6] (fun q wr => ∃ (i1 i : Nat), i ≤ 5 ∧ q = .int .i64 i ∧ TapeIn wr n (.slice sa zs.length sc) zs i1 ∧ Own [] w [⟨n, tcs (.slice sa zs.length sc) i1, 54⟩] [] (roS (.slice ua us.length uc) (scs us) ++ roS (.slice sa zs.length sc) (ints zs)) wr) (fun q _ => 5 - (intOf q).toNat)
  case atStart => exact ⟨0, 0, by omega, rfl, hT, hO⟩
  case round =>
    clear hO hT
    obtain ⟨i1, i, hi, rfl, hT, hO⟩ := hrel
    by_cases hlt : i < 5
    · have g1 : decide ((i : Int) < 5) = true := decide_eq_true (by omega)
      have s4 : IntKind.i64.wrap ((i : Int) + 1) = (i : Int) + 1 := IntWalk.i64_in _ (by omega)
      go_upto_region 6 with (go_at_call 17; (with_reducible refine (words_any hZ (hO.tapeIn List.mem_cons_self (by (intro s hs; repeat (first | exact hs | apply List.mem_append_right))) hT.le)).mono ?_); rintro e wv ⟨v, i2, rfl, ⟨ws, cx, gx, rfl, hx2, hx20, hwx, hrow, hgx⟩, hk9, hT1⟩; have hff := fresh_facts hO hgx; replace hO := hO.after (by (repeat (exact Upd.here))) hk9 hT1.blk; replace hT := hT1; clear hT1 hk9; replace hO := hO.addRowN hrow hff.1 hff.2.1 hff.2.2; clear hff hgx hrow)
      have hw9 : ∀ x ∈ ws, x.length ≤ 1000000000 := fun x hx => Nat.le_trans (hwx x hx) (by omega)
      have hcx := formC_cap (isCells_form (hO.rowIs List.mem_cons_self))
      go_upto_region 8 with (first | (go_at_call 18; (with_reducible refine (parses_any (ws := ws) _ (hO.rowIs List.mem_cons_self) (by omega) hw9 (hO.nms hN (by simp))).mono ?_); rintro e wv ⟨rfl, hb⟩; replace hO := hO.call hb; clear hb) | ((fail_if_success (have := hr3)); (go_at_call 19); (with_reducible refine (next_pos (ws.length : Int) hZ (hO.tapeIn List.mem_cons_self (by (intro s hs; repeat (first | exact hs | apply List.mem_append_right))) hT.le) (by omega) (by omega)).mono ?_); rintro e wv ⟨v, i3, rfl, hv, hk9, hT1⟩; replace hO := hO.after (by (repeat (exact Upd.here))) hk9 hT1.blk; replace hT := hT1; clear hT1 hk9; obtain ⟨r, rfl, hr3, hs3⟩ := hv; obtain ⟨p, rfl⟩ : ∃ p : Nat, r = (p : Int) := ⟨r.toNat, by omega⟩; have hpc : p ≤ cx := (by omega)) | (go_at_call 18; (with_reducible refine (parses_any (ws := ws.take (p)) _ (front_cells (hO.rowIs List.mem_cons_self) (by omega)) (by rw [List.length_take]; omega) (fun x hx => hw9 x (List.mem_of_mem_take hx)) (hO.nms hN (by simp))).mono ?_); rintro e wv ⟨rfl, hb⟩; replace hO := hO.call hb; clear hb))
      clear hr3 hs3 hpc hcx
      go_upto_region 9 with (first | ((with_reducible refine is_load ?_); (refine own_ldV (h := ?_))) | ((fail_if_success (have := hr5)); (go_at_call 19); (with_reducible refine (next_pos (ws.length : Int) hZ (hO.tapeIn List.mem_cons_self (by (intro s hs; repeat (first | exact hs | apply List.mem_append_right))) hT.le) (by omega) (by omega)).mono ?_); rintro e wv ⟨v, i5, rfl, hv, hk9, hT1⟩; replace hO := hO.after (by (repeat (exact Upd.here))) hk9 hT1.blk; replace hT := hT1; clear hT1 hk9; obtain ⟨r, rfl, hr5, hs5⟩ := hv; obtain ⟨q, rfl⟩ : ∃ q : Nat, r = (q : Int) := ⟨r.toNat, by omega⟩; have hqw : q < ws.length := (by omega)) | ((fail_if_success (have := hr6)); (go_at_call 19); (with_reducible refine (next_pos (ws.length : Int) hZ (hO.tapeIn List.mem_cons_self (by (intro s hs; repeat (first | exact hs | apply List.mem_append_right))) hT.le) (by omega) (by omega)).mono ?_); rintro e wv ⟨v, i6, rfl, hv, hk9, hT1⟩; replace hO := hO.after (by (repeat (exact Upd.here))) hk9 hT1.blk; replace hT := hT1; clear hT1 hk9; obtain ⟨r, rfl, hr6, hs6⟩ := hv; obtain ⟨m, rfl⟩ : ∃ m : Nat, r = (m : Int) := ⟨r.toNat, by omega⟩; have hmw : m < ws.length := (by omega); have u1 := scs_at hmw; have hzl := hwx _ (List.getElem_mem hmw); obtain ⟨z, hz⟩ : ∃ z, ws[m] = z := ⟨_, rfl⟩; rw [hz] at u1 hzl; clear hz) | (go_at_call 11; (with_reducible refine (text_any hZ (hO.tapeIn List.mem_cons_self (by (intro s hs; repeat (first | exact hs | apply List.mem_append_right))) hT.le) z (by omega)).mono ?_); rintro e wv ⟨v, i7, rfl, ⟨y, rfl, hy⟩, hk9, hT1⟩; replace hO := hO.after (by (repeat (exact Upd.here))) hk9 hT1.blk; replace hT := hT1; clear hT1 hk9) | ((with_reducible refine is_store ?_); (refine own_stRow (v := .string ⟨y.toArray⟩) hO (by rfl) rfl rfl rfl one_strS .here (by rw [scs_len]; exact hqw) rfl ?_); clear hO; intro wv hO))
      have hw3 := set_short (p := q) hw9 (show y.length ≤ 1000000000 by omega)
      have hsl : (ws.set q y).length = ws.length := List.length_set ..
      rw [show (scs ws).set q (.string ⟨y.toArray⟩) = scs (ws.set q y) by simp [scs]] at hO
      generalize ws.set q y = us2 at *
      clear hw9 hwx hx2 hr5 hs5 hr6 hs6 hqw hmw u1 hzl hy
      have hP := fun w h => parses_any (vl := .slice (some ⟨gx, 0, none⟩) ws.length cx) (ws := us2) w (by rw [hsl]; exact h) (by omega) hw3
      clear hw3 hsl
      go_wp2_with (go_at_call 18; (with_reducible refine (hP _ (hO.rowIs List.mem_cons_self) (hO.nms hN (by simp))).mono ?_); rintro e wv ⟨rfl, hb⟩; replace hO := hO.call hb; clear hb)
      go_roundw
      case rel => exact ⟨i7, i + 1, by omega, by go_num, (hO.tapeIn List.mem_cons_self (by (intro s hs; repeat (first | exact hs | apply List.mem_append_right))) hT.le), hO.sub (R' := []) (.refl _) (List.nil_sublist _) (fun _ h => h)⟩
      case measure => simp [intOf]; omega
    · have g1 : decide ((i : Int) < 5) = false := decide_eq_false (by omega)
      clear hlt hi
      go_wp2_with ((fail_if_success (have := hr3)); (go_at_call 19); (with_reducible refine (next_pos 5 hZ (hO.tapeIn List.mem_cons_self (by (intro s hs; repeat (first | exact hs | apply List.mem_append_right))) hT.le) (by omega) (by omega)).mono ?_); rintro e wv ⟨v, i3, rfl, hv, hk9, hT1⟩; replace hO := hO.after (by (repeat (exact Upd.here))) hk9 hT1.blk; replace hT := hT1; clear hT1 hk9; obtain ⟨r, rfl, hr3, hs3⟩ := hv; obtain ⟨J, rfl⟩ : ∃ J : Nat, r = (J : Int) := ⟨r.toNat, by omega⟩; have t1 : IntKind.i64.wrap (14 + (J : Int)) = ((J + 14 : Nat) : Int) := by rw [IntWalk.i64_in _ (by omega)]; omega)
      replace hO := hO.nilRow 9 1
      go_loopw [8, 9] (fun r q wr => ∃ (ws : List Bs) (j : Nat), q = .int .i64 j ∧ ws.length + 3 * j ≤ 60 ∧ ws.length + j ≥ 1 ∧ (∀ x ∈ ws, x.length ≤ 1000000000) ∧ Own [] w [⟨n, tcs (.slice sa zs.length sc) i3, 54⟩] [⟨r, ws.length, scs ws, 9, 1⟩] (roS (.slice ua us.length uc) (scs us) ++ roS (.slice sa zs.length sc) (ints zs)) wr) (fun _ q _ => (intOf q).toNat)
      case atStart => exact ⟨[], J + 14, rfl, by simp; omega, by simp, by simp, hO⟩
      case round =>
        clear hO hT hr3 hs3 t1
        obtain ⟨ws, j, rfl, hwl, hw1, hwx, hO⟩ := hrel
        obtain ⟨a7, c7, rfl, ha7⟩ := own_view hO List.mem_cons_self
        by_cases hj : 0 < j
        · obtain ⟨j, rfl⟩ : ∃ k, j = k + 1 := ⟨j - 1, by omega⟩
          have g1 : decide (((j + 1 : Nat) : Int) > 0) = true := decide_eq_true (by omega)
          have s1 : IntKind.i64.wrap (((j + 1 : Nat) : Int) - 1) = (j : Int) := by rw [IntWalk.i64_in _ (by omega)]; omega
          go_wp2_with (first | ((with_reducible refine is_append ?_); (refine own_apV (o := ⟨some 58, _, _, _, _, _⟩) (hO := hO) (h := ?_); clear hO; intro g58 c58 wv hO)) | ((with_reducible refine is_build ?_); (refine' own_buildP (o := ⟨some 57, _, _, _, _, _⟩) [.string ⟨#[109, 111, 110]⟩, .string ⟨#[48, 56, 58, 48, 48, 45, 48, 57, 58, 48, 48]⟩, .string ⟨#[44]⟩] hO (by rfl) rfl slice_strings rfl rfl (by rfl) (by decide) (by decide) ?_); clear hO; intro n57 wv hO))
          have HC : Hid (scs ws ++ [Value.string ⟨#[109, 111, 110]⟩, Value.string ⟨#[48, 56, 58, 48, 48, 45, 48, 57, 58, 48, 48]⟩, Value.string ⟨#[44]⟩] = scs (ws ++ [[109, 111, 110], [48, 56, 58, 48, 48, 45, 48, 57, 58, 48, 48], [44]])) := Lib.hid (by simp [scs])
          rw [HC.out] at hO
          go_roundw
          case rel =>
            refine ⟨ws ++ [[109, 111, 110], [48, 56, 58, 48, 48, 45, 48, 57, 58, 48, 48], [44]], j, by go_num, by simp; omega, by simp; omega, fun x hx => ?_, by rw [List.length_append]; exact hO.sub (X' := [⟨n, tcs (.slice sa zs.length sc) i3, 54⟩]) (.cons _ (.refl _)) (.refl _) (fun _ h => h)⟩
            rcases List.mem_append.1 hx with hx | hx
            · exact hwx x hx
            · simp only [List.mem_cons, List.not_mem_nil, or_false] at hx
              rcases hx with rfl | rfl | rfl <;> decide
          case measure => simp [intOf]
        · obtain rfl : j = 0 := by omega
          have g1 : decide (((0 : Nat) : Int) > 0) = false := rfl
          have hw0 : 0 < ws.length := by omega
          obtain ⟨g7, rfl⟩ := ha7 hw0
          have hw9 := hwx
          have s1 : IntKind.i64.wrap ((ws.length : Int) - 1) = ((ws.length - 1 : Nat) : Int) := by rw [IntWalk.i64_in _ (by omega)]; omega
          have hcx := formC_cap (isCells_form (hO.rowIs List.mem_cons_self))
          have hpc : ws.length - 1 ≤ c7 := by omega
          have hF : ∀ w, IsCells w (.slice (some ⟨g7, 0, none⟩) ws.length c7) ws.length (scs ws) → Nms w → Calls Tryd.prog 18 #[.slice (some ⟨g7, 0, none⟩) (ws.length - 1) c7] w fun e w' => e = .returned (.bool true) ∧ Below w.heap.size w w' := fun w h hN =>
            parses_any (ws := ws.take (ws.length - 1)) w (front_cells h (by omega)) (by rw [List.length_take]; omega) (fun x hx => hw9 x (List.mem_of_mem_take hx)) hN
          have hA := fun w h hN => parses_any (vl := .slice (some ⟨g7, 0, none⟩) ws.length c7) (ws := ws) w h (by omega) hw9 hN
          have hNev : ∀ v w, IsCells w v 1 [.string ⟨#[110, 101, 118, 101, 114]⟩] → Nms w → Calls Tryd.prog 18 #[v] w fun e w' => e = .returned (.bool true) ∧ Below w.heap.size w w' := fun v w h hN =>
            parses_any (ws := [[110, 101, 118, 101, 114]]) w h (by simp) (by simp) hN
          clear hw9 hwx hw1 ha7
          have fu2 := fu
          rcases fu2 with ⟨h, h0⟩ | ⟨gu, ou, cu, h, hcu⟩
          · obtain rfl := List.length_eq_zero_iff.1 h0
            cases h
            have hU : ∀ w, Nms w → Calls Tryd.prog 18 #[.slice none 0 0] w fun e w' => e = .returned (.bool true) ∧ Below w.heap.size w w' := fun w hN =>
              parses_any (ws := []) w (.inl ⟨rfl, rfl, rfl⟩) (by simp) (by simp) hN
            have e9 : min (((([] : List Bs).length : Nat)) : Int) 100 = 0 := by decide
            have e8 : min (0 : Int) 100 = 0 := by decide
            go_wp2_with (first | (go_at_call 18; (with_reducible refine (hF _ (hO.rowIs List.mem_cons_self) (hO.nms hN (by simp))).mono ?_); rintro e wv ⟨rfl, hb⟩; replace hO := hO.call hb; clear hb) | (go_at_call 18; (with_reducible refine (hA _ (hO.rowIs List.mem_cons_self) (hO.nms hN (by simp))).mono ?_); rintro e wv ⟨rfl, hb⟩; replace hO := hO.call hb; clear hb) | ((with_reducible refine is_build ?_); (refine' own_buildP (o := ⟨some 70, _, _, _, _, _⟩) [.string ⟨#[110, 101, 118, 101, 114]⟩] hO (by rfl) rfl slice_strings rfl rfl (by rfl) (by decide) (by decide) ?_); clear hO; intro n70 wv hO) | (go_at_call 18; (with_reducible refine (hNev _ _ (lit_cells (own_chunkAt hO List.mem_cons_self)) (hO.nms hN (by simp))).mono ?_); rintro e wv ⟨rfl, hb⟩; replace hO := hO.call hb; clear hb) | (go_at_call 18; (with_reducible refine (hU _ (hO.nms hN (by simp))).mono ?_); rintro e wv ⟨rfl, hb⟩; replace hO := hO.call hb; clear hb) | (go_at_call 16; (with_reducible refine (hsn _ (hO.nms hN (by simp))).mono ?_); rintro e wv ⟨rfl, hb⟩; replace hO := hO.call hb; clear hb))
            go_ret
            exact ⟨rfl, hO.keep.below⟩
          · cases h
            obtain ⟨p, hp1, hp2, hp3⟩ : ∃ p : Nat, p ≤ us.length ∧ p ≤ 100 ∧ min (us.length : Int) 100 = (p : Int) := ⟨min us.length 100, by omega, by omega, by omega⟩
            have hpu : p ≤ uc := by omega
            have hU : ∀ w, IsCells w (.slice (some ⟨gu, ou, none⟩) us.length uc) us.length (scs us) → Nms w → Calls Tryd.prog 18 #[.slice (some ⟨gu, ou, none⟩) p uc] w fun e w' => e = .returned (.bool true) ∧ Below w.heap.size w w' := fun w h hN =>
              parses_any (ws := us.take p) w (front_cells h hp1) (by rw [List.length_take]; omega) (fun x hx => hux x (List.mem_of_mem_take hx)) hN
            go_wp2_with (first | (go_at_call 18; (with_reducible refine (hF _ (hO.rowIs List.mem_cons_self) (hO.nms hN (by simp))).mono ?_); rintro e wv ⟨rfl, hb⟩; replace hO := hO.call hb; clear hb) | (go_at_call 18; (with_reducible refine (hA _ (hO.rowIs List.mem_cons_self) (hO.nms hN (by simp))).mono ?_); rintro e wv ⟨rfl, hb⟩; replace hO := hO.call hb; clear hb) | ((with_reducible refine is_build ?_); (refine' own_buildP (o := ⟨some 70, _, _, _, _, _⟩) [.string ⟨#[110, 101, 118, 101, 114]⟩] hO (by rfl) rfl slice_strings rfl rfl (by rfl) (by decide) (by decide) ?_); clear hO; intro n70 wv hO) | (go_at_call 18; (with_reducible refine (hNev _ _ (lit_cells (own_chunkAt hO List.mem_cons_self)) (hO.nms hN (by simp))).mono ?_); rintro e wv ⟨rfl, hb⟩; replace hO := hO.call hb; clear hb) | (go_at_call 18; (with_reducible refine (hU _ (hO.isC fu zu (by intro q hq; repeat (exact List.mem_append_left _ hq))) (hO.nms hN (by simp))).mono ?_); rintro e wv ⟨rfl, hb⟩; replace hO := hO.call hb; clear hb) | (go_at_call 16; (with_reducible refine (hsn _ (hO.nms hN (by simp))).mono ?_); rintro e wv ⟨rfl, hb⟩; replace hO := hO.call hb; clear hb))
            go_ret
            exact ⟨rfl, hO.keep.below⟩
end Go.Proofs.YtfhkmkbfgmbbaaaDoor
