/- The tape's windows. -/
import Derived.Test.YtfhkmkbfgmbbaaaGreatDoorML
import Derived.Test.YtfhkmkbfgmbbaaaGreatDoorMB
namespace Go.Proofs.YtfhkmkbfgmbbaaaGreatDoor
open Go.RowKit
set_option maxRecDepth 100000
theorem Own.offC {M : List Nat} {w0 w : World} {X : List Chunk} {R : List Row} {S : List Ro} (hO : Own M w0 X R S w) {v : Value} {k : Nat} {xs : List Value} (hv : IsCells w v k xs) (hoff : ∀ g, v.ownBlock = some g → g ∉ excl X R) : Own M w0 X R (roS v xs ++ S) w := by
  rcases hv with ⟨rfl, _, rfl⟩ | ⟨g, o, c, rfl, _, hr⟩
  · exact hO
  · exact hO.addRo ⟨g, o, xs⟩ hr fun _ => hoff g rfl
/-- a window -/
def WinOk (K : List Rg) : Prop := canR K ∧ (∀ r ∈ K, 0 ≤ r.lo ∧ r.hi ≤ 10079) ∧ K.length ≤ 1000
theorem WinOk.bnd {K : List Rg} (h : WinOk K) : BndR K := fun r hr => by
  have h1 := h.1.1 r hr
  have h2 := h.2.1 r hr
  omega
theorem itR_win {a f u : Int} (ha : 0 ≤ a) (hf : 0 ≤ f) (hu : f < u) (h2 : u ≤ 1440) : ∀ n : Nat, a + n ≤ 7 → ∀ r ∈ itR a f u n, 0 ≤ r.lo ∧ r.lo ≤ r.hi ∧ r.hi ≤ 10079
  | 0, _ => fun _ h => absurd h List.not_mem_nil
  | n + 1, hn => fun r hr => by
    rw [itR] at hr
    rcases List.mem_append.1 hr with hr | hr
    · exact itR_win ha hf hu h2 n (by omega) r hr
    · obtain rfl := List.mem_singleton.1 hr
      dsimp only
      omega
theorem item_win {d t : Bs} {L : List Rg} (h : itemF d t = some L) : (∀ r ∈ L, 0 ≤ r.lo ∧ r.lo ≤ r.hi ∧ r.hi ≤ 10079) ∧ L.length ≤ 7 := by
  unfold itemF at h
  split at h
  · rename_i a b f u h1 h2
    cases h
    have h3 := spanR_bd h1
    have h4 := timR_bd h2
    exact ⟨itR_win h3.1 h4.1 h4.2.1 h4.2.2 _ (by omega), by rw [itR_len]; omega⟩
  · cases h
theorem items_win : ∀ {ws : List Bs} {m : List Rg} {k : Nat}, itemsF ws = some (m, k) → (∀ r ∈ m, 0 ≤ r.lo ∧ r.lo ≤ r.hi ∧ r.hi ≤ 10079) ∧ m.length ≤ 7 * k
  | [], _, _, h => by cases h
  | [_], _, _, h => by cases h
  | [d, t], m, k, h => by
    rw [itemsF] at h
    split at h
    · rename_i L hL
      cases h
      have := item_win hL
      exact ⟨this.1, by omega⟩
    · cases h
  | d :: t :: c :: rest, m, k, h => by
    rw [itemsF] at h
    split at h
    · split at h
      · rename_i L m2 k2 hL hr
        cases h
        have h1 := item_win hL
        have h2 := items_win hr
        refine ⟨fun r hr => (List.mem_append.1 hr).elim (h1.1 r) (h2.1 r), ?_⟩
        rw [List.length_append]
        omega
      · cases h
    · cases h
theorem nil_win : WinOk [] := ⟨⟨fun _ h => absurd h List.not_mem_nil, List.Pairwise.nil⟩, fun _ h => absurd h List.not_mem_nil, by simp⟩
theorem canU_win {m : List Rg} (h : ∀ r ∈ m, 0 ≤ r.lo ∧ r.lo ≤ r.hi ∧ r.hi ≤ 10079) (hl : m.length ≤ 400) : WinOk (canU m) := by
  have hb : BndR m := fun r hr => by have := h r hr; omega
  have hc := canU_is hb
  refine ⟨hc.1, fun r hr => ?_, by have := canU_len m; omega⟩
  have hr2 := hc.1.1 r hr
  obtain ⟨s, hs, h1, h2⟩ := (hc.2 r.lo).1 ⟨r, hr, Int.le_refl _, hr2⟩
  obtain ⟨t, ht, h3, h4⟩ := (hc.2 r.hi).1 ⟨r, hr, hr2, Int.le_refl _⟩
  have := h s hs
  have := h t ht
  omega
theorem pars_win {ws : List Bs} {l : List Rg} (h : parsF 16 ws = .is l) : WinOk l := by
  unfold parsF at h
  split at h
  · cases h; exact nil_win
  · split at h
    · cases h
    · rename_i p hp
      split at h
      · cases h
      · rename_i hk
        cases h
        obtain ⟨m, k⟩ := p
        dsimp only at hk ⊢
        have h2 := items_win hp
        exact canU_win h2.1 (by omega)
theorem winP_win {B : Nat} {w w' : World} {ws : List Bs} {e : Ending} (h : WinP B w (parsF 16 ws) e w') : ∃ v K f, e = .returned (.tuple #[v, .int .i64 f]) ∧ WinOk K ∧ IsCells w' v K.length (rcs K) ∧ NewFrom w v ∧ Below B w w' := by
  cases hp : parsF 16 ws with
  | bad => rw [hp] at h; exact ⟨_, [], _, h.1, nil_win, .inl ⟨rfl, rfl, rfl⟩, fun g h => (by cases h), h.2⟩
  | much => rw [hp] at h; exact ⟨_, [], _, h.1, nil_win, .inl ⟨rfl, rfl, rfl⟩, fun g h => (by cases h), h.2⟩
  | is l =>
    rw [hp] at h
    obtain ⟨v, he, ⟨hv, hn⟩, hb⟩ := h
    exact ⟨v, l, 0, he, pars_win hp, hv, hn, hb⟩
def wdC : List Value := [.string ⟨#[109, 111, 110]⟩, .string ⟨#[116, 117, 101]⟩, .string ⟨#[115, 117, 110]⟩, .string ⟨#[109, 111, 110, 45, 102, 114, 105]⟩, .string ⟨#[115, 97, 116, 45, 115, 117, 110]⟩, .string ⟨#[119, 101, 100, 45, 119, 101, 100]⟩]
def whC : List Value := [.string ⟨#[48, 48, 58, 48, 48, 45, 50, 52, 58, 48, 48]⟩, .string ⟨#[48, 56, 58, 48, 48, 45, 49, 55, 58, 48, 48]⟩, .string ⟨#[48, 56, 58, 48, 48, 45, 48, 56, 58, 48, 49]⟩, .string ⟨#[50, 51, 58, 53, 57, 45, 50, 52, 58, 48, 48]⟩, .string ⟨#[49, 55, 58, 48, 48, 45, 49, 56, 58, 51, 48]⟩]
theorem wd_cell {a : Nat} (h : a < 6) : ∃ x : Bs, wdC[a]? = some (.string ⟨x.toArray⟩) ∧ x.length ≤ 11 := by
  rcases (show a = 0 ∨ a = 1 ∨ a = 2 ∨ a = 3 ∨ a = 4 ∨ a = 5 by omega) with rfl | rfl | rfl | rfl | rfl | rfl
  · exact ⟨[109, 111, 110], rfl, by decide⟩
  · exact ⟨[116, 117, 101], rfl, by decide⟩
  · exact ⟨[115, 117, 110], rfl, by decide⟩
  · exact ⟨[109, 111, 110, 45, 102, 114, 105], rfl, by decide⟩
  · exact ⟨[115, 97, 116, 45, 115, 117, 110], rfl, by decide⟩
  · exact ⟨[119, 101, 100, 45, 119, 101, 100], rfl, by decide⟩
theorem wh_cell {a : Nat} (h : a < 5) : ∃ x : Bs, whC[a]? = some (.string ⟨x.toArray⟩) ∧ x.length ≤ 11 := by
  rcases (show a = 0 ∨ a = 1 ∨ a = 2 ∨ a = 3 ∨ a = 4 by omega) with rfl | rfl | rfl | rfl | rfl
  · exact ⟨[48, 48, 58, 48, 48, 45, 50, 52, 58, 48, 48], rfl, by decide⟩
  · exact ⟨[48, 56, 58, 48, 48, 45, 49, 55, 58, 48, 48], rfl, by decide⟩
  · exact ⟨[48, 56, 58, 48, 48, 45, 48, 56, 58, 48, 49], rfl, by decide⟩
  · exact ⟨[50, 51, 58, 53, 57, 45, 50, 52, 58, 48, 48], rfl, by decide⟩
  · exact ⟨[49, 55, 58, 48, 48, 45, 49, 56, 58, 51, 48], rfl, by decide⟩
set_option maxHeartbeats 16000000 in
theorem window_any {w : World} {n : Nat} {sl : Value} {zs : List Int} {i : Nat} (hZ : ZsOk sl zs) (hT : TapeIn w n sl zs i) :
    Calls Tryz.prog 5 #[.pointer (some ⟨n, 0, none⟩)] w (TPost w n sl zs fun v w' => ∃ K, WinOk K ∧ IsCells w' v K.length (rcs K) ∧ NewFrom w v) := by
  have hO := own_tape hT
  obtain ⟨sa, sc, rfl, -⟩ := hZ.view
  go_enter Tryz.func5, Tryz.ntmps5
  go_upto_region 3 with (first | ((with_reducible refine is_build ?_); (refine' own_buildP (o := ⟨some 9, _, _, _, _, _⟩) [.string ⟨#[109, 111, 110]⟩, .string ⟨#[116, 117, 101]⟩, .string ⟨#[115, 117, 110]⟩, .string ⟨#[109, 111, 110, 45, 102, 114, 105]⟩, .string ⟨#[115, 97, 116, 45, 115, 117, 110]⟩, .string ⟨#[119, 101, 100, 45, 119, 101, 100]⟩] hO (by rfl) rfl slice_strings rfl rfl (by rfl) (by decide) (by decide) ?_); clear hO; intro n9 wv hO) | ((with_reducible refine is_build ?_); (refine' own_buildP (o := ⟨some 10, _, _, _, _, _⟩) [.string ⟨#[48, 48, 58, 48, 48, 45, 50, 52, 58, 48, 48]⟩, .string ⟨#[48, 56, 58, 48, 48, 45, 49, 55, 58, 48, 48]⟩, .string ⟨#[48, 56, 58, 48, 48, 45, 48, 56, 58, 48, 49]⟩, .string ⟨#[50, 51, 58, 53, 57, 45, 50, 52, 58, 48, 48]⟩, .string ⟨#[49, 55, 58, 48, 48, 45, 49, 56, 58, 51, 48]⟩] hO (by rfl) rfl slice_strings rfl rfl (by rfl) (by decide) (by decide) ?_); clear hO; intro n10 wv hO))
  replace hO : Own [n] w [⟨n10, whC, 9⟩, ⟨n9, wdC, 9⟩, ⟨n, tcs (.slice sa zs.length sc) i, 40⟩] [] (roS (.slice sa zs.length sc) (ints zs)) wv := hO
  replace hT := (hO.tapeIn (by (repeat (first | exact List.mem_cons_self | refine List.mem_cons_of_mem _ ?_))) (fun _ h => h) hT.le)
  refine wp_region_any (by kernel_rfl) ?_
  replace hO := hO.drew
  have ix9 := Ix.mk [0, 1, 5, 6]
  iterate 4 (refine wpAny_tk ix9 ?_; replace ix9 := ix9.tail; (first | go_big_quiet_skip | (go_big_quiet_want; (go_big_quiet_op; (first | go_big_quiet_on | ((refine ⟨_, fun _ _ => rfl, ?_⟩); go_big_quiet_on))))); (refine wpQuiet_nil ?_); (try simp only [Act.put]); (try simp only [List.setIfInBounds_toArray, List.set_cons_zero, List.set_cons_succ]))
  clear ix9
  refine wpAny_all (rs := [2]) (by kernel_rfl) (by simp) (ord_cons ?_ ord_nil)
  rotate_left 1
  all_goals
    refine wpOp_of_listL rfl ?_
    ((refine wpList_step (fun K hK => ?_)); go_simp; ((go_at_call 17; (with_reducible refine (next_pos 6 hZ (hO.tapeIn (by (repeat (first | exact List.mem_cons_self | refine List.mem_cons_of_mem _ ?_))) (fun _ h => h) hT.le) (by omega) (by omega)).mono ?_); rintro e wv ⟨v, i1, rfl, hv, hk9, hT1⟩; replace hO := hO.after (by (repeat (first | exact Upd.here | apply Upd.there))) hk9 hT1.blk; replace hT := hT1; clear hT1 hk9; obtain ⟨r, rfl, hr0, hr1⟩ := hv; obtain ⟨A, rfl⟩ : ∃ A : Nat, r = (A : Int) := ⟨r.toNat, by omega⟩; obtain ⟨xa, hxa, na⟩ := wd_cell (a := A) (by omega)); (try simp only []); (refine hK _ _ ?_); clear hK K))
    refine wpList_done (qk_intro ?_)
  refine wpAny_tk (Ix.mk [3]) ?_
  (first | go_big_quiet_skip | (go_big_quiet_want; (go_big_quiet_op; (first | go_big_quiet_on | ((refine ⟨_, fun _ _ => rfl, ?_⟩); go_big_quiet_on))))); (refine wpQuiet_nil ?_); (try simp only [Act.put]); (try simp only [List.setIfInBounds_toArray, List.set_cons_zero, List.set_cons_succ])
  refine wpAny_all (rs := [4, 7]) (by kernel_rfl) (by simp) (ord_cons ?_ (ord_cons ?_ ord_nil))
  rotate_left 2
  all_goals
    refine wpOp_of_listL rfl ?_
    (first | ((with_reducible refine is_load ?_); (refine own_ldV (h := ?_))) | ((refine wpList_step (fun K hK => ?_)); go_simp; ((go_at_call 17; (with_reducible refine (next_pos 5 hZ (hO.tapeIn (by (repeat (first | exact List.mem_cons_self | refine List.mem_cons_of_mem _ ?_))) (fun _ h => h) hT.le) (by omega) (by omega)).mono ?_); rintro e wv ⟨v, i2, rfl, hv, hk9, hT1⟩; replace hO := hO.after (by (repeat (first | exact Upd.here | apply Upd.there))) hk9 hT1.blk; replace hT := hT1; clear hT1 hk9; obtain ⟨r, rfl, hr2, hr3⟩ := hv; obtain ⟨B, rfl⟩ : ∃ B : Nat, r = (B : Int) := ⟨r.toNat, by omega⟩; obtain ⟨xb, hxb, nb⟩ := wh_cell (a := B) (by omega)); (try simp only []); (refine hK _ _ ?_); clear hK K))); (try simp only [Act.put]); (try simp only [List.setIfInBounds_toArray, List.set_cons_zero, List.set_cons_succ])
    refine wpList_done (qk_intro ?_)
  refine wpAny_all (rs := [7]) (by kernel_rfl) (by simp) (ord_cons ?_ ord_nil)
  rotate_left 1
  refine wpAny_tk (Ix.mk [8]) ?_
  (first | go_big_quiet_skip | (go_big_quiet_want; (go_big_quiet_op; (first | go_big_quiet_on | ((refine ⟨_, fun _ _ => rfl, ?_⟩); go_big_quiet_on))))); (refine wpQuiet_nil ?_); (try simp only [Act.put]); (try simp only [List.setIfInBounds_toArray, List.set_cons_zero, List.set_cons_succ])
  refine wpAny_all (rs := [4, 9]) (by kernel_rfl) (by simp) (ord_cons ?_ (ord_cons ?_ ord_nil))
  rotate_left 2
  all_goals
    refine wpOp_of_listL rfl ?_
    (first | ((with_reducible refine is_load ?_); (refine own_ldV (h := ?_))) | ((refine wpList_step (fun K hK => ?_)); go_simp; ((go_at_call 17; (with_reducible refine (next_pos 5 hZ (hO.tapeIn (by (repeat (first | exact List.mem_cons_self | refine List.mem_cons_of_mem _ ?_))) (fun _ h => h) hT.le) (by omega) (by omega)).mono ?_); rintro e wv ⟨v, i2, rfl, hv, hk9, hT1⟩; replace hO := hO.after (by (repeat (first | exact Upd.here | apply Upd.there))) hk9 hT1.blk; replace hT := hT1; clear hT1 hk9; obtain ⟨r, rfl, hr2, hr3⟩ := hv; obtain ⟨B, rfl⟩ : ∃ B : Nat, r = (B : Int) := ⟨r.toNat, by omega⟩; obtain ⟨xb, hxb, nb⟩ := wh_cell (a := B) (by omega)); (try simp only []); (refine hK _ _ ?_); clear hK K))); (try simp only [Act.put]); (try simp only [List.setIfInBounds_toArray, List.set_cons_zero, List.set_cons_succ])
    refine wpList_done (qk_intro ?_)
  refine wpAny_tk (Ix.mk [8]) ?_
  (first | go_big_quiet_skip | (go_big_quiet_want; (go_big_quiet_op; (first | go_big_quiet_on | ((refine ⟨_, fun _ _ => rfl, ?_⟩); go_big_quiet_on))))); (refine wpQuiet_nil ?_); (try simp only [Act.put]); (try simp only [List.setIfInBounds_toArray, List.set_cons_zero, List.set_cons_succ])
  refine wpAny_all (rs := [9]) (by kernel_rfl) (by simp) (ord_cons ?_ ord_nil)
  rotate_left 1
  refine wpAny_all (rs := [9]) (by kernel_rfl) (by simp) (ord_cons ?_ ord_nil)
  rotate_left 1
  refine wpAny_all (rs := [4]) (by kernel_rfl) (by simp) (ord_cons ?_ ord_nil)
  rotate_left 1
  all_goals
    refine wpOp_of_listL rfl ?_
    ((with_reducible refine is_load ?_); (refine own_ldV (h := ?_))); (try simp only [Act.put]); (try simp only [List.setIfInBounds_toArray, List.set_cons_zero, List.set_cons_succ])
    refine wpList_done (qk_intro ?_)
  refine wpAny_all (rs := [10]) (by kernel_rfl) (by simp) (ord_cons ?_ ord_nil)
  rotate_left 1
  refine wpAny_all (rs := [10]) (by kernel_rfl) (by simp) (ord_cons ?_ ord_nil)
  rotate_left 1
  refine wpAny_all (rs := [10]) (by kernel_rfl) (by simp) (ord_cons ?_ ord_nil)
  rotate_left 1
  all_goals
    refine wpOp_of_listL rfl ?_
    ((with_reducible refine is_build ?_); (refine' own_buildP (o := ⟨some 21, _, _, _, _, _⟩) [.string ⟨xa.toArray⟩, .string ⟨xb.toArray⟩] hO (by rfl) rfl slice_strings rfl rfl (by rfl) (by decide) (by decide) ?_); clear hO; intro n21 wv hO); (try simp only [Act.put]); (try simp only [List.setIfInBounds_toArray, List.set_cons_zero, List.set_cons_succ])
    refine wpList_done (qk_intro ?_)
  refine wpAny_all (rs := [11]) (by kernel_rfl) (by simp) (ord_cons ?_ ord_nil)
  rotate_left 1
  refine wpAny_all (rs := [11]) (by kernel_rfl) (by simp) (ord_cons ?_ ord_nil)
  rotate_left 1
  refine wpAny_all (rs := [11]) (by kernel_rfl) (by simp) (ord_cons ?_ ord_nil)
  rotate_left 1
  all_goals
    refine wpOp_of_listL rfl ?_
    ((refine wpList_step (fun K hK => ?_)); go_simp; ((refine hK _ _ ?_); clear hK K))
    refine wpList_done (qk_intro ?_)
  refine wpAny_done (by kernel_rfl) ?_ _
  rotate_left
  refine wpAny_done (by kernel_rfl) ?_ _
  rotate_left
  refine wpAny_done (by kernel_rfl) ?_ _
  rotate_left
  all_goals
    have hO2 := hO.chunkRow (k := 2) (size := 1) rfl (by decide)
    clear hO hxa hxb hr0 hr1 hr2 hr3
    have hO := hO2
    clear hO2
    go_wp2_with (go_at_call 17; (with_reducible refine (next_pos 3 hZ (hO.tapeIn (by (repeat (first | exact List.mem_cons_self | refine List.mem_cons_of_mem _ ?_))) (fun _ h => h) hT.le) (by omega) (by omega)).mono ?_); rintro e wv ⟨v, i3, rfl, hv, hk9, hT1⟩; replace hO := hO.after (by (repeat (first | exact Upd.here | apply Upd.there))) hk9 hT1.blk; replace hT := hT1; clear hT1 hk9; obtain ⟨r, rfl, hr0, hr1⟩ := hv; obtain ⟨J, rfl⟩ : ∃ J : Nat, r = (J : Int) := ⟨r.toNat, by omega⟩)
    go_loopw [5, 6] (fun r q wr => ∃ (ws : List Bs) (i1 j : Nat), q = .int .i64 j ∧ ws.length + 3 * j ≤ 8 ∧ (∀ x ∈ ws, x.length ≤ 11) ∧ TapeIn wr n (.slice sa zs.length sc) zs i1 ∧ Own [n] w [⟨n10, whC, 9⟩, ⟨n9, wdC, 9⟩, ⟨n, tcs (.slice sa zs.length sc) i1, 40⟩] [⟨r, ws.length, scs ws, 9, 1⟩] (roS (.slice sa zs.length sc) (ints zs)) wr) (fun _ q _ => (intOf q).toNat)
    case atStart => exact ⟨[xa, xb], i3, J, rfl, by simp; omega, fun x hx => by
      simp only [List.mem_cons, List.not_mem_nil, or_false] at hx
      rcases hx with rfl | rfl <;> assumption, hT, hO⟩
    case round =>
      clear hO hT na nb hr0 hr1
      obtain ⟨ws, i1, j, rfl, hwl, hwx, hT, hO⟩ := hrel
      by_cases hj : 0 < j
      · obtain ⟨j, rfl⟩ : ∃ k, j = k + 1 := ⟨j - 1, by omega⟩
        have g1 : decide (((j + 1 : Nat) : Int) > 0) = true := decide_eq_true (by omega)
        have s1 : IntKind.i64.wrap (((j + 1 : Nat) : Int) - 1) = (j : Int) := by rw [IntWalk.i64_in _ (by omega)]; omega
        obtain ⟨a7, c7, rfl, -⟩ := own_view hO List.mem_cons_self
        go_upto_region 7 with (fail)
        refine wp_region_any (by kernel_rfl) ?_
        replace hO := hO.drew
        have ix9 := Ix.mk [0, 1, 2, 6, 7]
        iterate 5 (refine wpAny_tk ix9 ?_; replace ix9 := ix9.tail; (first | go_big_quiet_skip | (go_big_quiet_want; (go_big_quiet_op; (first | go_big_quiet_on | ((refine ⟨_, fun _ _ => rfl, ?_⟩); go_big_quiet_on))))); (refine wpQuiet_nil ?_); (try simp only [Act.put]); (try simp only [List.setIfInBounds_toArray, List.set_cons_zero, List.set_cons_succ]))
        clear ix9
        refine wpAny_all (rs := [3]) (by kernel_rfl) (by simp) (ord_cons ?_ ord_nil)
        rotate_left 1
        all_goals
          refine wpOp_of_listL rfl ?_
          ((refine wpList_step (fun K hK => ?_)); go_simp; ((go_at_call 17; (with_reducible refine (next_pos 6 hZ (hO.tapeIn (by (repeat (first | exact List.mem_cons_self | refine List.mem_cons_of_mem _ ?_))) (fun _ h => h) hT.le) (by omega) (by omega)).mono ?_); rintro e wv ⟨v, i1, rfl, hv, hk9, hT1⟩; replace hO := hO.after (by (repeat (first | exact Upd.here | apply Upd.there))) hk9 hT1.blk; replace hT := hT1; clear hT1 hk9; obtain ⟨r, rfl, hr0, hr1⟩ := hv; obtain ⟨A, rfl⟩ : ∃ A : Nat, r = (A : Int) := ⟨r.toNat, by omega⟩; obtain ⟨xa, hxa, na⟩ := wd_cell (a := A) (by omega)); (try simp only []); (refine hK _ _ ?_); clear hK K))
          refine wpList_done (qk_intro ?_)
        refine wpAny_tk (Ix.mk [4]) ?_
        (first | go_big_quiet_skip | (go_big_quiet_want; (go_big_quiet_op; (first | go_big_quiet_on | ((refine ⟨_, fun _ _ => rfl, ?_⟩); go_big_quiet_on))))); (refine wpQuiet_nil ?_); (try simp only [Act.put]); (try simp only [List.setIfInBounds_toArray, List.set_cons_zero, List.set_cons_succ])
        refine wpAny_all (rs := [5, 8]) (by kernel_rfl) (by simp) (ord_cons ?_ (ord_cons ?_ ord_nil))
        rotate_left 2
        all_goals
          refine wpOp_of_listL rfl ?_
          (first | ((with_reducible refine is_load ?_); (refine own_ldV (h := ?_))) | ((refine wpList_step (fun K hK => ?_)); go_simp; ((go_at_call 17; (with_reducible refine (next_pos 5 hZ (hO.tapeIn (by (repeat (first | exact List.mem_cons_self | refine List.mem_cons_of_mem _ ?_))) (fun _ h => h) hT.le) (by omega) (by omega)).mono ?_); rintro e wv ⟨v, i2, rfl, hv, hk9, hT1⟩; replace hO := hO.after (by (repeat (first | exact Upd.here | apply Upd.there))) hk9 hT1.blk; replace hT := hT1; clear hT1 hk9; obtain ⟨r, rfl, hr2, hr3⟩ := hv; obtain ⟨B, rfl⟩ : ∃ B : Nat, r = (B : Int) := ⟨r.toNat, by omega⟩; obtain ⟨xb, hxb, nb⟩ := wh_cell (a := B) (by omega)); (try simp only []); (refine hK _ _ ?_); clear hK K))); (try simp only [Act.put]); (try simp only [List.setIfInBounds_toArray, List.set_cons_zero, List.set_cons_succ])
          refine wpList_done (qk_intro ?_)
        refine wpAny_all (rs := [8]) (by kernel_rfl) (by simp) (ord_cons ?_ ord_nil)
        rotate_left 1
        refine wpAny_tk (Ix.mk [9]) ?_
        (first | go_big_quiet_skip | (go_big_quiet_want; (go_big_quiet_op; (first | go_big_quiet_on | ((refine ⟨_, fun _ _ => rfl, ?_⟩); go_big_quiet_on))))); (refine wpQuiet_nil ?_); (try simp only [Act.put]); (try simp only [List.setIfInBounds_toArray, List.set_cons_zero, List.set_cons_succ])
        refine wpAny_all (rs := [5, 10]) (by kernel_rfl) (by simp) (ord_cons ?_ (ord_cons ?_ ord_nil))
        rotate_left 2
        all_goals
          refine wpOp_of_listL rfl ?_
          (first | ((with_reducible refine is_load ?_); (refine own_ldV (h := ?_))) | ((refine wpList_step (fun K hK => ?_)); go_simp; ((go_at_call 17; (with_reducible refine (next_pos 5 hZ (hO.tapeIn (by (repeat (first | exact List.mem_cons_self | refine List.mem_cons_of_mem _ ?_))) (fun _ h => h) hT.le) (by omega) (by omega)).mono ?_); rintro e wv ⟨v, i2, rfl, hv, hk9, hT1⟩; replace hO := hO.after (by (repeat (first | exact Upd.here | apply Upd.there))) hk9 hT1.blk; replace hT := hT1; clear hT1 hk9; obtain ⟨r, rfl, hr2, hr3⟩ := hv; obtain ⟨B, rfl⟩ : ∃ B : Nat, r = (B : Int) := ⟨r.toNat, by omega⟩; obtain ⟨xb, hxb, nb⟩ := wh_cell (a := B) (by omega)); (try simp only []); (refine hK _ _ ?_); clear hK K))); (try simp only [Act.put]); (try simp only [List.setIfInBounds_toArray, List.set_cons_zero, List.set_cons_succ])
          refine wpList_done (qk_intro ?_)
        refine wpAny_tk (Ix.mk [9]) ?_
        (first | go_big_quiet_skip | (go_big_quiet_want; (go_big_quiet_op; (first | go_big_quiet_on | ((refine ⟨_, fun _ _ => rfl, ?_⟩); go_big_quiet_on))))); (refine wpQuiet_nil ?_); (try simp only [Act.put]); (try simp only [List.setIfInBounds_toArray, List.set_cons_zero, List.set_cons_succ])
        refine wpAny_all (rs := [10]) (by kernel_rfl) (by simp) (ord_cons ?_ ord_nil)
        rotate_left 1
        refine wpAny_all (rs := [10]) (by kernel_rfl) (by simp) (ord_cons ?_ ord_nil)
        rotate_left 1
        refine wpAny_all (rs := [5]) (by kernel_rfl) (by simp) (ord_cons ?_ ord_nil)
        rotate_left 1
        all_goals
          refine wpOp_of_listL rfl ?_
          ((with_reducible refine is_load ?_); (refine own_ldV (h := ?_))); (try simp only [Act.put]); (try simp only [List.setIfInBounds_toArray, List.set_cons_zero, List.set_cons_succ])
          refine wpList_done (qk_intro ?_)
        refine wpAny_all (rs := [11]) (by kernel_rfl) (by simp) (ord_cons ?_ ord_nil)
        rotate_left 1
        refine wpAny_all (rs := [11]) (by kernel_rfl) (by simp) (ord_cons ?_ ord_nil)
        rotate_left 1
        refine wpAny_all (rs := [11]) (by kernel_rfl) (by simp) (ord_cons ?_ ord_nil)
        rotate_left 1
        all_goals
          refine wpOp_of_listL rfl ?_
          ((with_reducible refine is_build ?_); (refine' own_buildP (o := ⟨some 39, _, _, _, _, _⟩) [.string ⟨#[44]⟩, .string ⟨xa.toArray⟩, .string ⟨xb.toArray⟩] hO (by rfl) rfl slice_strings rfl rfl (by rfl) (by decide) (by decide) ?_); clear hO; intro n39 wv hO); (try simp only [Act.put]); (try simp only [List.setIfInBounds_toArray, List.set_cons_zero, List.set_cons_succ])
          refine wpList_done (qk_intro ?_)
        refine wpAny_all (rs := [12]) (by kernel_rfl) (by simp) (ord_cons ?_ ord_nil)
        rotate_left 1
        refine wpAny_all (rs := [12]) (by kernel_rfl) (by simp) (ord_cons ?_ ord_nil)
        rotate_left 1
        refine wpAny_all (rs := [12]) (by kernel_rfl) (by simp) (ord_cons ?_ ord_nil)
        rotate_left 1
        all_goals
          refine wpOp_of_listL rfl ?_
          ((with_reducible refine is_append ?_); (refine own_apV (o := ⟨some 40, _, _, _, _, _⟩) (hO := hO) (h := ?_); clear hO; intro g40 c40 wv hO)); (try simp only [Act.put]); (try simp only [List.setIfInBounds_toArray, List.set_cons_zero, List.set_cons_succ])
          refine wpList_done (qk_intro ?_)
        refine wpAny_all (rs := [13]) (by kernel_rfl) (by simp) (ord_cons ?_ ord_nil)
        rotate_left 1
        refine wpAny_all (rs := [13]) (by kernel_rfl) (by simp) (ord_cons ?_ ord_nil)
        rotate_left 1
        refine wpAny_all (rs := [13]) (by kernel_rfl) (by simp) (ord_cons ?_ ord_nil)
        rotate_left 1
        all_goals
          refine wpOp_of_listL rfl ?_
          ((refine wpList_step (fun K hK => ?_)); go_simp; ((refine hK _ _ ?_); clear hK K))
          refine wpList_done (qk_intro ?_)
        refine wpAny_done (by kernel_rfl) ?_ _
        rotate_left
        refine wpAny_done (by kernel_rfl) ?_ _
        rotate_left
        refine wpAny_done (by kernel_rfl) ?_ _
        rotate_left
        all_goals
          have HC : Hid (scs ws ++ [Value.string ⟨#[44]⟩, Value.string ⟨xa.toArray⟩, Value.string ⟨xb.toArray⟩] = scs (ws ++ [[44], xa, xb])) := Lib.hid (by simp [scs])
          rw [HC.out] at hO
          clear hxa hxb hr0 hr1 hr2 hr3
          go_wp2_with fail
          go_roundw
          case rel =>
            refine ⟨ws ++ [[44], xa, xb], i2, j, rfl, by simp; omega, fun x hx => ?_, (hO.tapeIn (by (repeat (first | exact List.mem_cons_self | refine List.mem_cons_of_mem _ ?_))) (fun _ h => h) hT.le), by rw [List.length_append]; exact hO.sub (X' := [⟨n10, whC, 9⟩, ⟨n9, wdC, 9⟩, ⟨n, tcs (.slice sa zs.length sc) i2, 40⟩]) (.cons _ (.refl _)) (.refl _) (fun _ h => h)⟩
            rcases List.mem_append.1 hx with hx | hx
            · exact hwx x hx
            · simp only [List.mem_cons, List.not_mem_nil, or_false] at hx
              rcases hx with rfl | rfl | rfl
              · decide
              · exact na
              · exact nb
          case measure => simp [intOf]
      · obtain rfl : j = 0 := by omega
        have g1 : decide (((0 : Nat) : Int) > 0) = false := rfl
        have hP : ∀ v w, IsCells w v ws.length (scs ws) → Calls Tryz.prog 18 #[v] w fun e w' => ∃ v K f, e = .returned (.tuple #[v, .int .i64 f]) ∧ WinOk K ∧ IsCells w' v K.length (rcs K) ∧ NewFrom w v ∧ Below w.heap.size w w' := fun v w h =>
          (rparse_any (ws := ws) w h (by omega) (fun x hx => Nat.le_trans (hwx x hx) (by omega))).mono fun e w' h => winP_win h
        go_wp2_with (go_at_call 18; (with_reducible refine (hP _ _ (hO.rowIs List.mem_cons_self)).mono ?_); rintro e wv ⟨v9, K, f9, rfl, hK, hv9, hn9, hb9⟩; have hs9 := hO.keep.size; replace hO := hO.call hb9; clear hb9)
        go_ret
        exact ⟨v9, i1, rfl, ⟨K, hK, hv9, fun g h => Nat.le_trans hs9 (hn9 g h)⟩, hO.keep, (hO.tapeIn (by (repeat (first | exact List.mem_cons_self | refine List.mem_cons_of_mem _ ?_))) (fun _ h => h) hT.le)⟩
end Go.Proofs.YtfhkmkbfgmbbaaaGreatDoor
