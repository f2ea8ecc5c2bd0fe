/- interval.canonical. -/
import Derived.Test.YtfhkmkbfgmbbaaaGreatDoorMD
import Derived.Test.YtfhkmkbfgmbbaaaGreatDoorMB
namespace Go.Proofs.YtfhkmkbfgmbbaaaGreatDoor
open Go.RowKit
set_option maxRecDepth 100000
/-- the ranges that are not empty -/
def fullRg (l : List Rg) : List Rg := l.filter fun r => decide (r.lo ≤ r.hi)
theorem full_take {l : List Rg} {i : Nat} (h : i < l.length) : fullRg (l.take (i + 1)) = if l[i].lo ≤ l[i].hi then fullRg (l.take i) ++ [l[i]] else fullRg (l.take i) := by
  unfold fullRg
  rw [List.take_succ_eq_append_getElem h, List.filter_append]
  by_cases hc : l[i].lo ≤ l[i].hi <;> simp [hc]
theorem full_len (l : List Rg) (i : Nat) (h : i ≤ l.length) : (fullRg (l.take i)).length ≤ i := by
  refine Nat.le_trans (List.length_filter_le _ _) ?_
  simp; omega
theorem rcs_two : ∀ {l : List Rg} {i : Nat} (h : i < l.length), ((rcs l).drop (i * 2)).take ([.int .u32 l[i].lo, .int .u32 l[i].hi] : List Value).length = [.int .u32 l[i].lo, .int .u32 l[i].hi]
  | _ :: _, 0, _ => rfl
  | r :: l, i + 1, h => by
    have := rcs_two (l := l) (i := i) (by simpa using h)
    rw [show (i + 1) * 2 = i * 2 + 2 by omega]
    exact this
theorem rcs_one (r : Rg) : rcs [r] = [.int .u32 r.lo, .int .u32 r.hi] := rfl
theorem own_view {M : List Nat} {w0 w : World} {X : List Chunk} {R : List Row} {S : List Ro} (hO : Own M w0 X R S w) {v : Value} {k size : Nat} {xs : List Value} {e : TypeId} (hm : (⟨v, k, xs, e, size⟩ : Row) ∈ R) : ∃ a c, v = .slice a k c ∧ (0 < k → ∃ g, a = some ⟨g, 0, none⟩) := by
  have h2 := (hO.row _ hm).2
  dsimp only at h2
  rcases h2 with ⟨h2, h3⟩ | ⟨g, cap, cur, h2, -⟩
  · exact ⟨none, 0, by rw [h3]; exact h2, fun h => by omega⟩
  · exact ⟨_, _, h2, fun _ => ⟨_, rfl⟩⟩
theorem stepC_len (m : List Rg) (r : Rg) : (stepC m r).length ≤ m.length + 1 := by
  rcases snoc_cases m with rfl | ⟨A, q, rfl⟩
  · simp [stepC_nil]
  · by_cases h : r.lo ≤ q.hi + 1
    · rw [stepC_join h]; simp
    · rw [stepC_apart h]; simp
theorem stepC_hi {m : List Rg} {r : Rg} (hm : ∀ q ∈ m, 0 ≤ q.hi ∧ q.hi ≤ 4294967295) (hr : 0 ≤ r.hi ∧ r.hi ≤ 4294967295) : ∀ q ∈ stepC m r, 0 ≤ q.hi ∧ q.hi ≤ 4294967295 := by
  rcases snoc_cases m with rfl | ⟨A, q, rfl⟩
  · intro x hx; rw [stepC_nil, List.mem_singleton] at hx; exact hx ▸ hr
  · have hq := hm q (by simp)
    by_cases h : r.lo ≤ q.hi + 1
    · rw [stepC_join h]
      intro x hx
      rcases List.mem_append.1 hx with hx | hx
      · exact hm x (List.mem_append_left _ hx)
      · rw [List.mem_singleton] at hx; subst hx; dsimp only; omega
    · rw [stepC_apart h]
      intro x hx
      rcases List.mem_append.1 hx with hx | hx
      · exact hm x hx
      · rw [List.mem_singleton] at hx; exact hx ▸ hr
theorem fold_take {s : List Rg} {i : Nat} (h : i < s.length) : (s.take (i + 1)).foldl stepC [] = stepC ((s.take i).foldl stepC []) s[i] := by
  rw [List.take_succ_eq_append_getElem h, List.foldl_append]; rfl
theorem rcs_set (A : List Rg) (q : Rg) (u : Int) : (rcs (A ++ [q])).set (A.length * 2 + 1) (.int .u32 u) = rcs (A ++ [⟨q.lo, u⟩]) := by
  rw [rcs_append, rcs_append, List.set_append_right _ _ (by rw [rcs_length]; omega), rcs_length, Nat.add_sub_cancel_left]; rfl
set_option maxHeartbeats 8000000 in
theorem canonical_any {vl : Value} {l : List Rg} (w : World) (hv : IsCells w vl l.length (rcs l)) (hn : l.length ≤ 100000000000) (hb : ∀ r ∈ l, 0 ≤ r.lo ∧ r.lo ≤ 4294967295 ∧ 0 ≤ r.hi ∧ r.hi ≤ 4294967295) :
    Calls Tryz.prog 40 #[vl] w fun e w' => ∃ c, IsCanOf l c ∧ RetRgs w c e w' := by
  have hO := own_start [] w
  obtain ⟨a, c, rfl, ha, hS⟩ : ∃ a c, vl = .slice a l.length c ∧ (0 < l.length → ∃ g o, a = some ⟨g, o, none⟩) ∧ Own [] w [] [] (roS (.slice a l.length c) (rcs l)) w := by
    rcases hv with ⟨rfl, h2, _⟩ | ⟨g, o, c, rfl, _, h2⟩
    · exact ⟨none, 0, by rw [h2], fun h => by omega, hO⟩
    · exact ⟨_, _, rfl, fun _ => ⟨_, _, rfl⟩, hO.addOld ⟨g, o, rcs l⟩ h2⟩
  clear hO
  have hO := hS
  clear hS hv
  go_enter Tryz.func40, Tryz.ntmps40
  go_wp2_with fail
  replace hO := hO.nilRow 46 2
  go_loopw [3, 12] (fun r q wr => ∃ i : Nat, i ≤ l.length ∧ q = .int .i64 i ∧ Own [] w [] [⟨r, (fullRg (l.take i)).length, rcs (fullRg (l.take i)), 46, 2⟩] (roS (.slice a l.length c) (rcs l)) wr) (fun _ q _ => l.length - (intOf q).toNat)
  case atStart => exact ⟨0, by omega, rfl, hO⟩
  case round =>
    clear hO
    obtain ⟨i, hi, rfl, hO⟩ := hrel
    by_cases hlt : i < l.length
    · obtain ⟨gl, ol, rfl⟩ := ha (by omega)
      simp only [roS] at hO
      have HT := full_take hlt
      have hm := full_len l i hi
      have t1 := rcs_two hlt
      obtain ⟨b1, b2, b3, b4⟩ := hb l[i] (List.getElem_mem hlt)
      have s4 : IntKind.i64.wrap ((i : Int) + 1) = (i : Int) + 1 := IntWalk.i64_in _ (by omega)
      generalize fullRg (l.take i) = m at *
      generalize l[i] = r9 at *
      by_cases hle : r9.lo ≤ r9.hi
      · have g1 : decide (r9.lo ≤ r9.hi) = true := decide_eq_true hle
        rw [if_pos hle] at HT
        have HE := Lib.hid HT
        clear HT
        go_wp2_with (first | ((with_reducible refine is_load ?_); refine own_ld (h := ?_)) | ((with_reducible refine is_store ?_); (refine own_stR (hO := hO) (h := ?_); clear hO; intro wv hO)) | ((with_reducible refine is_alloc ?_); (refine own_al (o := ⟨some 6, _, _, _, _, _⟩) (hO := hO) (h := ?_); clear hO; intro n6 wv hO)) | ((with_reducible refine is_build ?_); (refine' own_build1 (o := ⟨some 23, _, _, _, _, _⟩) hO (by rfl) rfl rfl ?hu ?hf ?_; (case hu => (exact und_Ranges)); (case hf => kernel_rfl); clear hO; intro n23 wv hO)) | ((with_reducible refine is_append ?_); (refine own_ap (o := ⟨some 24, _, _, _, _, _⟩) (hO := hO) (h := ?_); clear hO; intro g24 c24 wv hO)))
        go_roundw
        case rel =>
          refine ⟨i + 1, by omega, by go_num, ?_⟩
          rw [HE.out, rcs_append, rcs_one, List.length_append]
          exact hO.sub (.cons _ (.cons _ (.refl _))) (.refl _) (fun _ h => h)
        case measure => simp [intOf]; omega
      · have g1 : decide (r9.lo ≤ r9.hi) = false := decide_eq_false hle
        rw [if_neg hle] at HT
        have HE := Lib.hid HT
        clear HT
        go_wp2_with (first | ((with_reducible refine is_load ?_); refine own_ld (h := ?_)) | ((with_reducible refine is_store ?_); (refine own_stR (hO := hO) (h := ?_); clear hO; intro wv hO)) | ((with_reducible refine is_alloc ?_); (refine own_al (o := ⟨some 6, _, _, _, _, _⟩) (hO := hO) (h := ?_); clear hO; intro n6 wv hO)))
        go_roundw
        case rel =>
          refine ⟨i + 1, by omega, by go_num, ?_⟩
          rw [HE.out]
          exact hO.sub (.cons _ (.refl _)) (.refl _) (fun _ h => h)
        case measure => simp [intOf]; omega
    · obtain rfl : i = l.length := by omega
      have hml := full_len l l.length (Nat.le_refl _)
      rw [List.take_length] at hO hml
      have h1 := fun (v : Value) (w : World) (h : w.ownsRow 0 46 2 v (fullRg l).length (rcs (fullRg l))) => sortRg_any w h (by omega)
      obtain ⟨a2, c2, rfl, ha2⟩ := own_view hO List.mem_cons_self
      go_wp2_with (go_at_call 58; (with_reducible refine (h1 _ _ (hO.row _ List.mem_cons_self)).mono ?_); rintro e wv ⟨rfl, s, hp, hs, hk9, hr9⟩; replace hO := hO.afterRow .here hk9 hr9; clear hk9 hr9 h1; have hN := hp.length_eq)
      have hsb : ∀ r ∈ s, 0 ≤ r.lo ∧ r.lo ≤ 4294967295 ∧ 0 ≤ r.hi ∧ r.hi ≤ 4294967295 := fun r hr => hb r (List.mem_filter.1 (hp.mem_iff.1 hr)).1
      have hC := Lib.hid (fold_can hp hs)
      generalize (fullRg l).length = N at *
      subst hN
      clear hp hs hb
      replace hO := (hO.nilRow 46 2)
      go_loopw [4, 30] (fun r q wr => ∃ (i : Nat) (m : List Rg), i ≤ s.length ∧ q = .int .i64 i ∧ m.length ≤ i ∧ (∀ q ∈ m, 0 ≤ q.hi ∧ q.hi ≤ 4294967295) ∧ Hid (m = (s.take i).foldl stepC []) ∧ Own [] w [] [⟨r, m.length, rcs m, 46, 2⟩, ⟨.slice a2 s.length c2, s.length, rcs s, 46, 2⟩] (roS (.slice a l.length c) (rcs l)) wr) (fun _ q _ => s.length - (intOf q).toNat)
      case atStart => exact ⟨0, [], by omega, rfl, by simp, by simp, Lib.hid rfl, hO⟩
      case round =>
        clear hO
        obtain ⟨i, m, hi, rfl, hmi, hmb, hM, hO⟩ := hrel
        by_cases hlt : i < s.length
        · obtain ⟨gs, rfl⟩ := ha2 (by omega)
          obtain ⟨a4, c4, rfl, ha4⟩ := own_view hO List.mem_cons_self
          have HT := fold_take hlt
          rw [← hM.out] at HT
          have t1 := rcs_two hlt
          obtain ⟨b1, b2, b3, b4⟩ := hsb s[i] (List.getElem_mem hlt)
          have s4 : IntKind.i64.wrap ((i : Int) + 1) = (i : Int) + 1 := IntWalk.i64_in _ (by omega)
          have hL := stepC_len m s[i]
          have hB := stepC_hi hmb ⟨b3, b4⟩
          generalize s[i] = r9 at *
          clear hM
          rcases snoc_cases m with rfl | ⟨A, q, rfl⟩
          · rw [stepC_nil] at HT hL hB
            have HE := Lib.hid HT.symm
            clear HT
            have g1 : decide ((0 : Int) < (([] : List Rg).length : Nat)) = false := rfl
            go_wp2_with (first | ((with_reducible refine is_load ?_); refine own_ld (h := ?_)) | ((with_reducible refine is_store ?_); (refine own_stR (hO := hO) (h := ?_); clear hO; intro wv hO)) | ((with_reducible refine is_alloc ?_); (refine own_al (o := ⟨some 8, _, _, _, _, _⟩) (hO := hO) (h := ?_); clear hO; intro n8 wv hO)))
            (refine own_quiet hO (by kernel_rfl) (by kernel_rfl) ?_; clear hO; (repeat (first | go_big_quiet_skip | (go_big_quiet_want; (go_big_quiet_op; (first | go_big_quiet_on | ((refine ⟨_, fun _ _ => rfl, ?_⟩); go_big_quiet_on)))))); (refine wpQuiet_nil ?_); intro wv hO)
            go_wp2_with (first | ((with_reducible refine is_load ?_); refine own_ld (h := ?_)) | ((with_reducible refine is_build ?_); (refine' own_build1 (o := ⟨some 68, _, _, _, _, _⟩) hO (by rfl) rfl rfl ?hu ?hf ?_; (case hu => (exact und_Ranges)); (case hf => kernel_rfl); clear hO; intro n68 wv hO)) | ((with_reducible refine is_append ?_); (refine own_ap (o := ⟨some 69, _, _, _, _, _⟩) (hO := hO) (h := ?_); clear hO; intro g69 c69 wv hO)))
            go_roundw
            case rel =>
              refine ⟨i + 1, [r9], by omega, by go_num, by simp, hB, HE, ?_⟩
              exact hO.sub (.cons _ (.cons _ (.refl _))) (.refl _) (fun _ h => h)
            case measure => simp [intOf]; omega
          · have hk : (A ++ [q]).length = A.length + 1 := by simp
            obtain ⟨gq, rfl⟩ := ha4 (by omega)
            obtain ⟨q1, q2⟩ := hmb q (by simp)
            obtain ⟨-, u2⟩ := rcs_at (l := A ++ [q]) (i := A.length) (by simp)
            rw [List.getElem_concat_length rfl] at u2
            rw [hk] at hO hL hmi
            have g1 : decide ((0 : Int) < ((A.length + 1 : Nat) : Int)) = true := by simp
            have s1 : IntKind.i64.wrap (((A.length + 1 : Nat) : Int) - 1) = (A.length : Int) := by rw [IntWalk.i64_in _ (by omega)]; omega
            have s2 : IntKind.u64.wrap r9.lo = r9.lo := by rw [IntKind.wrap_u64]; omega
            have s3 : IntKind.u64.wrap q.hi = q.hi := by rw [IntKind.wrap_u64]; omega
            have s5 : IntKind.u64.wrap (q.hi + 1) = q.hi + 1 := by rw [IntKind.wrap_u64]; omega
            by_cases hj : r9.lo ≤ q.hi + 1
            · have g2 : decide (r9.lo ≤ q.hi + 1) = true := decide_eq_true hj
              rw [stepC_join hj] at HT hL hB
              have HE := Lib.hid HT.symm
              clear HT
              go_wp2_with (first | ((with_reducible refine is_load ?_); refine own_ld (h := ?_)) | ((with_reducible refine is_store ?_); (refine own_stR (hO := hO) (h := ?_); clear hO; intro wv hO)) | ((with_reducible refine is_alloc ?_); (refine own_al (o := ⟨some 8, _, _, _, _, _⟩) (hO := hO) (h := ?_); clear hO; intro n8 wv hO)))
              (refine own_quiet hO (by kernel_rfl) (by kernel_rfl) ?_; clear hO; (repeat (go_big_quiet_want; (first | ((with_reducible refine is_loadQ ?_); (refine q_ld (h := ?_)); (try simp only [Act.put]); (try simp only [List.setIfInBounds_toArray, List.set_cons_zero, List.set_cons_succ]); go_big_quiet_on) | (go_big_quiet_op; (first | go_big_quiet_on | ((refine ⟨_, fun _ _ => rfl, ?_⟩); go_big_quiet_on)))))); (refine wpQuiet_nil ?_); intro wv hO)
              go_wp2_with fail
              refine wp_region_any (by kernel_rfl) ?_
              replace hO := hO.drew
              have ix9 := Ix.mk [0, 1, 2, 3, 4, 5, 6, 7, 9]
              iterate 9 (refine wpAny_tk ix9 ?_; replace ix9 := ix9.tail; (first | go_big_quiet_skip | (go_big_quiet_want; (go_big_quiet_op; (first | go_big_quiet_on | ((refine ⟨_, fun _ _ => rfl, ?_⟩); go_big_quiet_on))))); (refine wpQuiet_nil ?_); (try simp only [Act.put]); (try simp only [List.setIfInBounds_toArray, List.set_cons_zero, List.set_cons_succ]))
              clear ix9
              refine wpAny_all (rs := [8, 10]) (by kernel_rfl) (by simp) (ord_cons ?_ (ord_cons ?_ ord_nil))
              rotate_left 2
              all_goals
                refine wpOp_of_listL rfl ?_
                ((with_reducible refine is_load ?_); refine own_ld (h := ?_)); (try simp only [Act.put]); (try simp only [List.setIfInBounds_toArray, List.set_cons_zero, List.set_cons_succ])
                refine wpList_done (qk_intro ?_)
              refine wpAny_all (rs := [10]) (by kernel_rfl) (by simp) (ord_cons ?_ ord_nil)
              rotate_left 1
              refine wpAny_all (rs := [8]) (by kernel_rfl) (by simp) (ord_cons ?_ ord_nil)
              rotate_left 1
              all_goals
                refine wpOp_of_listL rfl ?_
                ((with_reducible refine is_load ?_); refine own_ld (h := ?_)); (try simp only [Act.put]); (try simp only [List.setIfInBounds_toArray, List.set_cons_zero, List.set_cons_succ])
                refine wpList_done (qk_intro ?_)
              have ix9 := Ix.mk [11, 12, 13]
              iterate 3 (refine wpAny_tk ix9 ?_; replace ix9 := ix9.tail; (first | go_big_quiet_skip | (go_big_quiet_want; (go_big_quiet_op; (first | go_big_quiet_on | ((refine ⟨_, fun _ _ => rfl, ?_⟩); go_big_quiet_on))))); (refine wpQuiet_nil ?_); (try simp only [Act.put]); (try simp only [List.setIfInBounds_toArray, List.set_cons_zero, List.set_cons_succ]))
              clear ix9
              refine wpAny_all (rs := [14]) (by kernel_rfl) (by simp) (ord_cons ?_ ord_nil)
              rotate_left 1
              have ix9 := Ix.mk [11, 12, 13]
              iterate 3 (refine wpAny_tk ix9 ?_; replace ix9 := ix9.tail; (first | go_big_quiet_skip | (go_big_quiet_want; (go_big_quiet_op; (first | go_big_quiet_on | ((refine ⟨_, fun _ _ => rfl, ?_⟩); go_big_quiet_on))))); (refine wpQuiet_nil ?_); (try simp only [Act.put]); (try simp only [List.setIfInBounds_toArray, List.set_cons_zero, List.set_cons_succ]))
              clear ix9
              refine wpAny_all (rs := [14]) (by kernel_rfl) (by simp) (ord_cons ?_ ord_nil)
              rotate_left 1
              all_goals
                refine wpOp_of_listL rfl ?_
                ((with_reducible refine is_store ?_); (refine own_stW (hO := hO) (hn := rfl) (hl := by rw [rcs_length]; simp; omega) (h := ?_); clear hO; intro wv hO)); (try simp only [Act.put])
                refine wpList_done (qk_intro ?_)
              refine wpAny_done (by kernel_rfl) ?_ _
              rotate_left
              refine wpAny_done (by kernel_rfl) ?_ _
              rotate_left
              all_goals
                rw [rcs_set] at hO
                go_wp2_with fail
                go_roundw
                case rel =>
                  refine ⟨i + 1, A ++ [⟨q.lo, max q.hi r9.hi⟩], by omega, by go_num, by simp; omega, hB, HE, ?_⟩
                  rw [List.length_append]
                  exact hO.sub (.cons _ (.refl _)) (.refl _) (fun _ h => h)
                case measure => simp [intOf]; omega
            · have g2 : decide (r9.lo ≤ q.hi + 1) = false := decide_eq_false hj
              rw [stepC_apart hj] at HT hL hB
              have HE := Lib.hid HT.symm
              clear HT
              go_wp2_with (first | ((with_reducible refine is_load ?_); refine own_ld (h := ?_)) | ((with_reducible refine is_store ?_); (refine own_stR (hO := hO) (h := ?_); clear hO; intro wv hO)) | ((with_reducible refine is_alloc ?_); (refine own_al (o := ⟨some 8, _, _, _, _, _⟩) (hO := hO) (h := ?_); clear hO; intro n8 wv hO)))
              (refine own_quiet hO (by kernel_rfl) (by kernel_rfl) ?_; clear hO; (repeat (go_big_quiet_want; (first | ((with_reducible refine is_loadQ ?_); (refine q_ld (h := ?_)); (try simp only [Act.put]); (try simp only [List.setIfInBounds_toArray, List.set_cons_zero, List.set_cons_succ]); go_big_quiet_on) | (go_big_quiet_op; (first | go_big_quiet_on | ((refine ⟨_, fun _ _ => rfl, ?_⟩); go_big_quiet_on)))))); (refine wpQuiet_nil ?_); intro wv hO)
              go_wp2_with (first | ((with_reducible refine is_load ?_); refine own_ld (h := ?_)) | ((with_reducible refine is_build ?_); (refine' own_build1 (o := ⟨some 68, _, _, _, _, _⟩) hO (by rfl) rfl rfl ?hu ?hf ?_; (case hu => (exact und_Ranges)); (case hf => kernel_rfl); clear hO; intro n68 wv hO)) | ((with_reducible refine is_append ?_); (refine own_ap (o := ⟨some 69, _, _, _, _, _⟩) (hO := hO) (h := ?_); clear hO; intro g69 c69 wv hO)))
              go_roundw
              case rel =>
                refine ⟨i + 1, A ++ [q] ++ [r9], by omega, by go_num, by simp; omega, hB, HE, ?_⟩
                rw [rcs_append, rcs_one, List.length_append, hk]
                exact hO.sub (.cons _ (.cons _ (.refl _))) (.refl _) (fun _ h => h)
              case measure => simp [intOf]; omega
        · obtain rfl : i = s.length := by omega
          go_wp2_with fail
          go_ret
          have hE := hM.out
          rw [List.take_length] at hE
          exact ⟨m, hE ▸ hC.out, _, rfl, ⟨own_rgs hO List.mem_cons_self, own_new hO List.mem_cons_self⟩, hO.keep.below⟩
end Go.Proofs.YtfhkmkbfgmbbaaaGreatDoor

/- slices.Grow, slices.Concat at ranges; interval.Union. -/
namespace Go.Proofs.YtfhkmkbfgmbbaaaGreatDoor
open Go.RowKit Go.Lib Go.Shelf
set_option maxRecDepth 100000
theorem grow_any (n : Nat) (w : World) (hn : n ≤ 1000000000000) :
    Calls Tryz.prog 64 #[.slice none 0 0, .int .i64 n] w fun e w' => ∃ v, e = .returned v ∧ w'.ownsRow w.heap.size 46 2 v 0 [] ∧ Below w.heap.size w w' := by
  rcases Nat.eq_zero_or_pos n with rfl | h
  · exact (Any8.slices_Grow_room growRg none 0 0 0 w (Nat.le_refl _) (by omega) (by omega) (by omega)).mono fun e w' ⟨he, hw⟩ => ⟨_, he, ⟨rfl, .inl ⟨rfl, rfl⟩⟩, hw ▸ (Keep.refl [] w).below⟩
  · obtain ⟨-, -, i, z, h1, h2, h3, h4, h5⟩ := slice_Ranges
    have hg := Any8.slices_Grow_grow growRg i z h1 h2 (by omega) none 0 0 n [] w (Nat.le_refl _) (by omega) (by rw [h4]; omega) (by omega) (by simp) (fun _ => rfl) (fun a h => by cases h)
    have g1 := grownCap_ge w (0 + n) 0 (growRg_ren.t 25)
    have g2 := grownCap_le_maxLen w (0 + n) 0 (growRg_ren.t 25) (by unfold maxLen; omega)
    generalize grownCap w (0 + n) 0 (growRg_ren.t 25) = G at *
    refine hg.mono ?_
    rintro e w' ⟨rfl, rfl⟩
    refine ⟨_, rfl, ⟨rfl, .inr ⟨w.heap.size, G, _, rfl, Nat.le_refl _, heap_alloc_new _ _, Nat.zero_le _, g2, ?_, by simp⟩⟩, ?_⟩
    · rw [Array.size_append, Array.size_append, size_zeroCells, size_zeroCells, h5, Nat.zero_add, Nat.sub_zero, show (([] : List Value).toArray).size = 0 from rfl]
      omega
    · exact ⟨rfl, rfl, rfl, by simp, fun k hk => Below.heap_alloc w.drew _ _ hk⟩
theorem one_ranges : OneT Tryz.prog 23 := ⟨_, Tryz.underlying23, rfl, by kernel_rfl⟩
theorem cells_view {w : World} {v : Value} {k : Nat} {xs : List Value} (h : IsCells w v k xs) : ∃ a c, v = .slice a k c := by
  rcases h with ⟨rfl, h2, _⟩ | ⟨g, o, c, rfl, _⟩
  · exact ⟨none, 0, by rw [h2]⟩
  · exact ⟨_, _, rfl⟩
theorem rcs_one' (l : List Rg) : (rcs l).all (·.oneCell') = true := by
  induction l with
  | nil => rfl
  | cons r l ih => rw [rcs, List.all_cons, List.all_cons, ih]; rfl
def two (x y i : Nat) : Nat := match i with
  | 0 => 0
  | 1 => x
  | _ => x + y
set_option maxHeartbeats 4000000 in
theorem concat_any {va vb : Value} {la lb : List Rg} {g : Nat} (w : World) (hva : IsCells w va la.length (rcs la)) (hvb : IsCells w vb lb.length (rcs lb)) (hg : w.rangeAt g 0 [va, vb]) (na : la.length ≤ 100000000000) (nb : lb.length ≤ 100000000000) :
    Calls Tryz.prog 47 #[.slice (some ⟨g, 0, none⟩) 2 2] w (RetRgs w (la ++ lb)) := by
  obtain ⟨a1, c1, rfl⟩ := cells_view hva
  obtain ⟨a2, c2, rfl⟩ := cells_view hvb
  have hO := (own_start [] w).addRo ⟨g, 0, [.slice a1 la.length c1, .slice a2 lb.length c2]⟩ hg (fun _ h => by simp [excl] at h)
  have x0 : ([.slice a1 la.length c1, .slice a2 lb.length c2] : List Value)[0]? = some (.slice a1 la.length c1) := rfl
  have x1 : ([.slice a1 la.length c1, .slice a2 lb.length c2] : List Value)[1]? = some (.slice a2 lb.length c2) := rfl
  generalize hzs : ([.slice a1 la.length c1, .slice a2 lb.length c2] : List Value) = zs at *
  clear hzs hg
  go_enter Tryz.func47, Tryz.ntmps47
  go_wp2_with fail
  go_loopw [3, 11] (fun r q wr => ∃ i : Nat, i ≤ 2 ∧ q = .int .i64 i ∧ r = .int .i64 (two la.length lb.length i : Nat) ∧ Own [] w [] [] [⟨g, 0, zs⟩] wr) (fun _ q _ => 2 - (intOf q).toNat)
  case atStart => exact ⟨0, by omega, rfl, rfl, hO⟩
  case round =>
    clear hO
    obtain ⟨i, hi, rfl, rfl, hO⟩ := hrel
    rcases (show i = 0 ∨ i = 1 ∨ i = 2 by omega) with rfl | rfl | rfl
    · have s1 : IntKind.i64.wrap (((two la.length lb.length 0 : Nat) : Int) + (la.length : Int)) = (la.length : Int) := by rw [IntWalk.i64_in _ (by simp [two]; omega)]; simp [two]
      have g1 : decide ((la.length : Int) < 0) = false := decide_eq_false (by omega)
      go_wp2_with ((with_reducible refine is_load ?_); (refine own_ld (hl := ld_one one_ranges (hO.roCellG List.mem_cons_self x0)) (h := ?_)))
      go_roundw
      case rel => exact ⟨1, by omega, rfl, rfl, hO⟩
      case measure => simp [intOf]
    · have s1 : IntKind.i64.wrap (((two la.length lb.length 1 : Nat) : Int) + (lb.length : Int)) = ((la.length + lb.length : Nat) : Int) := by rw [IntWalk.i64_in _ (by simp [two]; omega)]; simp [two]
      have g1 : decide (((la.length + lb.length : Nat) : Int) < 0) = false := decide_eq_false (by omega)
      go_wp2_with ((with_reducible refine is_load ?_); (refine own_ld (hl := ld_one one_ranges (hO.roCellG List.mem_cons_self x1)) (h := ?_)))
      go_roundw
      case rel => exact ⟨2, by omega, rfl, rfl, hO⟩
      case measure => simp [intOf]
    · have e2 : two la.length lb.length 2 = la.length + lb.length := rfl
      obtain ⟨N, hN⟩ : ∃ N, N = la.length + lb.length := ⟨_, rfl⟩
      rw [e2, ← hN]
      have hNb : N ≤ 1000000000000 := by omega
      clear hN
      go_wp2_with (go_at_call 64; (with_reducible refine (grow_any N _ hNb).mono ?_); rintro e wv ⟨v, rfl, hr9, hb9⟩; replace hO := hO.gainRow hb9 hr9; clear hr9 hb9)
      go_loopw [6, 27] (fun r q wr => ∃ i : Nat, i ≤ 2 ∧ q = .int .i64 i ∧ Own [] w [] [⟨r, two la.length lb.length i, rcs ((la ++ lb).take (two la.length lb.length i)), 46, 2⟩] [⟨g, 0, zs⟩] wr) (fun _ q _ => 2 - (intOf q).toNat)
      case atStart => exact ⟨0, by omega, rfl, hO⟩
      case round =>
        clear hO
        obtain ⟨i, hi, rfl, hO⟩ := hrel
        have m1 : rcs ((la ++ lb).take (two la.length lb.length 1)) = rcs ((la ++ lb).take (two la.length lb.length 0)) ++ rcs la := by simp [two, rcs]
        have m2 : rcs ((la ++ lb).take (two la.length lb.length 2)) = rcs ((la ++ lb).take (two la.length lb.length 1)) ++ rcs lb := by
          have e3 : la.take (la.length + lb.length) = la := List.take_of_length_le (by omega)
          simp [two, rcs_append, List.take_append, e3]
        rcases (show i = 0 ∨ i = 1 ∨ i = 2 by omega) with rfl | rfl | rfl
        · have hsrc := fun (wq : World) (h : Keep [] w wq) => src_of_cells (size := 2) (hva.below h.below) (rcs_length la)
          go_wp2_with (first | ((with_reducible refine is_load ?_); (refine own_ld (hl := ld_one one_ranges (hO.roCellG List.mem_cons_self x0)) (h := ?_))) | ((with_reducible refine is_append ?_); (refine own_appendS hO rfl rfl slice_Ranges rfl rfl (hsrc _ hO.keep) (rcs_one' la) (fun _ => .here) (by simp [two]; omega) (by unfold maxLen; simp [two]; omega) ?_; clear hO; intro v9 wv hO)))
          go_roundw
          case rel => exact ⟨1, by omega, rfl, by rw [m1]; simpa [two] using hO⟩
          case measure => simp [intOf]
        · have hsrc := fun (wq : World) (h : Keep [] w wq) => src_of_cells (size := 2) (hvb.below h.below) (rcs_length lb)
          go_wp2_with (first | ((with_reducible refine is_load ?_); (refine own_ld (hl := ld_one one_ranges (hO.roCellG List.mem_cons_self x1)) (h := ?_))) | ((with_reducible refine is_append ?_); (refine own_appendS hO rfl rfl slice_Ranges rfl rfl (hsrc _ hO.keep) (rcs_one' lb) (fun _ => .here) (by simp [two]; omega) (by unfold maxLen; simp [two]; omega) ?_; clear hO; intro v9 wv hO)))
          go_roundw
          case rel => exact ⟨2, by omega, rfl, by rw [m2]; simpa [two] using hO⟩
          case measure => simp [intOf]
        · go_wp2_with fail
          go_ret
          have e4 : rcs ((la ++ lb).take (two la.length lb.length 2)) = rcs (la ++ lb) := by rw [List.take_of_length_le (by simp [two])]
          rw [e4] at hO
          exact ⟨_, rfl, ⟨own_rgs hO List.mem_cons_self, own_new hO List.mem_cons_self⟩, hO.keep.below⟩
end Go.Proofs.YtfhkmkbfgmbbaaaGreatDoor

/- interval.Union. -/
namespace Go.Proofs.YtfhkmkbfgmbbaaaGreatDoor
open Go.RowKit
set_option maxRecDepth 100000
theorem slice_RangesL : SliceT Tryz.prog 34 23 1 24 := ⟨Tryz.underlying34, by omega, by
  obtain ⟨i, h1, h2, h3, h4⟩ := info_parts (show (Tryz.prog.info? 23).map (fun i => (i.zero, i.size, i.bytes)) = some (some (.slice none 0 0), 1, 24) by kernel_rfl)
  exact ⟨i, _, h1, h2, h3, h4, rfl⟩⟩
set_option maxHeartbeats 4000000 in
theorem union_any {va vb : Value} {la lb : List Rg} (w : World) (hva : IsCells w va la.length (rcs la)) (hvb : IsCells w vb lb.length (rcs lb)) (na : la.length ≤ 10000000000) (nb : lb.length ≤ 10000000000)
    (ba : ∀ r ∈ la, 0 ≤ r.lo ∧ r.lo ≤ 4294967295 ∧ 0 ≤ r.hi ∧ r.hi ≤ 4294967295) (bb : ∀ r ∈ lb, 0 ≤ r.lo ∧ r.lo ≤ 4294967295 ∧ 0 ≤ r.hi ∧ r.hi ≤ 4294967295) :
    Calls Tryz.prog 29 #[va, vb] w fun e w' => ∃ c, IsCanOf (la ++ lb) c ∧ RetRgs w c e w' := by
  have hO := own_start [] w
  obtain ⟨a1, c1, rfl⟩ := cells_view hva
  obtain ⟨a2, c2, rfl⟩ := cells_view hvb
  have hl : (la ++ lb).length ≤ 100000000000 := by simp; omega
  have hb : ∀ r ∈ la ++ lb, 0 ≤ r.lo ∧ r.lo ≤ 4294967295 ∧ 0 ≤ r.hi ∧ r.hi ≤ 4294967295 := fun r hr => (List.mem_append.1 hr).elim (ba r) (bb r)
  have h1 := fun (g : Nat) (wq : World) (h : Keep [] w wq) hg => concat_any (g := g) wq (hva.below h.below) (hvb.below h.below) hg (by omega) (by omega)
  have h2 := fun (v : Value) (wq : World) (h : IsCells wq v (la ++ lb).length (rcs (la ++ lb))) => canonical_any wq h hl hb
  clear ba bb
  go_enter Tryz.func29, Tryz.ntmps29
  go_wp2_with (first | ((with_reducible refine is_build ?_); (refine' own_buildP (o := ⟨some 7, _, _, _, _, _⟩) [.slice a1 la.length c1, .slice a2 lb.length c2] hO (by rfl) rfl slice_RangesL rfl rfl (by rfl) (by decide) (by decide) ?_); clear hO; intro n7 wv hO) | (go_at_call 47; (with_reducible refine (h1 _ _ hO.keep (hO.range List.mem_cons_self rfl)).mono ?_); rintro e wv ⟨v, rfl, ⟨hc, hn⟩, hb9⟩; replace hO := hO.call hb9; clear hb9) | (go_at_call 40; (with_reducible refine (h2 _ _ hc).mono ?_); rintro e wv ⟨c9, hC, v2, rfl, ⟨hc2, hn2⟩, hb9⟩; have hz := hO.keep.size; replace hO := hO.call hb9; clear hb9))
  go_ret
  exact ⟨c9, hC, v2, rfl, ⟨hc2, by ((intro g hg; exact Nat.le_trans hz (hn2 g hg)))⟩, hO.keep.below⟩
end Go.Proofs.YtfhkmkbfgmbbaaaGreatDoor

/- The canonical list out of the starts of ranges: how the reference makes it. No program in sight. -/
namespace Go.Proofs.YtfhkmkbfgmbbaaaGreatDoor
open Go.RowKit
/-- a range more at the end, joined to the last one if it follows it at once -/
def addK (out : List Rg) (lo hi : Int) : List Rg := match out.getLast? with
  | some q => if q.hi + 1 = lo then out.dropLast ++ [⟨q.lo, hi⟩] else out ++ [⟨lo, hi⟩]
  | none => [⟨lo, hi⟩]
theorem addK_nil (lo hi : Int) : addK [] lo hi = [⟨lo, hi⟩] := rfl
theorem addK_join {A : List Rg} {q : Rg} {lo hi : Int} (h : q.hi + 1 = lo) : addK (A ++ [q]) lo hi = A ++ [⟨q.lo, hi⟩] := by
  unfold addK
  rw [List.getLast?_concat]
  dsimp only
  rw [if_pos h, List.dropLast_concat]
theorem addK_apart {A : List Rg} {q : Rg} {lo hi : Int} (h : ¬ q.hi + 1 = lo) : addK (A ++ [q]) lo hi = A ++ [q] ++ [⟨lo, hi⟩] := by
  unfold addK
  rw [List.getLast?_concat]
  dsimp only
  rw [if_neg h]
/-- where the k-th part ends -/
def bndK (top : Int) (s : List Int) (k : Nat) : Int := (s[k]?).getD (top + 1)
def keepK (p : Int → Bool) (top : Int) (s : List Int) : Nat → List Rg
  | 0 => []
  | k + 1 => match s[k]? with
    | some a => if p a = true then addK (keepK p top s k) a (bndK top s (k + 1) - 1) else keepK p top s k
    | none => keepK p top s k
theorem keepK_yes {p : Int → Bool} {top : Int} {s : List Int} {k : Nat} (h : k < s.length) (hp : p s[k] = true) : keepK p top s (k + 1) = addK (keepK p top s k) s[k] (bndK top s (k + 1) - 1) := by
  rw [keepK, List.getElem?_eq_getElem h]
  exact if_pos hp
theorem keepK_no {p : Int → Bool} {top : Int} {s : List Int} {k : Nat} (h : k < s.length) (hp : p s[k] = false) : keepK p top s (k + 1) = keepK p top s k := by
  rw [keepK, List.getElem?_eq_getElem h]
  exact if_neg (by rw [hp]; simp)
theorem addK_spec {out : List Rg} {lo hi : Int} (hc : canR out) (hr : lo ≤ hi) (ho : ∀ q ∈ out, q.hi < lo) :
    canR (addK out lo hi) ∧ (∀ v, memR (addK out lo hi) v ↔ memR out v ∨ (lo ≤ v ∧ v ≤ hi)) ∧ ∀ q ∈ addK out lo hi, q.hi < hi + 1 := by
  rcases snoc_cases out with rfl | ⟨A, q, rfl⟩
  · rw [addK_nil]
    refine ⟨⟨fun s hs => by rw [List.mem_singleton.1 hs]; exact hr, List.pairwise_singleton ..⟩, fun v => ?_, fun s hs => by rw [List.mem_singleton.1 hs]; dsimp only; omega⟩
    rw [memR_one]
    simp [memR_nil]
  · obtain ⟨hA, hq, hAq⟩ := canR_snoc.1 hc
    have hqr := ho q (by simp)
    by_cases h : q.hi + 1 = lo
    · rw [addK_join h]
      refine ⟨canR_snoc.2 ⟨hA, by dsimp only; omega, fun a ha => hAq a ha⟩, fun v => ?_, fun s hs => ?_⟩
      · rw [memR_append, memR_append, memR_one, memR_one]
        dsimp only
        constructor
        · rintro (h1 | h1)
          · exact .inl (.inl h1)
          · by_cases h2 : v ≤ q.hi
            · exact .inl (.inr ⟨h1.1, h2⟩)
            · exact .inr (by omega)
        · rintro ((h1 | h1) | h1)
          · exact .inl h1
          · exact .inr (by omega)
          · exact .inr (by omega)
      · rcases List.mem_append.1 hs with hs | hs
        · have := ho s (List.mem_append_left _ hs)
          omega
        · rw [List.mem_singleton.1 hs]; dsimp only; omega
    · rw [addK_apart h]
      refine ⟨canR_snoc.2 ⟨hc, hr, fun a ha => ?_⟩, fun v => ?_, fun s hs => ?_⟩
      · dsimp only
        rcases List.mem_append.1 ha with ha | ha
        · have := hAq a ha
          omega
        · rw [List.mem_singleton.1 ha]; omega
      · rw [memR_append, memR_one]
      · rcases List.mem_append.1 hs with hs | hs
        · have := ho s hs
          omega
        · rw [List.mem_singleton.1 hs]; dsimp only; omega
theorem asc_next {top : Int} {s : List Int} (hs : s.Pairwise (· < ·)) {k : Nat} (hk : k < s.length) {x : Int} (hx : x ∈ s) (h : s[k] < x) : bndK top s (k + 1) ≤ x := by
  obtain ⟨j, hj, rfl⟩ := List.getElem_of_mem hx
  have hkj : k < j := by
    rcases Nat.lt_trichotomy k j with h1 | h1 | h1
    · exact h1
    · subst h1; omega
    · have := List.pairwise_iff_getElem.1 hs j k hj hk h1
      omega
  have hk1 : k + 1 < s.length := by omega
  unfold bndK
  rw [List.getElem?_eq_getElem hk1, Option.getD_some]
  rcases Nat.lt_or_ge (k + 1) j with h1 | h1
  · have := List.pairwise_iff_getElem.1 hs (k + 1) j hk1 hj h1
    omega
  · have e : j = k + 1 := by omega
    subst e
    exact Int.le_refl _
theorem asc_bnd {top : Int} {s : List Int} (hs : s.Pairwise (· < ·)) (ht : ∀ x ∈ s, x ≤ top) {k : Nat} (hk : k < s.length) : s[k] < bndK top s (k + 1) := by
  unfold bndK
  by_cases h : k + 1 < s.length
  · rw [List.getElem?_eq_getElem h, Option.getD_some]
    exact List.pairwise_iff_getElem.1 hs k (k + 1) hk h (by omega)
  · rw [List.getElem?_eq_none (by omega), Option.getD_none]
    have := ht _ (List.getElem_mem hk)
    omega
theorem keepK_spec {p : Int → Bool} {top : Int} {s : List Int} {P : Int → Prop} (hs : s.Pairwise (· < ·)) (ht : ∀ x ∈ s, x ≤ top) (h0 : s[0]? = some 0)
    (hp : ∀ k (hk : k < s.length), p s[k] = true ↔ P s[k]) (hc : ∀ k (hk : k < s.length) v, s[k] ≤ v → v < bndK top s (k + 1) → (P v ↔ P s[k])) :
    ∀ k, k ≤ s.length → canR (keepK p top s k) ∧ (∀ v, memR (keepK p top s k) v ↔ 0 ≤ v ∧ v < bndK top s k ∧ P v) ∧ ∀ q ∈ keepK p top s k, q.hi < bndK top s k
  | 0, _ => by
    refine ⟨⟨fun _ h => absurd h List.not_mem_nil, List.Pairwise.nil⟩, fun v => ⟨fun h => absurd h (memR_nil v), fun ⟨h1, h2, _⟩ => ?_⟩, fun _ h => absurd h List.not_mem_nil⟩
    unfold bndK at h2
    rw [h0, Option.getD_some] at h2
    omega
  | k + 1, hk => by
    have hk' : k < s.length := by omega
    obtain ⟨h1, h2, h3⟩ := keepK_spec hs ht h0 hp hc k (by omega)
    have hb : bndK top s k = s[k] := by unfold bndK; rw [List.getElem?_eq_getElem hk', Option.getD_some]
    rw [hb] at h2 h3
    have hn := asc_bnd (top := top) hs ht hk'
    have hge : 0 ≤ s[k] := by
      by_cases e : k = 0
      · subst e
        have := (List.getElem?_eq_some_iff.1 h0).2
        omega
      · have h00 := List.getElem?_eq_some_iff.1 h0
        have := List.pairwise_iff_getElem.1 hs 0 k h00.1 hk' (by omega)
        have := h00.2
        omega
    cases hq : p s[k] with
    | true =>
      rw [keepK_yes hk' hq]
      obtain ⟨a1, a2, a3⟩ := addK_spec (lo := s[k]) (hi := bndK top s (k + 1) - 1) h1 (by omega) h3
      refine ⟨a1, fun v => ?_, fun q hq => by have := a3 q hq; omega⟩
      have hP := (hp k hk').1 hq
      rw [a2, h2]
      constructor
      · rintro (⟨b1, b2, b3⟩ | ⟨b1, b2⟩)
        · exact ⟨b1, by omega, b3⟩
        · exact ⟨by omega, by omega, (hc k hk' v b1 (by omega)).2 hP⟩
      · rintro ⟨b1, b2, b3⟩
        by_cases hv : v < s[k]
        · exact .inl ⟨b1, hv, b3⟩
        · exact .inr ⟨by omega, by omega⟩
    | false =>
      rw [keepK_no hk' hq]
      have hP : ¬ P s[k] := fun h => by rw [(hp k hk').2 h] at hq; cases hq
      refine ⟨h1, fun v => ?_, fun q hq => by have := h3 q hq; omega⟩
      rw [h2]
      constructor
      · rintro ⟨b1, b2, b3⟩; exact ⟨b1, by omega, b3⟩
      · rintro ⟨b1, b2, b3⟩
        by_cases hv : v < s[k]
        · exact ⟨b1, hv, b3⟩
        · exact absurd ((hc k hk' v (by omega) b2).1 b3) hP
/-- the reference's union of lists whose numbers are at most top -/
theorem keepK_can {p : Int → Bool} {top : Int} {l : List Rg} (h0 : 0 ≤ top) (hb : ∀ r ∈ l, 0 ≤ r.lo ∧ r.hi ≤ top) (hp : ∀ k (hk : k < (ptsR top l).length), p (ptsR top l)[k] = true ↔ memR l (ptsR top l)[k]) :
    IsCanOf l (keepK p top (ptsR top l) (ptsR top l).length) := by
  have hs := ptsR_asc top l
  have hin : ∀ {x : Int}, x ∈ ptsR top l ↔ x = 0 ∨ x ≤ top ∧ ∃ r ∈ l, r.lo ≤ r.hi ∧ (x = r.lo ∨ x = r.hi + 1) := mem_ptsR
  have ht : ∀ x ∈ ptsR top l, x ≤ top := fun x hx => by
    rcases hin.1 hx with rfl | h
    · exact h0
    · exact h.1
  have hge : ∀ x ∈ ptsR top l, 0 ≤ x := fun x hx => by
    rcases hin.1 hx with rfl | ⟨_, r, hr, h1, h2⟩
    · exact Int.le_refl _
    · have := hb r hr; omega
  have hz : (0 : Int) ∈ ptsR top l := hin.2 (.inl rfl)
  generalize ptsR top l = s at *
  have hfirst : s[0]? = some 0 := by
    obtain ⟨j, hj, e⟩ := List.getElem_of_mem hz
    rw [List.getElem?_eq_getElem (by omega)]
    by_cases hj0 : j = 0
    · subst hj0; rw [e]
    · have h1 := List.pairwise_iff_getElem.1 hs 0 j (by omega) hj (by omega)
      have h2 := hge _ (List.getElem_mem (show 0 < s.length by omega))
      omega
  have hc : ∀ k (hk : k < s.length) v, s[k] ≤ v → v < bndK top s (k + 1) → (memR l v ↔ memR l s[k]) := fun k hk v h1 h2 => by
    have hvt : v ≤ top := by
      have : bndK top s (k + 1) ≤ top + 1 := by
        unfold bndK
        by_cases h : k + 1 < s.length
        · rw [List.getElem?_eq_getElem h, Option.getD_some]
          have := ht _ (List.getElem_mem h)
          omega
        · rw [List.getElem?_eq_none (by omega), Option.getD_none]
          exact Int.le_refl _
      omega
    constructor
    · rintro ⟨r, hr, a1, a2⟩
      refine ⟨r, hr, ?_, by omega⟩
      by_cases h : s[k] < r.lo
      · have := asc_next (top := top) hs hk (hin.2 (.inr ⟨by omega, r, hr, by omega, .inl rfl⟩)) h
        omega
      · omega
    · rintro ⟨r, hr, a1, a2⟩
      refine ⟨r, hr, by omega, ?_⟩
      by_cases h : r.hi < v
      · have := asc_next (top := top) hs hk (hin.2 (.inr ⟨by omega, r, hr, by omega, .inr rfl⟩)) (by omega)
        omega
      · omega
  obtain ⟨h1, h2, -⟩ := keepK_spec hs ht hfirst hp hc s.length (Nat.le_refl _)
  refine ⟨h1, fun v => ?_⟩
  rw [h2]
  have hbt : bndK top s s.length = top + 1 := by unfold bndK; rw [List.getElem?_eq_none (Nat.le_refl _), Option.getD_none]
  rw [hbt]
  constructor
  · rintro ⟨_, _, h⟩; exact h
  · rintro ⟨r, hr, a1, a2⟩
    have := hb r hr
    exact ⟨by omega, by omega, r, hr, a1, a2⟩
end Go.Proofs.YtfhkmkbfgmbbaaaGreatDoor
