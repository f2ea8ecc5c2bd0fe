/- The reference of intervals: Contains, Union; both unions are the same list. -/
import Derived.Test.YtfhkmkbfgmbbaaaGreatDoorME
import Derived.Test.YtfhkmkbfgmbbaaaGreatDoorMB
namespace Go.Proofs.YtfhkmkbfgmbbaaaGreatDoor
open Go.RowKit
set_option maxRecDepth 100000
def memB (l : List Rg) (v : Int) : Bool := l.any fun r => decide (r.lo ≤ v) && decide (v ≤ r.hi)
theorem memB_iff {l : List Rg} {v : Int} : memB l v = true ↔ memR l v := by
  unfold memB memR
  rw [List.any_eq_true]
  simp only [Bool.and_eq_true, decide_eq_true_iff]
theorem memB_here {l : List Rg} {v : Int} {k : Nat} (h : k < l.length) (h1 : l[k].lo ≤ v) (h2 : v ≤ l[k].hi) : memB l v = true := memB_iff.2 ⟨_, List.getElem_mem h, h1, h2⟩
theorem memB_not {l : List Rg} {v : Int} (h : ∀ j (hj : j < l.length), ¬ (l[j].lo ≤ v ∧ v ≤ l[j].hi)) : memB l v = false := by
  rw [Bool.eq_false_iff]
  intro hm
  obtain ⟨r, hr, h1⟩ := memB_iff.1 hm
  obtain ⟨j, hj, rfl⟩ := List.getElem_of_mem hr
  exact h j hj h1
/-- the canonical list of what ranges hold -/
def canU (l : List Rg) : List Rg := keepK (memB l) 4294967295 (ptsR 4294967295 l) (ptsR 4294967295 l).length
theorem canU_is {l : List Rg} (hb : ∀ r ∈ l, 0 ≤ r.lo ∧ r.lo ≤ 4294967295 ∧ 0 ≤ r.hi ∧ r.hi ≤ 4294967295) : IsCanOf l (canU l) :=
  keepK_can (by decide) (fun r hr => ⟨(hb r hr).1, (hb r hr).2.2.2⟩) fun _ _ => memB_iff
theorem unionU_any {va vb : Value} {la lb : List Rg} (w : World) (hva : IsCells w va la.length (rcs la)) (hvb : IsCells w vb lb.length (rcs lb)) (na : la.length ≤ 10000000000) (nb : lb.length ≤ 10000000000)
    (ba : ∀ r ∈ la, 0 ≤ r.lo ∧ r.lo ≤ 4294967295 ∧ 0 ≤ r.hi ∧ r.hi ≤ 4294967295) (bb : ∀ r ∈ lb, 0 ≤ r.lo ∧ r.lo ≤ 4294967295 ∧ 0 ≤ r.hi ∧ r.hi ≤ 4294967295) :
    Calls Tryz.prog 29 #[va, vb] w (RetRgs w (canU (la ++ lb))) :=
  (union_any w hva hvb na nb ba bb).mono fun e w' ⟨c, hc, h⟩ => by
    rwa [hc.uniq (canU_is (l := la ++ lb) fun r hr => (List.mem_append.1 hr).elim (ba r) (bb r))] at h
theorem own_cellsA {w : World} {X : List Chunk} {R : List Row} {S : List Ro} {w0 : World} (hO : Own [] w0 X R S w) {v : Value} {n : Nat} {xs : List Value} (h : IsCells w0 v n xs) : Own [] w0 X R (roS v xs ++ S) w := by
  rcases h with ⟨rfl, _, rfl⟩ | ⟨g, o, c, rfl, _, hr⟩
  · exact hO
  · exact hO.addOld ⟨g, o, xs⟩ hr
theorem formC_view {v : Value} {n : Nat} (h : FormC v n) : ∃ a c, v = .slice a n c ∧ (0 < n → ∃ g o, a = some ⟨g, o, none⟩) := by
  rcases h with ⟨rfl, h2⟩ | ⟨g, o, c, rfl, _⟩
  · exact ⟨none, 0, by rw [h2], fun h => by omega⟩
  · exact ⟨_, _, rfl, fun _ => ⟨_, _, rfl⟩⟩
set_option maxHeartbeats 4000000 in
theorem rctn_any {vl : Value} {l : List Rg} (v : Int) (w : World) (hv : IsCells w vl l.length (rcs l)) (hn : l.length ≤ 100000000000) :
    Calls Tryz.prog 28 #[vl, .int .u32 v] w fun e w' => e = .returned (.bool (memB l v)) ∧ Below w.heap.size w w' := by
  have hO := own_cellsA (own_start [] w) hv
  obtain ⟨a, c, rfl, ha⟩ := formC_view (isCells_form hv)
  simp only [List.append_nil] at hO
  clear hv
  go_enter Tryz.func28, Tryz.ntmps28
  go_wp2_with fail
  go_loopw [5] (fun q wr => ∃ i : Nat, i ≤ l.length ∧ q = .int .i64 i ∧ Hid (∀ j (hj : j < l.length), j < i → ¬ (l[j].lo ≤ v ∧ v ≤ l[j].hi)) ∧ Own [] w [] [] (roS (.slice a l.length c) (rcs l)) wr) (fun q _ => l.length - (intOf q).toNat)
  case atStart => exact ⟨0, by omega, rfl, Lib.hid fun j _ h => by omega, hO⟩
  case round =>
    clear hO
    obtain ⟨i, hi, rfl, HN, hO⟩ := hrel
    have s4 : IntKind.i64.wrap ((i : Int) + 1) = (i : Int) + 1 := IntWalk.i64_in _ (by omega)
    by_cases hlt : i < l.length
    · obtain ⟨gl, ol, rfl⟩ := ha (by omega)
      simp only [roS] at hO
      obtain ⟨u1, u2⟩ := rcs_at hlt
      have HY : Hid (l[i].lo ≤ v → v ≤ l[i].hi → memB l v = true) := Lib.hid (memB_here hlt)
      have HX : Hid (¬ (l[i].lo ≤ v ∧ v ≤ l[i].hi) → ∀ j (hj : j < l.length), j < i + 1 → ¬ (l[j].lo ≤ v ∧ v ≤ l[j].hi)) := Lib.hid fun h j hj hj1 => by
        by_cases e : j = i
        · subst e; exact h
        · exact HN.out j hj (by omega)
      generalize l[i] = r9 at *
      by_cases h1 : r9.lo ≤ v
      · by_cases h2 : v ≤ r9.hi
        · have g1 : decide (r9.lo ≤ v) = true := decide_eq_true h1
          have g2 : decide (v ≤ r9.hi) = true := decide_eq_true h2
          have HE := Lib.hid (HY.out h1 h2)
          go_wp2_with ((with_reducible refine is_load ?_); refine own_ld (h := ?_))
          go_ret
          exact ⟨by rw [HE.out]; rfl, hO.keep.below⟩
        · have g1 : decide (r9.lo ≤ v) = true := decide_eq_true h1
          have g2 : decide (v ≤ r9.hi) = false := decide_eq_false h2
          go_wp2_with ((with_reducible refine is_load ?_); refine own_ld (h := ?_))
          go_roundw
          case rel => exact ⟨i + 1, by omega, by go_num, Lib.hid (HX.out fun h => h2 h.2), hO⟩
          case measure => simp [intOf]; omega
      · have g1 : decide (r9.lo ≤ v) = false := decide_eq_false h1
        go_wp2_with ((with_reducible refine is_load ?_); refine own_ld (h := ?_))
        go_roundw
        case rel => exact ⟨i + 1, by omega, by go_num, Lib.hid (HX.out fun h => h1 h.1), hO⟩
        case measure => simp [intOf]; omega
    · obtain rfl : i = l.length := by omega
      have HE : Hid (memB l v = false) := Lib.hid (memB_not fun j hj => HN.out j hj hj)
      go_wp2_with fail
      go_ret
      exact ⟨by rw [HE.out]; rfl, hO.keep.below⟩
theorem rcs_nil_of (l : List Rg) : l.length = 0 → rcs l = [] := fun h => by rw [List.length_eq_zero_iff.1 h]; rfl
theorem memB_append (la lb : List Rg) (v : Int) : memB (la ++ lb) v = (memB la v || memB lb v) := by
  unfold memB; rw [List.any_append]
theorem bnd_in {top : Int} {s : List Int} {k : Nat} (h : k + 1 < s.length) : bndK top s (k + 1) = s[k + 1] := by
  unfold bndK; rw [List.getElem?_eq_getElem h, Option.getD_some]
theorem bnd_end {top : Int} {s : List Int} {k : Nat} (h : ¬ k + 1 < s.length) : bndK top s (k + 1) = top + 1 := by
  unfold bndK; rw [List.getElem?_eq_none (by omega), Option.getD_none]
set_option maxHeartbeats 16000000 in
theorem rkeep_any {va vb : Value} {la lb : List Rg} (w : World) (hva : IsCells w va la.length (rcs la)) (hvb : IsCells w vb lb.length (rcs lb)) (na : la.length ≤ 10000000000) (nb : lb.length ≤ 10000000000)
    (ba : ∀ r ∈ la, 0 ≤ r.lo ∧ r.lo ≤ 4294967295 ∧ 0 ≤ r.hi ∧ r.hi ≤ 4294967295) (bb : ∀ r ∈ lb, 0 ≤ r.lo ∧ r.lo ≤ 4294967295 ∧ 0 ≤ r.hi ∧ r.hi ≤ 4294967295) :
    Calls Tryz.prog 43 #[va, vb, .int .i64 0, .int .u32 4294967295] w (RetRgs w (canU (la ++ lb))) := by
  have hO := own_cellsA (own_cellsA (own_start [] w) hvb) hva
  have hsA := fun (wq : World) (h : Keep [] w wq) => hva.below h.below
  have hsB := fun (wq : World) (h : Keep [] w wq) => hvb.below h.below
  have fa := isCells_form hva
  have fb := isCells_form hvb
  have za := rcs_nil_of la
  have zb := rcs_nil_of lb
  have hb : ∀ r ∈ la ++ lb, 0 ≤ r.lo ∧ r.lo ≤ 4294967295 ∧ 0 ≤ r.hi ∧ r.hi ≤ 4294967295 := fun r hr => (List.mem_append.1 hr).elim (ba r) (bb r)
  obtain ⟨a1, c1, rfl, -⟩ := formC_view fa
  obtain ⟨a2, c2, rfl, -⟩ := formC_view fb
  simp only [List.append_nil] at hO
  clear hva hvb
  have hst := fun (v : Value) (w : World) (hv : IsCells w v (la ++ lb).length (rcs (la ++ lb))) => starts_any (top := 4294967295) w hv (by rw [List.length_append]; omega) (by decide) (by decide) hb
  have hS1 : ∀ x ∈ ptsR 4294967295 (la ++ lb), 0 ≤ x ∧ x ≤ 4294967295 := fun x hx => by
    rcases mem_ptsR.1 hx with rfl | ⟨h1, r, hr, h2, h3⟩
    · omega
    · have := hb r hr; omega
  have hS2 := ptsR_len 4294967295 (la ++ lb) (la ++ lb).length (Nat.le_refl _)
  have hS3 := ptsR_asc 4294967295 (la ++ lb)
  rw [List.take_length, List.length_append] at hS2
  have hCU : canU (la ++ lb) = keepK (memB (la ++ lb)) 4294967295 (ptsR 4294967295 (la ++ lb)) (ptsR 4294967295 (la ++ lb)).length := rfl
  rw [hCU]
  clear hCU
  have hMB := memB_append la lb
  generalize hS9 : ptsR 4294967295 (la ++ lb) = S at *
  clear hS9
  have s0 : IntKind.u64.wrap (4294967295 : Int) = 4294967295 := by decide
  have hE9 : [] ++ rcs la ++ rcs lb = rcs (la ++ lb) := by rw [rcs_append]; rfl
  go_enter Tryz.func43, Tryz.ntmps43
  go_wp2_with (first | ((with_reducible refine is_build ?_); (refine own_build0 (o := ⟨some 17, _, _, _, _, _⟩) hO (by rfl) rfl slice_Ranges ?_); clear hO; intro n17 wv hO) | ((with_reducible refine is_append ?_); (refine own_appendS (o := ⟨some 19, _, _, _, _, _⟩) hO rfl rfl slice_Ranges rfl rfl (src_of_cells (hsA _ hO.keep) (rcs_length la)) (rcs_one' la) (fun _ => by repeat (first | exact UpdR.here | apply UpdR.there)) (by simp; omega) (by unfold maxLen; simp; omega) ?_); clear hO; intro v19 wv hO) | ((with_reducible refine is_append ?_); (refine own_appendS (o := ⟨some 21, _, _, _, _, _⟩) hO rfl rfl slice_Ranges rfl rfl (src_of_cells (hsB _ hO.keep) (rcs_length lb)) (rcs_one' lb) (fun _ => by repeat (exact UpdR.here)) (by simp; omega) (by unfold maxLen; simp; omega) ?_); clear hO; intro v21 wv hO) | (go_at_call 61; (have hQ9 := hO); rw [hE9] at hQ9; (have hR9 := own_rgs hQ9 List.mem_cons_self); (with_reducible refine (hst _ _ hR9).mono ?_); clear hR9 hQ9; rintro e wv ⟨g9, c9, rfl, hc9, hr9, hg9, hb9⟩; have hs9 := hO.keep.size; replace hO := ((hO.call hb9).sub (X' := []) (R' := []) (List.nil_sublist _) (List.nil_sublist _) (fun _ h => h)).addRo ⟨g9, 0, ul S⟩ hr9 (fun _ hm => by simp [excl] at hm); clear hb9 hst))
  replace hO := hO.sub (X' := []) (R' := []) (List.nil_sublist _) (List.nil_sublist _) (fun _ h => h)
  replace hO := hO.nilRow 46 2
  go_loopw [10, 11] (fun r q wr => ∃ (i : Nat) (m : List Rg), i ≤ S.length ∧ q = .int .i64 i ∧ m.length ≤ i ∧ (∀ q ∈ m, 0 ≤ q.hi ∧ q.hi ≤ 4294967295) ∧ Hid (keepK (memB (la ++ lb)) 4294967295 S i = m) ∧ Own [] w [] [⟨r, m.length, rcs m, 46, 2⟩] (⟨g9, 0, ul S⟩ :: (roS (.slice a1 la.length c1) (rcs la) ++ roS (.slice a2 lb.length c2) (rcs lb))) wr) (fun _ q _ => S.length - (intOf q).toNat)
  case atStart => exact ⟨0, [], by omega, rfl, by simp, by simp, Lib.hid rfl, hO⟩
  case round =>
    clear hO
    obtain ⟨i, m, hi, rfl, hmi, hmb, HM, hO⟩ := hrel
    have s4 : IntKind.i64.wrap ((i : Int) + 1) = (i : Int) + 1 := IntWalk.i64_in _ (by omega)
    by_cases hlt : i < S.length
    · have u1 := ul_at hlt
      obtain ⟨b1, b2⟩ := hS1 _ (List.getElem_mem hlt)
      have s5 : IntKind.u32.wrap S[i] = S[i] := by rw [IntKind.wrap_u32]; omega
      have cA := fun w hv => rctn_any (vl := .slice a1 la.length c1) (l := la) S[i] w hv (by omega)
      have cB := fun w hv => rctn_any (vl := .slice a2 lb.length c2) (l := lb) S[i] w hv (by omega)
      have hKy := fun h => keepK_yes (p := memB (la ++ lb)) (top := 4294967295) hlt h
      have hKn := fun h => keepK_no (p := memB (la ++ lb)) (top := 4294967295) hlt h
      have hbd := asc_bnd (top := 4294967295) hS3 (fun x hx => (hS1 x hx).2) hlt
      rw [hMB, HM.out] at hKy hKn
      clear HM
      generalize memB la S[i] = xa at *
      generalize memB lb S[i] = xb at *
      by_cases hn : i + 1 < S.length
      · have g2 : decide ((i : Int) + 1 < (S.length : Int)) = true := decide_eq_true (by omega)
        have u2 := ul_at hn
        obtain ⟨b3, b4⟩ := hS1 _ (List.getElem_mem hn)
        rw [bnd_in hn] at hKy hbd
        have s9 : IntKind.u64.wrap (S[i + 1] - 1) = S[i + 1] - 1 := by rw [IntKind.wrap_u64]; omega
        have sE : IntKind.u32.wrap (S[i + 1] - 1) = S[i + 1] - 1 := by rw [IntKind.wrap_u32]; omega
        have hE0 : 0 ≤ S[i + 1] - 1 := by omega
        have hE1 : S[i + 1] - 1 ≤ 4294967295 := by omega
        generalize S[i] = x at *
        generalize S[i + 1] = x2 at *
        go_wp2_with ((with_reducible refine is_load ?_); refine own_ld (h := ?_))
        refine wp_region_any (by kernel_rfl) ?_
        replace hO := hO.drew
        have ix9 := Ix.mk [0, 1, 2, 3, 7, 8, 9, 10]
        iterate 8 (refine wpAny_tk ix9 ?_; replace ix9 := ix9.tail; (first | go_big_quiet_skip | (go_big_quiet_want; (go_big_quiet_op; (first | go_big_quiet_on | ((refine ⟨_, fun _ _ => rfl, ?_⟩); go_big_quiet_on))))); (refine wpQuiet_nil ?_); (try simp only [Act.put]); (try simp only [List.setIfInBounds_toArray, List.set_cons_zero, List.set_cons_succ]))
        clear ix9
        refine wpAny_all (rs := [4, 11]) (by kernel_rfl) (by simp) (ord_cons ?_ (ord_cons ?_ ord_nil))
        rotate_left 2
        all_goals
          refine wpOp_of_listL rfl ?_
          ((with_reducible refine is_load ?_); refine own_ld (h := ?_)); (try simp only [Act.put]); (try simp only [List.setIfInBounds_toArray, List.set_cons_zero, List.set_cons_succ])
          refine wpList_done (qk_intro ?_)
        refine wpAny_tk (Ix.mk [5]) ?_
        (first | go_big_quiet_skip | (go_big_quiet_want; (go_big_quiet_op; (first | go_big_quiet_on | ((refine ⟨_, fun _ _ => rfl, ?_⟩); go_big_quiet_on))))); (refine wpQuiet_nil ?_); (try simp only [Act.put]); (try simp only [List.setIfInBounds_toArray, List.set_cons_zero, List.set_cons_succ])
        refine wpAny_all (rs := [6, 11]) (by kernel_rfl) (by simp) (ord_cons ?_ (ord_cons ?_ ord_nil))
        rotate_left 2
        refine wpAny_tk (Ix.mk [12]) ?_
        (first | go_big_quiet_skip | (go_big_quiet_want; (go_big_quiet_op; (first | go_big_quiet_on | ((refine ⟨_, fun _ _ => rfl, ?_⟩); go_big_quiet_on))))); (refine wpQuiet_nil ?_); (try simp only [Act.put]); (try simp only [List.setIfInBounds_toArray, List.set_cons_zero, List.set_cons_succ])
        refine wpAny_all (rs := [4]) (by kernel_rfl) (by simp) (ord_cons ?_ ord_nil)
        rotate_left 1
        all_goals
          refine wpOp_of_listL rfl ?_
          (first | ((with_reducible refine is_load ?_); refine own_ld (h := ?_)) | ((refine wpList_step (fun K hK => ?_)); go_simp; ((go_at_call 28; (with_reducible refine (cA _ (hO.isC fa za (by intro q hq; repeat (first | exact List.mem_append_left _ hq | apply List.mem_cons_of_mem)))).mono ?_); rintro e wv ⟨rfl, hb9⟩; replace hO := hO.call hb9; clear hb9); (try simp only []); (refine hK _ _ ?_); clear hK K))); (try simp only [Act.put]); (try simp only [List.setIfInBounds_toArray, List.set_cons_zero, List.set_cons_succ])
          refine wpList_done (qk_intro ?_)
        refine wpAny_all (rs := [11]) (by kernel_rfl) (by simp) (ord_cons ?_ ord_nil)
        rotate_left 1
        refine wpAny_tk (Ix.mk [12]) ?_
        (first | go_big_quiet_skip | (go_big_quiet_want; (go_big_quiet_op; (first | go_big_quiet_on | ((refine ⟨_, fun _ _ => rfl, ?_⟩); go_big_quiet_on))))); (refine wpQuiet_nil ?_); (try simp only [Act.put]); (try simp only [List.setIfInBounds_toArray, List.set_cons_zero, List.set_cons_succ])
        refine wpAny_all (rs := [6]) (by kernel_rfl) (by simp) (ord_cons ?_ ord_nil)
        rotate_left 1
        refine wpAny_tk (Ix.mk [5]) ?_
        (first | go_big_quiet_skip | (go_big_quiet_want; (go_big_quiet_op; (first | go_big_quiet_on | ((refine ⟨_, fun _ _ => rfl, ?_⟩); go_big_quiet_on))))); (refine wpQuiet_nil ?_); (try simp only [Act.put]); (try simp only [List.setIfInBounds_toArray, List.set_cons_zero, List.set_cons_succ])
        refine wpAny_all (rs := [6]) (by kernel_rfl) (by simp) (ord_cons ?_ ord_nil)
        rotate_left 1
        all_goals
          refine wpOp_of_listL rfl ?_
          (first | ((with_reducible refine is_load ?_); refine own_ld (h := ?_)) | ((refine wpList_step (fun K hK => ?_)); go_simp; ((go_at_call 28; (with_reducible refine (cA _ (hO.isC fa za (by intro q hq; repeat (first | exact List.mem_append_left _ hq | apply List.mem_cons_of_mem)))).mono ?_); rintro e wv ⟨rfl, hb9⟩; replace hO := hO.call hb9; clear hb9); (try simp only []); (refine hK _ _ ?_); clear hK K))); (try simp only [Act.put]); (try simp only [List.setIfInBounds_toArray, List.set_cons_zero, List.set_cons_succ])
          refine wpList_done (qk_intro ?_)
        refine wpAny_tk (Ix.mk [12]) ?_
        (first | go_big_quiet_skip | (go_big_quiet_want; (go_big_quiet_op; (first | go_big_quiet_on | ((refine ⟨_, fun _ _ => rfl, ?_⟩); go_big_quiet_on))))); (refine wpQuiet_nil ?_); (try simp only [Act.put]); (try simp only [List.setIfInBounds_toArray, List.set_cons_zero, List.set_cons_succ])
        refine wpAny_all (rs := [13]) (by kernel_rfl) (by simp) (ord_cons ?_ ord_nil)
        rotate_left 1
        refine wpAny_all (rs := [13]) (by kernel_rfl) (by simp) (ord_cons ?_ ord_nil)
        rotate_left 1
        refine wpAny_all (rs := [13]) (by kernel_rfl) (by simp) (ord_cons ?_ ord_nil)
        rotate_left 1
        all_goals
          refine wpOp_of_listL rfl ?_
          ((refine wpList_step (fun K hK => ?_)); go_simp; ((go_at_call 28; (with_reducible refine (cB _ (hO.isC fb zb (by intro q hq; repeat (first | exact hq | apply List.mem_append_right | apply List.mem_cons_of_mem)))).mono ?_); rintro e wv ⟨rfl, hb9⟩; replace hO := hO.call hb9; clear hb9); (try simp only []); (refine hK _ _ ?_); clear hK K))
          refine wpList_done (qk_intro ?_)
        refine wpAny_all (rs := [14]) (by kernel_rfl) (by simp) (ord_cons ?_ ord_nil)
        rotate_left 1
        refine wpAny_all (rs := [14]) (by kernel_rfl) (by simp) (ord_cons ?_ ord_nil)
        rotate_left 1
        refine wpAny_all (rs := [14]) (by kernel_rfl) (by simp) (ord_cons ?_ ord_nil)
        rotate_left 1
        all_goals
          refine wpOp_of_listL rfl ?_
          ((refine wpList_step (fun K hK => ?_)); go_simp; ((refine hK _ _ ?_); clear hK K))
          refine wpList_done (qk_intro ?_)
        refine wpAny_all (rs := [15]) (by kernel_rfl) (by simp) (ord_cons ?_ ord_nil)
        rotate_left 1
        refine wpAny_all (rs := [15]) (by kernel_rfl) (by simp) (ord_cons ?_ ord_nil)
        rotate_left 1
        refine wpAny_all (rs := [15]) (by kernel_rfl) (by simp) (ord_cons ?_ ord_nil)
        rotate_left 1
        all_goals
          refine wpOp_of_listL rfl ?_
          ((refine wpList_step (fun K hK => ?_)); go_simp; ((refine hK _ _ ?_); clear hK K))
          refine wpList_done (qk_intro ?_)
        refine wpAny_done (by kernel_rfl) ?_ _
        rotate_left
        refine wpAny_done (by kernel_rfl) ?_ _
        rotate_left
        refine wpAny_done (by kernel_rfl) ?_ _
        rotate_left
        all_goals
          cases hx : (xa || xb)
          · have HE := Lib.hid (hKn hx)
            cases xa
            · cases xb
              · clear hx hKy hKn
                go_wp2_with fail
                go_roundw
                case rel => exact ⟨i + 1, m, by omega, by go_num, by omega, hmb, HE, hO⟩
                case measure => simp [intOf]; omega
              · cases hx
            · cases hx
          · have HT := hKy hx
            cases xa
            · cases xb
              · cases hx
              · clear hx hKy hKn
                obtain ⟨a4, c4, rfl, ha4⟩ := own_view hO List.mem_cons_self
                rcases snoc_cases m with rfl | ⟨A, q, rfl⟩
                · rw [addK_nil] at HT
                  have HE := Lib.hid HT
                  clear HT
                  have g5 : decide ((0 : Int) < (([] : List Rg).length : Nat)) = false := rfl
                  go_wp2_with fail
                  (refine own_quiet hO (by kernel_rfl) (by kernel_rfl) ?_; clear hO; (repeat (first | go_big_quiet_skip | (go_big_quiet_want; (go_big_quiet_op; (first | go_big_quiet_on | ((refine ⟨_, fun _ _ => rfl, ?_⟩); go_big_quiet_on)))))); (refine wpQuiet_nil ?_); intro wv hO)
                  go_wp2_with (first | ((with_reducible refine is_load ?_); refine own_ld (h := ?_)) | ((with_reducible refine is_build ?_); (refine' own_build1 (o := ⟨some 120, _, _, _, _, _⟩) hO (by rfl) rfl rfl ?hu ?hf ?_; (case hu => (exact und_Ranges)); (case hf => kernel_rfl); clear hO; intro n120 wv hO)) | ((with_reducible refine is_append ?_); (refine own_ap (o := ⟨some 121, _, _, _, _, _⟩) (hO := hO) (h := ?_); clear hO; intro g121 c121 wv hO)))
                  go_roundw
                  case rel =>
                    refine ⟨i + 1, [⟨x, x2 - 1⟩], by omega, by go_num, by simp, ?_, HE, ?_⟩
                    · intro r hr; rw [List.mem_singleton.1 hr]; exact ⟨hE0, hE1⟩
                    · exact hO.sub (.cons _ (.refl _)) (.refl _) (fun _ h => h)
                  case measure => simp [intOf]; omega
                · have hk : (A ++ [q]).length = A.length + 1 := by simp
                  rw [hk] at ha4
                  obtain ⟨gq, rfl⟩ := ha4 (by omega)
                  obtain ⟨q1, q2⟩ := hmb q (by simp)
                  obtain ⟨-, u3⟩ := rcs_at (l := A ++ [q]) (i := A.length) (by simp)
                  rw [List.getElem_concat_length rfl] at u3
                  rw [hk] at hO hmi ⊢
                  have g5 : decide ((0 : Int) < ((A.length + 1 : Nat) : Int)) = true := by simp
                  have s6 : IntKind.i64.wrap (((A.length + 1 : Nat) : Int) - 1) = (A.length : Int) := by rw [IntWalk.i64_in _ (by omega)]; omega
                  have s7 : IntKind.u64.wrap q.hi = q.hi := by rw [IntKind.wrap_u64]; omega
                  have s8 : IntKind.u64.wrap (q.hi + 1) = q.hi + 1 := by rw [IntKind.wrap_u64]; omega
                  by_cases hj : q.hi + 1 = x
                  · have g6 : (q.hi + 1 == x) = true := by simp [hj]
                    rw [addK_join hj] at HT
                    have HE := Lib.hid HT
                    clear HT hj
                    go_wp2_with fail
                    (refine own_quiet hO (by kernel_rfl) (by kernel_rfl) ?_; clear hO; (repeat (go_big_quiet_want; (first | ((with_reducible refine is_loadQ ?_); (refine q_ld (h := ?_)); (try simp only [Act.put]); (try simp only [List.setIfInBounds_toArray, List.set_cons_zero, List.set_cons_succ]); go_big_quiet_on) | (go_big_quiet_op; (first | go_big_quiet_on | ((refine ⟨_, fun _ _ => rfl, ?_⟩); go_big_quiet_on)))))); (refine wpQuiet_nil ?_); intro wv hO)
                    go_wp2_with ((with_reducible refine is_store ?_); (refine own_stW (hO := hO) (hn := rfl) (hl := by rw [rcs_length]; simp; omega) (h := ?_); clear hO; intro wv hO))
                    rw [rcs_set] at hO
                    go_roundw
                    case rel =>
                      refine ⟨i + 1, A ++ [⟨q.lo, x2 - 1⟩], by omega, by go_num, by simp; omega, ?_, HE, ?_⟩
                      · intro r hr
                        rcases List.mem_append.1 hr with hr | hr
                        · exact hmb r (List.mem_append_left _ hr)
                        · rw [List.mem_singleton.1 hr]; exact ⟨hE0, hE1⟩
                      · rw [List.length_append]
                        exact hO
                    case measure => simp [intOf]; omega
                  · have g6 : (q.hi + 1 == x) = false := by simp [hj]
                    rw [addK_apart hj] at HT
                    have HE := Lib.hid HT
                    clear HT hj
                    go_wp2_with fail
                    (refine own_quiet hO (by kernel_rfl) (by kernel_rfl) ?_; clear hO; (repeat (go_big_quiet_want; (first | ((with_reducible refine is_loadQ ?_); (refine q_ld (h := ?_)); (try simp only [Act.put]); (try simp only [List.setIfInBounds_toArray, List.set_cons_zero, List.set_cons_succ]); go_big_quiet_on) | (go_big_quiet_op; (first | go_big_quiet_on | ((refine ⟨_, fun _ _ => rfl, ?_⟩); go_big_quiet_on)))))); (refine wpQuiet_nil ?_); intro wv hO)
                    go_wp2_with (first | ((with_reducible refine is_load ?_); refine own_ld (h := ?_)) | ((with_reducible refine is_build ?_); (refine' own_build1 (o := ⟨some 120, _, _, _, _, _⟩) hO (by rfl) rfl rfl ?hu ?hf ?_; (case hu => (exact und_Ranges)); (case hf => kernel_rfl); clear hO; intro n120 wv hO)) | ((with_reducible refine is_append ?_); (refine own_ap (o := ⟨some 121, _, _, _, _, _⟩) (hO := hO) (h := ?_); clear hO; intro g121 c121 wv hO)))
                    go_roundw
                    case rel =>
                      refine ⟨i + 1, A ++ [q] ++ [⟨x, x2 - 1⟩], by omega, by go_num, by simp; omega, ?_, HE, ?_⟩
                      · intro r hr
                        rcases List.mem_append.1 hr with hr | hr
                        · exact hmb r hr
                        · rw [List.mem_singleton.1 hr]; exact ⟨hE0, hE1⟩
                      · rw [rcs_append, rcs_one, List.length_append, hk]
                        exact hO.sub (.cons _ (.refl _)) (.refl _) (fun _ h => h)
                    case measure => simp [intOf]; omega
            · clear hx hKy hKn
              obtain ⟨a4, c4, rfl, ha4⟩ := own_view hO List.mem_cons_self
              rcases snoc_cases m with rfl | ⟨A, q, rfl⟩
              · rw [addK_nil] at HT
                have HE := Lib.hid HT
                clear HT
                have g5 : decide ((0 : Int) < (([] : List Rg).length : Nat)) = false := rfl
                go_wp2_with fail
                (refine own_quiet hO (by kernel_rfl) (by kernel_rfl) ?_; clear hO; (repeat (first | go_big_quiet_skip | (go_big_quiet_want; (go_big_quiet_op; (first | go_big_quiet_on | ((refine ⟨_, fun _ _ => rfl, ?_⟩); go_big_quiet_on)))))); (refine wpQuiet_nil ?_); intro wv hO)
                go_wp2_with (first | ((with_reducible refine is_load ?_); refine own_ld (h := ?_)) | ((with_reducible refine is_build ?_); (refine' own_build1 (o := ⟨some 120, _, _, _, _, _⟩) hO (by rfl) rfl rfl ?hu ?hf ?_; (case hu => (exact und_Ranges)); (case hf => kernel_rfl); clear hO; intro n120 wv hO)) | ((with_reducible refine is_append ?_); (refine own_ap (o := ⟨some 121, _, _, _, _, _⟩) (hO := hO) (h := ?_); clear hO; intro g121 c121 wv hO)))
                go_roundw
                case rel =>
                  refine ⟨i + 1, [⟨x, x2 - 1⟩], by omega, by go_num, by simp, ?_, HE, ?_⟩
                  · intro r hr; rw [List.mem_singleton.1 hr]; exact ⟨hE0, hE1⟩
                  · exact hO.sub (.cons _ (.refl _)) (.refl _) (fun _ h => h)
                case measure => simp [intOf]; omega
              · have hk : (A ++ [q]).length = A.length + 1 := by simp
                rw [hk] at ha4
                obtain ⟨gq, rfl⟩ := ha4 (by omega)
                obtain ⟨q1, q2⟩ := hmb q (by simp)
                obtain ⟨-, u3⟩ := rcs_at (l := A ++ [q]) (i := A.length) (by simp)
                rw [List.getElem_concat_length rfl] at u3
                rw [hk] at hO hmi ⊢
                have g5 : decide ((0 : Int) < ((A.length + 1 : Nat) : Int)) = true := by simp
                have s6 : IntKind.i64.wrap (((A.length + 1 : Nat) : Int) - 1) = (A.length : Int) := by rw [IntWalk.i64_in _ (by omega)]; omega
                have s7 : IntKind.u64.wrap q.hi = q.hi := by rw [IntKind.wrap_u64]; omega
                have s8 : IntKind.u64.wrap (q.hi + 1) = q.hi + 1 := by rw [IntKind.wrap_u64]; omega
                by_cases hj : q.hi + 1 = x
                · have g6 : (q.hi + 1 == x) = true := by simp [hj]
                  rw [addK_join hj] at HT
                  have HE := Lib.hid HT
                  clear HT hj
                  go_wp2_with fail
                  (refine own_quiet hO (by kernel_rfl) (by kernel_rfl) ?_; clear hO; (repeat (go_big_quiet_want; (first | ((with_reducible refine is_loadQ ?_); (refine q_ld (h := ?_)); (try simp only [Act.put]); (try simp only [List.setIfInBounds_toArray, List.set_cons_zero, List.set_cons_succ]); go_big_quiet_on) | (go_big_quiet_op; (first | go_big_quiet_on | ((refine ⟨_, fun _ _ => rfl, ?_⟩); go_big_quiet_on)))))); (refine wpQuiet_nil ?_); intro wv hO)
                  go_wp2_with ((with_reducible refine is_store ?_); (refine own_stW (hO := hO) (hn := rfl) (hl := by rw [rcs_length]; simp; omega) (h := ?_); clear hO; intro wv hO))
                  rw [rcs_set] at hO
                  go_roundw
                  case rel =>
                    refine ⟨i + 1, A ++ [⟨q.lo, x2 - 1⟩], by omega, by go_num, by simp; omega, ?_, HE, ?_⟩
                    · intro r hr
                      rcases List.mem_append.1 hr with hr | hr
                      · exact hmb r (List.mem_append_left _ hr)
                      · rw [List.mem_singleton.1 hr]; exact ⟨hE0, hE1⟩
                    · rw [List.length_append]
                      exact hO
                  case measure => simp [intOf]; omega
                · have g6 : (q.hi + 1 == x) = false := by simp [hj]
                  rw [addK_apart hj] at HT
                  have HE := Lib.hid HT
                  clear HT hj
                  go_wp2_with fail
                  (refine own_quiet hO (by kernel_rfl) (by kernel_rfl) ?_; clear hO; (repeat (go_big_quiet_want; (first | ((with_reducible refine is_loadQ ?_); (refine q_ld (h := ?_)); (try simp only [Act.put]); (try simp only [List.setIfInBounds_toArray, List.set_cons_zero, List.set_cons_succ]); go_big_quiet_on) | (go_big_quiet_op; (first | go_big_quiet_on | ((refine ⟨_, fun _ _ => rfl, ?_⟩); go_big_quiet_on)))))); (refine wpQuiet_nil ?_); intro wv hO)
                  go_wp2_with (first | ((with_reducible refine is_load ?_); refine own_ld (h := ?_)) | ((with_reducible refine is_build ?_); (refine' own_build1 (o := ⟨some 120, _, _, _, _, _⟩) hO (by rfl) rfl rfl ?hu ?hf ?_; (case hu => (exact und_Ranges)); (case hf => kernel_rfl); clear hO; intro n120 wv hO)) | ((with_reducible refine is_append ?_); (refine own_ap (o := ⟨some 121, _, _, _, _, _⟩) (hO := hO) (h := ?_); clear hO; intro g121 c121 wv hO)))
                  go_roundw
                  case rel =>
                    refine ⟨i + 1, A ++ [q] ++ [⟨x, x2 - 1⟩], by omega, by go_num, by simp; omega, ?_, HE, ?_⟩
                    · intro r hr
                      rcases List.mem_append.1 hr with hr | hr
                      · exact hmb r hr
                      · rw [List.mem_singleton.1 hr]; exact ⟨hE0, hE1⟩
                    · rw [rcs_append, rcs_one, List.length_append, hk]
                      exact hO.sub (.cons _ (.refl _)) (.refl _) (fun _ h => h)
                  case measure => simp [intOf]; omega
      · have g2 : decide ((i : Int) + 1 < (S.length : Int)) = false := decide_eq_false (by omega)
        rw [bnd_end hn] at hKy hbd
        have sE : IntKind.u32.wrap (4294967295 : Int) = 4294967295 := by decide
        rw [show (4294967295 : Int) + 1 - 1 = 4294967295 by decide] at hKy
        obtain ⟨E, hEE⟩ : ∃ E : Int, E = 4294967295 := ⟨_, rfl⟩
        have hE0 : 0 ≤ (4294967295 : Int) := by decide
        have hE1 : (4294967295 : Int) ≤ 4294967295 := by decide
        clear hEE
        generalize S[i] = x at *
        go_wp2_with fail
        refine wp_region_any (by kernel_rfl) ?_
        replace hO := hO.drew
        have ix9 := Ix.mk [0, 1, 2, 3, 7, 8, 9, 10]
        iterate 8 (refine wpAny_tk ix9 ?_; replace ix9 := ix9.tail; (first | go_big_quiet_skip | (go_big_quiet_want; (go_big_quiet_op; (first | go_big_quiet_on | ((refine ⟨_, fun _ _ => rfl, ?_⟩); go_big_quiet_on))))); (refine wpQuiet_nil ?_); (try simp only [Act.put]); (try simp only [List.setIfInBounds_toArray, List.set_cons_zero, List.set_cons_succ]))
        clear ix9
        refine wpAny_all (rs := [4, 11]) (by kernel_rfl) (by simp) (ord_cons ?_ (ord_cons ?_ ord_nil))
        rotate_left 2
        all_goals
          refine wpOp_of_listL rfl ?_
          ((with_reducible refine is_load ?_); refine own_ld (h := ?_)); (try simp only [Act.put]); (try simp only [List.setIfInBounds_toArray, List.set_cons_zero, List.set_cons_succ])
          refine wpList_done (qk_intro ?_)
        refine wpAny_tk (Ix.mk [5]) ?_
        (first | go_big_quiet_skip | (go_big_quiet_want; (go_big_quiet_op; (first | go_big_quiet_on | ((refine ⟨_, fun _ _ => rfl, ?_⟩); go_big_quiet_on))))); (refine wpQuiet_nil ?_); (try simp only [Act.put]); (try simp only [List.setIfInBounds_toArray, List.set_cons_zero, List.set_cons_succ])
        refine wpAny_all (rs := [6, 11]) (by kernel_rfl) (by simp) (ord_cons ?_ (ord_cons ?_ ord_nil))
        rotate_left 2
        refine wpAny_tk (Ix.mk [12]) ?_
        (first | go_big_quiet_skip | (go_big_quiet_want; (go_big_quiet_op; (first | go_big_quiet_on | ((refine ⟨_, fun _ _ => rfl, ?_⟩); go_big_quiet_on))))); (refine wpQuiet_nil ?_); (try simp only [Act.put]); (try simp only [List.setIfInBounds_toArray, List.set_cons_zero, List.set_cons_succ])
        refine wpAny_all (rs := [4]) (by kernel_rfl) (by simp) (ord_cons ?_ ord_nil)
        rotate_left 1
        all_goals
          refine wpOp_of_listL rfl ?_
          (first | ((with_reducible refine is_load ?_); refine own_ld (h := ?_)) | ((refine wpList_step (fun K hK => ?_)); go_simp; ((go_at_call 28; (with_reducible refine (cA _ (hO.isC fa za (by intro q hq; repeat (first | exact List.mem_append_left _ hq | apply List.mem_cons_of_mem)))).mono ?_); rintro e wv ⟨rfl, hb9⟩; replace hO := hO.call hb9; clear hb9); (try simp only []); (refine hK _ _ ?_); clear hK K))); (try simp only [Act.put]); (try simp only [List.setIfInBounds_toArray, List.set_cons_zero, List.set_cons_succ])
          refine wpList_done (qk_intro ?_)
        refine wpAny_all (rs := [11]) (by kernel_rfl) (by simp) (ord_cons ?_ ord_nil)
        rotate_left 1
        refine wpAny_tk (Ix.mk [12]) ?_
        (first | go_big_quiet_skip | (go_big_quiet_want; (go_big_quiet_op; (first | go_big_quiet_on | ((refine ⟨_, fun _ _ => rfl, ?_⟩); go_big_quiet_on))))); (refine wpQuiet_nil ?_); (try simp only [Act.put]); (try simp only [List.setIfInBounds_toArray, List.set_cons_zero, List.set_cons_succ])
        refine wpAny_all (rs := [6]) (by kernel_rfl) (by simp) (ord_cons ?_ ord_nil)
        rotate_left 1
        refine wpAny_tk (Ix.mk [5]) ?_
        (first | go_big_quiet_skip | (go_big_quiet_want; (go_big_quiet_op; (first | go_big_quiet_on | ((refine ⟨_, fun _ _ => rfl, ?_⟩); go_big_quiet_on))))); (refine wpQuiet_nil ?_); (try simp only [Act.put]); (try simp only [List.setIfInBounds_toArray, List.set_cons_zero, List.set_cons_succ])
        refine wpAny_all (rs := [6]) (by kernel_rfl) (by simp) (ord_cons ?_ ord_nil)
        rotate_left 1
        all_goals
          refine wpOp_of_listL rfl ?_
          (first | ((with_reducible refine is_load ?_); refine own_ld (h := ?_)) | ((refine wpList_step (fun K hK => ?_)); go_simp; ((go_at_call 28; (with_reducible refine (cA _ (hO.isC fa za (by intro q hq; repeat (first | exact List.mem_append_left _ hq | apply List.mem_cons_of_mem)))).mono ?_); rintro e wv ⟨rfl, hb9⟩; replace hO := hO.call hb9; clear hb9); (try simp only []); (refine hK _ _ ?_); clear hK K))); (try simp only [Act.put]); (try simp only [List.setIfInBounds_toArray, List.set_cons_zero, List.set_cons_succ])
          refine wpList_done (qk_intro ?_)
        refine wpAny_tk (Ix.mk [12]) ?_
        (first | go_big_quiet_skip | (go_big_quiet_want; (go_big_quiet_op; (first | go_big_quiet_on | ((refine ⟨_, fun _ _ => rfl, ?_⟩); go_big_quiet_on))))); (refine wpQuiet_nil ?_); (try simp only [Act.put]); (try simp only [List.setIfInBounds_toArray, List.set_cons_zero, List.set_cons_succ])
        refine wpAny_all (rs := [13]) (by kernel_rfl) (by simp) (ord_cons ?_ ord_nil)
        rotate_left 1
        refine wpAny_all (rs := [13]) (by kernel_rfl) (by simp) (ord_cons ?_ ord_nil)
        rotate_left 1
        refine wpAny_all (rs := [13]) (by kernel_rfl) (by simp) (ord_cons ?_ ord_nil)
        rotate_left 1
        all_goals
          refine wpOp_of_listL rfl ?_
          ((refine wpList_step (fun K hK => ?_)); go_simp; ((go_at_call 28; (with_reducible refine (cB _ (hO.isC fb zb (by intro q hq; repeat (first | exact hq | apply List.mem_append_right | apply List.mem_cons_of_mem)))).mono ?_); rintro e wv ⟨rfl, hb9⟩; replace hO := hO.call hb9; clear hb9); (try simp only []); (refine hK _ _ ?_); clear hK K))
          refine wpList_done (qk_intro ?_)
        refine wpAny_all (rs := [14]) (by kernel_rfl) (by simp) (ord_cons ?_ ord_nil)
        rotate_left 1
        refine wpAny_all (rs := [14]) (by kernel_rfl) (by simp) (ord_cons ?_ ord_nil)
        rotate_left 1
        refine wpAny_all (rs := [14]) (by kernel_rfl) (by simp) (ord_cons ?_ ord_nil)
        rotate_left 1
        all_goals
          refine wpOp_of_listL rfl ?_
          ((refine wpList_step (fun K hK => ?_)); go_simp; ((refine hK _ _ ?_); clear hK K))
          refine wpList_done (qk_intro ?_)
        refine wpAny_all (rs := [15]) (by kernel_rfl) (by simp) (ord_cons ?_ ord_nil)
        rotate_left 1
        refine wpAny_all (rs := [15]) (by kernel_rfl) (by simp) (ord_cons ?_ ord_nil)
        rotate_left 1
        refine wpAny_all (rs := [15]) (by kernel_rfl) (by simp) (ord_cons ?_ ord_nil)
        rotate_left 1
        all_goals
          refine wpOp_of_listL rfl ?_
          ((refine wpList_step (fun K hK => ?_)); go_simp; ((refine hK _ _ ?_); clear hK K))
          refine wpList_done (qk_intro ?_)
        refine wpAny_done (by kernel_rfl) ?_ _
        rotate_left
        refine wpAny_done (by kernel_rfl) ?_ _
        rotate_left
        refine wpAny_done (by kernel_rfl) ?_ _
        rotate_left
        all_goals
          cases hx : (xa || xb)
          · have HE := Lib.hid (hKn hx)
            cases xa
            · cases xb
              · clear hx hKy hKn
                go_wp2_with fail
                go_roundw
                case rel => exact ⟨i + 1, m, by omega, by go_num, by omega, hmb, HE, hO⟩
                case measure => simp [intOf]; omega
              · cases hx
            · cases hx
          · have HT := hKy hx
            cases xa
            · cases xb
              · cases hx
              · clear hx hKy hKn
                obtain ⟨a4, c4, rfl, ha4⟩ := own_view hO List.mem_cons_self
                rcases snoc_cases m with rfl | ⟨A, q, rfl⟩
                · rw [addK_nil] at HT
                  have HE := Lib.hid HT
                  clear HT
                  have g5 : decide ((0 : Int) < (([] : List Rg).length : Nat)) = false := rfl
                  go_wp2_with fail
                  (refine own_quiet hO (by kernel_rfl) (by kernel_rfl) ?_; clear hO; (repeat (first | go_big_quiet_skip | (go_big_quiet_want; (go_big_quiet_op; (first | go_big_quiet_on | ((refine ⟨_, fun _ _ => rfl, ?_⟩); go_big_quiet_on)))))); (refine wpQuiet_nil ?_); intro wv hO)
                  go_wp2_with (first | ((with_reducible refine is_load ?_); refine own_ld (h := ?_)) | ((with_reducible refine is_build ?_); (refine' own_build1 (o := ⟨some 120, _, _, _, _, _⟩) hO (by rfl) rfl rfl ?hu ?hf ?_; (case hu => (exact und_Ranges)); (case hf => kernel_rfl); clear hO; intro n120 wv hO)) | ((with_reducible refine is_append ?_); (refine own_ap (o := ⟨some 121, _, _, _, _, _⟩) (hO := hO) (h := ?_); clear hO; intro g121 c121 wv hO)))
                  go_roundw
                  case rel =>
                    refine ⟨i + 1, [⟨x, 4294967295⟩], by omega, by go_num, by simp, ?_, HE, ?_⟩
                    · intro r hr; rw [List.mem_singleton.1 hr]; exact ⟨hE0, hE1⟩
                    · exact hO.sub (.cons _ (.refl _)) (.refl _) (fun _ h => h)
                  case measure => simp [intOf]; omega
                · have hk : (A ++ [q]).length = A.length + 1 := by simp
                  rw [hk] at ha4
                  obtain ⟨gq, rfl⟩ := ha4 (by omega)
                  obtain ⟨q1, q2⟩ := hmb q (by simp)
                  obtain ⟨-, u3⟩ := rcs_at (l := A ++ [q]) (i := A.length) (by simp)
                  rw [List.getElem_concat_length rfl] at u3
                  rw [hk] at hO hmi ⊢
                  have g5 : decide ((0 : Int) < ((A.length + 1 : Nat) : Int)) = true := by simp
                  have s6 : IntKind.i64.wrap (((A.length + 1 : Nat) : Int) - 1) = (A.length : Int) := by rw [IntWalk.i64_in _ (by omega)]; omega
                  have s7 : IntKind.u64.wrap q.hi = q.hi := by rw [IntKind.wrap_u64]; omega
                  have s8 : IntKind.u64.wrap (q.hi + 1) = q.hi + 1 := by rw [IntKind.wrap_u64]; omega
                  by_cases hj : q.hi + 1 = x
                  · have g6 : (q.hi + 1 == x) = true := by simp [hj]
                    rw [addK_join hj] at HT
                    have HE := Lib.hid HT
                    clear HT hj
                    go_wp2_with fail
                    (refine own_quiet hO (by kernel_rfl) (by kernel_rfl) ?_; clear hO; (repeat (go_big_quiet_want; (first | ((with_reducible refine is_loadQ ?_); (refine q_ld (h := ?_)); (try simp only [Act.put]); (try simp only [List.setIfInBounds_toArray, List.set_cons_zero, List.set_cons_succ]); go_big_quiet_on) | (go_big_quiet_op; (first | go_big_quiet_on | ((refine ⟨_, fun _ _ => rfl, ?_⟩); go_big_quiet_on)))))); (refine wpQuiet_nil ?_); intro wv hO)
                    go_wp2_with ((with_reducible refine is_store ?_); (refine own_stW (hO := hO) (hn := rfl) (hl := by rw [rcs_length]; simp; omega) (h := ?_); clear hO; intro wv hO))
                    rw [rcs_set] at hO
                    go_roundw
                    case rel =>
                      refine ⟨i + 1, A ++ [⟨q.lo, 4294967295⟩], by omega, by go_num, by simp; omega, ?_, HE, ?_⟩
                      · intro r hr
                        rcases List.mem_append.1 hr with hr | hr
                        · exact hmb r (List.mem_append_left _ hr)
                        · rw [List.mem_singleton.1 hr]; exact ⟨hE0, hE1⟩
                      · rw [List.length_append]
                        exact hO
                    case measure => simp [intOf]; omega
                  · have g6 : (q.hi + 1 == x) = false := by simp [hj]
                    rw [addK_apart hj] at HT
                    have HE := Lib.hid HT
                    clear HT hj
                    go_wp2_with fail
                    (refine own_quiet hO (by kernel_rfl) (by kernel_rfl) ?_; clear hO; (repeat (go_big_quiet_want; (first | ((with_reducible refine is_loadQ ?_); (refine q_ld (h := ?_)); (try simp only [Act.put]); (try simp only [List.setIfInBounds_toArray, List.set_cons_zero, List.set_cons_succ]); go_big_quiet_on) | (go_big_quiet_op; (first | go_big_quiet_on | ((refine ⟨_, fun _ _ => rfl, ?_⟩); go_big_quiet_on)))))); (refine wpQuiet_nil ?_); intro wv hO)
                    go_wp2_with (first | ((with_reducible refine is_load ?_); refine own_ld (h := ?_)) | ((with_reducible refine is_build ?_); (refine' own_build1 (o := ⟨some 120, _, _, _, _, _⟩) hO (by rfl) rfl rfl ?hu ?hf ?_; (case hu => (exact und_Ranges)); (case hf => kernel_rfl); clear hO; intro n120 wv hO)) | ((with_reducible refine is_append ?_); (refine own_ap (o := ⟨some 121, _, _, _, _, _⟩) (hO := hO) (h := ?_); clear hO; intro g121 c121 wv hO)))
                    go_roundw
                    case rel =>
                      refine ⟨i + 1, A ++ [q] ++ [⟨x, 4294967295⟩], by omega, by go_num, by simp; omega, ?_, HE, ?_⟩
                      · intro r hr
                        rcases List.mem_append.1 hr with hr | hr
                        · exact hmb r hr
                        · rw [List.mem_singleton.1 hr]; exact ⟨hE0, hE1⟩
                      · rw [rcs_append, rcs_one, List.length_append, hk]
                        exact hO.sub (.cons _ (.refl _)) (.refl _) (fun _ h => h)
                    case measure => simp [intOf]; omega
            · clear hx hKy hKn
              obtain ⟨a4, c4, rfl, ha4⟩ := own_view hO List.mem_cons_self
              rcases snoc_cases m with rfl | ⟨A, q, rfl⟩
              · rw [addK_nil] at HT
                have HE := Lib.hid HT
                clear HT
                have g5 : decide ((0 : Int) < (([] : List Rg).length : Nat)) = false := rfl
                go_wp2_with fail
                (refine own_quiet hO (by kernel_rfl) (by kernel_rfl) ?_; clear hO; (repeat (first | go_big_quiet_skip | (go_big_quiet_want; (go_big_quiet_op; (first | go_big_quiet_on | ((refine ⟨_, fun _ _ => rfl, ?_⟩); go_big_quiet_on)))))); (refine wpQuiet_nil ?_); intro wv hO)
                go_wp2_with (first | ((with_reducible refine is_load ?_); refine own_ld (h := ?_)) | ((with_reducible refine is_build ?_); (refine' own_build1 (o := ⟨some 120, _, _, _, _, _⟩) hO (by rfl) rfl rfl ?hu ?hf ?_; (case hu => (exact und_Ranges)); (case hf => kernel_rfl); clear hO; intro n120 wv hO)) | ((with_reducible refine is_append ?_); (refine own_ap (o := ⟨some 121, _, _, _, _, _⟩) (hO := hO) (h := ?_); clear hO; intro g121 c121 wv hO)))
                go_roundw
                case rel =>
                  refine ⟨i + 1, [⟨x, 4294967295⟩], by omega, by go_num, by simp, ?_, HE, ?_⟩
                  · intro r hr; rw [List.mem_singleton.1 hr]; exact ⟨hE0, hE1⟩
                  · exact hO.sub (.cons _ (.refl _)) (.refl _) (fun _ h => h)
                case measure => simp [intOf]; omega
              · have hk : (A ++ [q]).length = A.length + 1 := by simp
                rw [hk] at ha4
                obtain ⟨gq, rfl⟩ := ha4 (by omega)
                obtain ⟨q1, q2⟩ := hmb q (by simp)
                obtain ⟨-, u3⟩ := rcs_at (l := A ++ [q]) (i := A.length) (by simp)
                rw [List.getElem_concat_length rfl] at u3
                rw [hk] at hO hmi ⊢
                have g5 : decide ((0 : Int) < ((A.length + 1 : Nat) : Int)) = true := by simp
                have s6 : IntKind.i64.wrap (((A.length + 1 : Nat) : Int) - 1) = (A.length : Int) := by rw [IntWalk.i64_in _ (by omega)]; omega
                have s7 : IntKind.u64.wrap q.hi = q.hi := by rw [IntKind.wrap_u64]; omega
                have s8 : IntKind.u64.wrap (q.hi + 1) = q.hi + 1 := by rw [IntKind.wrap_u64]; omega
                by_cases hj : q.hi + 1 = x
                · have g6 : (q.hi + 1 == x) = true := by simp [hj]
                  rw [addK_join hj] at HT
                  have HE := Lib.hid HT
                  clear HT hj
                  go_wp2_with fail
                  (refine own_quiet hO (by kernel_rfl) (by kernel_rfl) ?_; clear hO; (repeat (go_big_quiet_want; (first | ((with_reducible refine is_loadQ ?_); (refine q_ld (h := ?_)); (try simp only [Act.put]); (try simp only [List.setIfInBounds_toArray, List.set_cons_zero, List.set_cons_succ]); go_big_quiet_on) | (go_big_quiet_op; (first | go_big_quiet_on | ((refine ⟨_, fun _ _ => rfl, ?_⟩); go_big_quiet_on)))))); (refine wpQuiet_nil ?_); intro wv hO)
                  go_wp2_with ((with_reducible refine is_store ?_); (refine own_stW (hO := hO) (hn := rfl) (hl := by rw [rcs_length]; simp; omega) (h := ?_); clear hO; intro wv hO))
                  rw [rcs_set] at hO
                  go_roundw
                  case rel =>
                    refine ⟨i + 1, A ++ [⟨q.lo, 4294967295⟩], by omega, by go_num, by simp; omega, ?_, HE, ?_⟩
                    · intro r hr
                      rcases List.mem_append.1 hr with hr | hr
                      · exact hmb r (List.mem_append_left _ hr)
                      · rw [List.mem_singleton.1 hr]; exact ⟨hE0, hE1⟩
                    · rw [List.length_append]
                      exact hO
                  case measure => simp [intOf]; omega
                · have g6 : (q.hi + 1 == x) = false := by simp [hj]
                  rw [addK_apart hj] at HT
                  have HE := Lib.hid HT
                  clear HT hj
                  go_wp2_with fail
                  (refine own_quiet hO (by kernel_rfl) (by kernel_rfl) ?_; clear hO; (repeat (go_big_quiet_want; (first | ((with_reducible refine is_loadQ ?_); (refine q_ld (h := ?_)); (try simp only [Act.put]); (try simp only [List.setIfInBounds_toArray, List.set_cons_zero, List.set_cons_succ]); go_big_quiet_on) | (go_big_quiet_op; (first | go_big_quiet_on | ((refine ⟨_, fun _ _ => rfl, ?_⟩); go_big_quiet_on)))))); (refine wpQuiet_nil ?_); intro wv hO)
                  go_wp2_with (first | ((with_reducible refine is_load ?_); refine own_ld (h := ?_)) | ((with_reducible refine is_build ?_); (refine' own_build1 (o := ⟨some 120, _, _, _, _, _⟩) hO (by rfl) rfl rfl ?hu ?hf ?_; (case hu => (exact und_Ranges)); (case hf => kernel_rfl); clear hO; intro n120 wv hO)) | ((with_reducible refine is_append ?_); (refine own_ap (o := ⟨some 121, _, _, _, _, _⟩) (hO := hO) (h := ?_); clear hO; intro g121 c121 wv hO)))
                  go_roundw
                  case rel =>
                    refine ⟨i + 1, A ++ [q] ++ [⟨x, 4294967295⟩], by omega, by go_num, by simp; omega, ?_, HE, ?_⟩
                    · intro r hr
                      rcases List.mem_append.1 hr with hr | hr
                      · exact hmb r hr
                      · rw [List.mem_singleton.1 hr]; exact ⟨hE0, hE1⟩
                    · rw [rcs_append, rcs_one, List.length_append, hk]
                      exact hO.sub (.cons _ (.refl _)) (.refl _) (fun _ h => h)
                  case measure => simp [intOf]; omega
    · obtain rfl : i = S.length := by omega
      go_wp2_with fail
      go_ret
      have hE := HM.out
      rw [hE]
      exact ⟨_, rfl, ⟨own_rgs hO List.mem_cons_self, own_new hO List.mem_cons_self⟩, hO.keep.below⟩
theorem runion_any {va vb : Value} {la lb : List Rg} (w : World) (hva : IsCells w va la.length (rcs la)) (hvb : IsCells w vb lb.length (rcs lb)) (na : la.length ≤ 10000000000) (nb : lb.length ≤ 10000000000)
    (ba : ∀ r ∈ la, 0 ≤ r.lo ∧ r.lo ≤ 4294967295 ∧ 0 ≤ r.hi ∧ r.hi ≤ 4294967295) (bb : ∀ r ∈ lb, 0 ≤ r.lo ∧ r.lo ≤ 4294967295 ∧ 0 ≤ r.hi ∧ r.hi ≤ 4294967295) :
    Calls Tryz.prog 38 #[va, vb] w (RetRgs w (canU (la ++ lb))) := by
  have hO := own_start [] w
  have h1 := fun w hva hvb => rkeep_any (va := va) (vb := vb) (la := la) (lb := lb) w hva hvb na nb ba bb
  obtain ⟨a1, c1, rfl, -⟩ := formC_view (isCells_form hva)
  obtain ⟨a2, c2, rfl, -⟩ := formC_view (isCells_form hvb)
  generalize canU (la ++ lb) = C at *
  clear ba bb
  go_enter Tryz.func38, Tryz.ntmps38
  go_wp2_with (go_at_call 43; (with_reducible refine (h1 _ (hva.below hO.keep.below) (hvb.below hO.keep.below)).mono ?_); rintro e wv ⟨v3, rfl, ⟨hv8, hn8⟩, hb9⟩; have hs9 := hO.keep.size; replace hO := hO.call hb9; clear hb9)
  go_ret
  exact ⟨_, rfl, ⟨hv8, fun g hg => Nat.le_trans hs9 (hn8 g hg)⟩, hO.keep.below⟩
end Go.Proofs.YtfhkmkbfgmbbaaaGreatDoor
