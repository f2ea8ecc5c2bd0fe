/- The reference's parts of words. -/
import Derived.Test.YtfhkmkbfgmbbaaaGreatDoorMI
namespace Go.Proofs.YtfhkmkbfgmbbaaaGreatDoor
open Go.RowKit
set_option maxRecDepth 100000
/-- a piece that is begun, ahead of the parts of the rest -/
def glue (cur : Bs) : List Bs → List Bs
  | [] => [cur]
  | p :: ps => (cur ++ p) :: ps
theorem glue_nil {l : List Bs} (h : l ≠ []) : glue [] l = l := by
  cases l with
  | nil => exact absurd rfl h
  | cons p ps => rfl
theorem glue_hit (cur rest : Bs) (c : UInt8) : glue cur (partsB (c :: rest) c) = cur :: glue [] (partsB rest c) := by
  rw [glue_nil (partsB_ne rest c), partsB, if_pos rfl, glue, List.append_nil]
theorem glue_miss {b c : UInt8} (cur rest : Bs) (h : b ≠ c) : glue cur (partsB (b :: rest) c) = glue (cur ++ [b]) (partsB rest c) := by
  rw [partsB, if_neg h]
  cases partsB rest c with
  | nil => rfl
  | cons p ps => simp [glue]
theorem glue_end (cur : Bs) (c : UInt8) : glue cur (partsB [] c) = [cur] := by simp [glue, partsB]
theorem cur_next {x : Bs} {f i : Nat} (hf : f ≤ i) (hi : i < x.length) : (x.take (i + 1)).drop f = (x.take i).drop f ++ [x[i]] := by
  rw [List.take_succ_eq_append_getElem hi, List.drop_append_of_le_length (by simp; omega)]
theorem cur_new (x : Bs) (i : Nat) : (x.take i).drop i = [] := List.drop_of_length_le (by simp; omega)
theorem byte_eq {c d : UInt8} : ((c.toNat : Int) == (d.toNat : Int)) = decide (c = d) := by
  have h := @byte_ne c d
  rw [bne, Bool.not_eq_eq_eq_not, Bool.not_not] at h
  exact h
set_option maxHeartbeats 8000000 in
theorem parts_any (x : Bs) (w : World) (hx : x.length ≤ 1000000000) :
    Calls Tryz.prog 55 #[.string ⟨x.toArray⟩, .int .u8 45] w (RetTexts w (partsB x 45)) := by
  have hO := own_start [] w
  replace hO := hO.nilRow 9 1
  go_enter Tryz.func55, Tryz.ntmps55
  go_wp2_with fail
  go_loopw [5, 6, 7] (fun r fv q wr => ∃ (i f : Nat) (m : List Bs), i ≤ x.length + 1 ∧ q = .int .i64 i ∧ fv = .int .i64 f ∧ f ≤ i ∧ m.length ≤ i ∧ Hid (i ≤ x.length → m ++ glue ((x.take i).drop f) (partsB (x.drop i) 45) = partsB x 45) ∧ Hid (i = x.length + 1 → m = partsB x 45) ∧ Own [] w [] [⟨r, m.length, scs m, 9, 1⟩] [] wr) (fun _ _ q _ => x.length + 1 - (intOf q).toNat)
  case atStart => exact ⟨0, 0, [], by omega, rfl, rfl, by omega, by simp, Lib.hid fun _ => by simp [glue_nil (partsB_ne x 45)], Lib.hid fun h => absurd h (by omega), hO⟩
  case round =>
    clear hO
    obtain ⟨i, f, m, hi, rfl, rfl, hf, hm, H1, H2, hO⟩ := hrel
    have s4 : IntKind.i64.wrap ((i : Int) + 1) = (i : Int) + 1 := IntWalk.i64_in _ (by omega)
    by_cases hle : i ≤ x.length
    · have g1 : decide ((i : Int) ≤ (x.length : Int)) = true := decide_eq_true (by omega)
      by_cases hlt : i < x.length
      · have g2 : ((i : Int) == (x.length : Int)) = false := beq_eq_false_iff_ne.2 (by omega)
        have e0 : (⟨x.toArray⟩ : ByteArray)[i]'hlt = x[i] := rfl
        have hd := List.drop_eq_getElem_cons hlt
        have H3 := H1.out hle
        rw [hd] at H3
        have hcn := cur_next hf hlt
        have e1 : (⟨x.toArray⟩ : ByteArray).extract f i = ⟨((x.take i).drop f).toArray⟩ := ext_B x f i
        generalize x[i] = b at *
        clear H1 H2 hd
        have c1 : (f : Int) ≤ (i : Int) := by omega
        have c2 : (i : Int) ≤ (x.length : Int) := by omega
        have c3 : (0 : Int) ≤ (f : Int) := by omega
        have c4 : (0 : Int) ≤ (i : Int) := by omega
        have c5 : (i : Int) < (x.length : Int) := by omega
        have g3 : ((b.toNat : Int) == 45) = decide (b = 45) := byte_eq (d := 45)
        by_cases h45 : b = 45
        · rw [h45, glue_hit] at H3
          rw [decide_eq_true h45] at g3
          have H4 := Lib.hid H3
          clear H3 hcn h45
          obtain ⟨cur, hcur⟩ : ∃ cur, (x.take i).drop f = cur := ⟨_, rfl⟩
          rw [hcur] at H4 e1
          clear hcur
          go_wp2_with (first | ((with_reducible refine is_append ?_); (refine own_apV (o := ⟨some 31, _, _, _, _, _⟩) (hO := hO) (h := ?_); clear hO; intro g31 c31 wv hO)) | ((with_reducible refine is_build ?_); (refine' own_buildP (o := ⟨some 30, _, _, _, _, _⟩) [.string ⟨cur.toArray⟩] hO (by rfl) rfl slice_strings rfl rfl (by rfl) (by decide) (by decide) ?_); clear hO; intro n30 wv hO))
          replace hO := hO.sub (X' := []) (List.nil_sublist _) (.refl _) (fun _ h => h)
          rw [show scs m ++ [.string ⟨cur.toArray⟩] = scs (m ++ [cur]) from (scs_app m [cur]).symm] at hO
          go_roundw
          case rel => exact ⟨i + 1, i + 1, m ++ [cur], by omega, by go_num, by go_num, Nat.le_refl _, by simp; omega, Lib.hid fun _ => by rw [cur_new, List.append_assoc]; exact H4.out, Lib.hid fun h => absurd h (by omega), by simpa using hO⟩
          case measure => simp [intOf]; omega
        · rw [glue_miss _ _ h45, ← hcn] at H3
          rw [decide_eq_false h45] at g3
          have H4 := Lib.hid H3
          clear H3 hcn h45
          go_wp2_with fail
          go_roundw
          case rel => exact ⟨i + 1, f, m, by omega, by go_num, rfl, by omega, by omega, Lib.hid fun _ => H4.out, Lib.hid fun h => absurd h (by omega), hO⟩
          case measure => simp [intOf]; omega
      · have hE : i = x.length := by omega
        have g2 : ((i : Int) == (x.length : Int)) = true := beq_iff_eq.2 (by omega)
        have H3 := H1.out hle
        rw [hE, List.drop_of_length_le (Nat.le_refl _), glue_end] at H3
        rw [← hE] at H3
        have e1 : (⟨x.toArray⟩ : ByteArray).extract f i = ⟨((x.take i).drop f).toArray⟩ := ext_B x f i
        have c1 : (f : Int) ≤ (i : Int) := by omega
        have c2 : (i : Int) ≤ (x.length : Int) := by omega
        have c3 : (0 : Int) ≤ (f : Int) := by omega
        have c4 : (0 : Int) ≤ (i : Int) := by omega
        have H4 := Lib.hid H3
        have H5 := Lib.hid hE
        clear H3 H1 H2 hE
        obtain ⟨cur, hcur⟩ : ∃ cur, (x.take i).drop f = cur := ⟨_, rfl⟩
        rw [hcur] at H4 e1
        clear hcur
        go_wp2_with (first | ((with_reducible refine is_append ?_); (refine own_apV (o := ⟨some 31, _, _, _, _, _⟩) (hO := hO) (h := ?_); clear hO; intro g31 c31 wv hO)) | ((with_reducible refine is_build ?_); (refine' own_buildP (o := ⟨some 30, _, _, _, _, _⟩) [.string ⟨cur.toArray⟩] hO (by rfl) rfl slice_strings rfl rfl (by rfl) (by decide) (by decide) ?_); clear hO; intro n30 wv hO))
        replace hO := hO.sub (X' := []) (List.nil_sublist _) (.refl _) (fun _ h => h)
        rw [show scs m ++ [.string ⟨cur.toArray⟩] = scs (m ++ [cur]) from (scs_app m [cur]).symm] at hO
        go_roundw
        case rel => exact ⟨i + 1, i + 1, m ++ [cur], by omega, by go_num, by go_num, Nat.le_refl _, by simp; omega, Lib.hid fun h => absurd h (by have := H5.out; omega), Lib.hid fun _ => H4.out, by simpa using hO⟩
        case measure => simp [intOf]; omega
    · have H3 := H2.out (by omega)
      have g1 : decide ((i : Int) ≤ (x.length : Int)) = false := decide_eq_false (by omega)
      subst H3
      clear H1 H2
      go_wp2_with fail
      go_ret
      exact ⟨_, rfl, ⟨hO.rowIs List.mem_cons_self, own_new hO List.mem_cons_self⟩, hO.keep.below⟩
end Go.Proofs.YtfhkmkbfgmbbaaaGreatDoor

/- The reference's days and times of an item. -/
namespace Go.Proofs.YtfhkmkbfgmbbaaaGreatDoor
open Go.RowKit
set_option maxRecDepth 100000
/-- what span and times hand back: two numbers, or -1 -/
def prO (o : Option (Int × Int)) : Int × Int := o.getD (-1, -1)
def RetPr (w : World) (o : Option (Int × Int)) (e : Ending) (w' : World) : Prop := e = .returned (.tuple #[.int .i64 (prO o).1, .int .i64 (prO o).2]) ∧ Below w.heap.size w w'
set_option maxHeartbeats 8000000 in
theorem span_any (x : Bs) (w : World) (hx : x.length ≤ 1000000000) :
    Calls Tryz.prog 36 #[.string ⟨x.toArray⟩] w (RetPr w (spanR x)) := by
  have hO := own_start [] w
  have hS : spanR x = match partsB x 45 with
    | [p] => if 0 ≤ dayI p then some (dayI p, dayI p) else none
    | [p, q] => if 0 ≤ dayI p ∧ dayI p ≤ dayI q then some (dayI p, dayI q) else none
    | _ => none := rfl
  have hp := fun w => parts_any x w hx
  have hne := partsB_ne x 45
  rw [hS]
  clear hS
  generalize partsB x 45 = ws at *
  cases ws with
  | nil => exact absurd rfl hne
  | cons p t =>
    have hd1 := fun w => rday_any p w
    cases t with
    | nil =>
      dsimp only
      have hP : ∀ w, Calls Tryz.prog 55 #[.string ⟨x.toArray⟩, .int .u8 45] w fun e w' => ∃ v, e = .returned v ∧ (IsCells w' v 1 [.string ⟨p.toArray⟩] ∧ NewFrom w v) ∧ Below w.heap.size w w' := fun w => hp w
      clear hp hne
      generalize dayI p = a at *
      obtain ⟨V, HV⟩ : ∃ V, Hid ((if 0 ≤ a then some (a, a) else none) = V) := ⟨_, Lib.hid rfl⟩
      rw [HV.out]
      have g2 : decide (a < a) = false := decide_eq_false (by omega)
      go_enter Tryz.func36, Tryz.ntmps36
      go_wp2_with (go_at_call 55; (with_reducible refine (hP _).mono ?_); rintro e wv ⟨v9, rfl, ⟨hv9, hn9⟩, hb9⟩; have hf9 := isCells_form hv9; replace hO := hO.gainC hb9 hv9 hn9; clear hb9 hv9 hn9 hP; obtain ⟨a9, c9, rfl, ha9⟩ := hf9.view; obtain ⟨g9, o9, rfl⟩ := ha9 (by omega); clear hf9 ha9; simp only [roS, List.cons_append, List.nil_append] at hO)
      refine wp_region_any (by kernel_rfl) ?_
      replace hO := hO.drew
      have ix9 := Ix.mk [0, 1, 4, 5, 6, 7, 8]
      iterate 7 (refine wpAny_tk ix9 ?_; replace ix9 := ix9.tail; (first | go_big_quiet_skip | (go_big_quiet_want; (go_big_quiet_op; (first | go_big_quiet_on | ((refine ⟨_, fun _ _ => rfl, ?_⟩); go_big_quiet_on))))); (refine wpQuiet_nil ?_); (try simp only [Act.put]); (try simp only [List.setIfInBounds_toArray, List.set_cons_zero, List.set_cons_succ]))
      clear ix9
      refine wpAny_all (rs := [2, 9]) (by kernel_rfl) (by simp) (ord_cons ?_ (ord_cons ?_ ord_nil))
      rotate_left 2
      all_goals
        refine wpOp_of_listL rfl ?_
        ((with_reducible refine is_load ?_); (refine own_ldV (h := ?_))); (try simp only [Act.put]); (try simp only [List.setIfInBounds_toArray, List.set_cons_zero, List.set_cons_succ])
        refine wpList_done (qk_intro ?_)
      refine wpAny_all (rs := [3, 9]) (by kernel_rfl) (by simp) (ord_cons ?_ (ord_cons ?_ ord_nil))
      rotate_left 2
      refine wpAny_all (rs := [2]) (by kernel_rfl) (by simp) (ord_cons ?_ ord_nil)
      rotate_left 1
      all_goals
        refine wpOp_of_listL rfl ?_
        (first | ((with_reducible refine is_load ?_); (refine own_ldV (h := ?_))) | ((refine wpList_step (fun K hK => ?_)); go_simp; ((go_at_call 56; (with_reducible refine (hd1 _).mono ?_); rintro e wv ⟨rfl, hb⟩; replace hO := hO.call hb; clear hb); (try simp only []); (refine hK _ _ ?_); clear hK K))); (try simp only [Act.put]); (try simp only [List.setIfInBounds_toArray, List.set_cons_zero, List.set_cons_succ])
        refine wpList_done (qk_intro ?_)
      refine wpAny_all (rs := [9]) (by kernel_rfl) (by simp) (ord_cons ?_ ord_nil)
      rotate_left 1
      refine wpAny_all (rs := [3]) (by kernel_rfl) (by simp) (ord_cons ?_ ord_nil)
      rotate_left 1
      refine wpAny_all (rs := [3]) (by kernel_rfl) (by simp) (ord_cons ?_ ord_nil)
      rotate_left 1
      all_goals
        refine wpOp_of_listL rfl ?_
        (first | ((with_reducible refine is_load ?_); (refine own_ldV (h := ?_))) | ((refine wpList_step (fun K hK => ?_)); go_simp; ((go_at_call 56; (with_reducible refine (hd1 _).mono ?_); rintro e wv ⟨rfl, hb⟩; replace hO := hO.call hb; clear hb); (try simp only []); (refine hK _ _ ?_); clear hK K))); (try simp only [Act.put]); (try simp only [List.setIfInBounds_toArray, List.set_cons_zero, List.set_cons_succ])
        refine wpList_done (qk_intro ?_)
      refine wpAny_all (rs := [10]) (by kernel_rfl) (by simp) (ord_cons ?_ ord_nil)
      rotate_left 1
      refine wpAny_all (rs := [10]) (by kernel_rfl) (by simp) (ord_cons ?_ ord_nil)
      rotate_left 1
      refine wpAny_all (rs := [10]) (by kernel_rfl) (by simp) (ord_cons ?_ ord_nil)
      rotate_left 1
      all_goals
        refine wpOp_of_listL rfl ?_
        ((refine wpList_step (fun K hK => ?_)); go_simp; ((go_at_call 56; (with_reducible refine (hd1 _).mono ?_); rintro e wv ⟨rfl, hb⟩; replace hO := hO.call hb; clear hb); (try simp only []); (refine hK _ _ ?_); clear hK K))
        refine wpList_done (qk_intro ?_)
      refine wpAny_all (rs := [11]) (by kernel_rfl) (by simp) (ord_cons ?_ ord_nil)
      rotate_left 1
      refine wpAny_all (rs := [11]) (by kernel_rfl) (by simp) (ord_cons ?_ ord_nil)
      rotate_left 1
      refine wpAny_all (rs := [11]) (by kernel_rfl) (by simp) (ord_cons ?_ ord_nil)
      rotate_left 1
      all_goals
        refine wpOp_of_listL rfl ?_
        ((refine wpList_step (fun K hK => ?_)); go_simp; ((refine hK _ _ ?_); clear hK K))
        refine wpList_done (qk_intro ?_)
      refine wpAny_all (rs := [12]) (by kernel_rfl) (by simp) (ord_cons ?_ ord_nil)
      rotate_left 1
      refine wpAny_all (rs := [12]) (by kernel_rfl) (by simp) (ord_cons ?_ ord_nil)
      rotate_left 1
      refine wpAny_all (rs := [12]) (by kernel_rfl) (by simp) (ord_cons ?_ ord_nil)
      rotate_left 1
      all_goals
        refine wpOp_of_listL rfl ?_
        ((refine wpList_step (fun K hK => ?_)); go_simp; ((refine hK _ _ ?_); clear hK K))
        refine wpList_done (qk_intro ?_)
      refine wpAny_done (by kernel_rfl) ?_ _
      rotate_left
      refine wpAny_done (by kernel_rfl) ?_ _
      rotate_left
      refine wpAny_done (by kernel_rfl) ?_ _
      rotate_left
      all_goals
        by_cases h1 : a < 0
        · have g3 : decide (a < 0) = true := decide_eq_true h1
          obtain rfl : V = none := by rw [← HV.out, if_neg (by omega)]
          clear HV
          go_wp2_with fail
          go_ret2
          exact ⟨rfl, hO.keep.below⟩
        · have g3 : decide (a < 0) = false := decide_eq_false h1
          obtain rfl : V = some (a, a) := by rw [← HV.out, if_pos (by omega)]
          clear HV
          go_wp2_with fail
          go_ret2
          exact ⟨rfl, hO.keep.below⟩
    | cons q t =>
      have hd2 := fun w => rday_any q w
      cases t with
      | nil =>
        dsimp only
        have hP : ∀ w, Calls Tryz.prog 55 #[.string ⟨x.toArray⟩, .int .u8 45] w fun e w' => ∃ v, e = .returned v ∧ (IsCells w' v 2 [.string ⟨p.toArray⟩, .string ⟨q.toArray⟩] ∧ NewFrom w v) ∧ Below w.heap.size w w' := fun w => hp w
        clear hp hne
        generalize dayI p = a at *
        generalize dayI q = b at *
        obtain ⟨V, HV⟩ : ∃ V, Hid ((if 0 ≤ a ∧ a ≤ b then some (a, b) else none) = V) := ⟨_, Lib.hid rfl⟩
        rw [HV.out]
        go_enter Tryz.func36, Tryz.ntmps36
        go_wp2_with (go_at_call 55; (with_reducible refine (hP _).mono ?_); rintro e wv ⟨v9, rfl, ⟨hv9, hn9⟩, hb9⟩; have hf9 := isCells_form hv9; replace hO := hO.gainC hb9 hv9 hn9; clear hb9 hv9 hn9 hP; obtain ⟨a9, c9, rfl, ha9⟩ := hf9.view; obtain ⟨g9, o9, rfl⟩ := ha9 (by omega); clear hf9 ha9; simp only [roS, List.cons_append, List.nil_append] at hO)
        refine wp_region_any (by kernel_rfl) ?_
        replace hO := hO.drew
        have ix9 := Ix.mk [0, 1, 4, 5, 6, 7, 8]
        iterate 7 (refine wpAny_tk ix9 ?_; replace ix9 := ix9.tail; (first | go_big_quiet_skip | (go_big_quiet_want; (go_big_quiet_op; (first | go_big_quiet_on | ((refine ⟨_, fun _ _ => rfl, ?_⟩); go_big_quiet_on))))); (refine wpQuiet_nil ?_); (try simp only [Act.put]); (try simp only [List.setIfInBounds_toArray, List.set_cons_zero, List.set_cons_succ]))
        clear ix9
        refine wpAny_all (rs := [2, 9]) (by kernel_rfl) (by simp) (ord_cons ?_ (ord_cons ?_ ord_nil))
        rotate_left 2
        all_goals
          refine wpOp_of_listL rfl ?_
          ((with_reducible refine is_load ?_); (refine own_ldV (h := ?_))); (try simp only [Act.put]); (try simp only [List.setIfInBounds_toArray, List.set_cons_zero, List.set_cons_succ])
          refine wpList_done (qk_intro ?_)
        refine wpAny_all (rs := [3, 9]) (by kernel_rfl) (by simp) (ord_cons ?_ (ord_cons ?_ ord_nil))
        rotate_left 2
        refine wpAny_all (rs := [2]) (by kernel_rfl) (by simp) (ord_cons ?_ ord_nil)
        rotate_left 1
        all_goals
          refine wpOp_of_listL rfl ?_
          (first | ((with_reducible refine is_load ?_); (refine own_ldV (h := ?_))) | ((refine wpList_step (fun K hK => ?_)); go_simp; ((go_at_call 56; (with_reducible refine (hd1 _).mono ?_); rintro e wv ⟨rfl, hb⟩; replace hO := hO.call hb; clear hb); (try simp only []); (refine hK _ _ ?_); clear hK K))); (try simp only [Act.put]); (try simp only [List.setIfInBounds_toArray, List.set_cons_zero, List.set_cons_succ])
          refine wpList_done (qk_intro ?_)
        refine wpAny_all (rs := [9]) (by kernel_rfl) (by simp) (ord_cons ?_ ord_nil)
        rotate_left 1
        refine wpAny_all (rs := [3]) (by kernel_rfl) (by simp) (ord_cons ?_ ord_nil)
        rotate_left 1
        refine wpAny_all (rs := [3]) (by kernel_rfl) (by simp) (ord_cons ?_ ord_nil)
        rotate_left 1
        all_goals
          refine wpOp_of_listL rfl ?_
          (first | ((with_reducible refine is_load ?_); (refine own_ldV (h := ?_))) | ((refine wpList_step (fun K hK => ?_)); go_simp; ((go_at_call 56; (with_reducible refine (hd1 _).mono ?_); rintro e wv ⟨rfl, hb⟩; replace hO := hO.call hb; clear hb); (try simp only []); (refine hK _ _ ?_); clear hK K))); (try simp only [Act.put]); (try simp only [List.setIfInBounds_toArray, List.set_cons_zero, List.set_cons_succ])
          refine wpList_done (qk_intro ?_)
        refine wpAny_all (rs := [10]) (by kernel_rfl) (by simp) (ord_cons ?_ ord_nil)
        rotate_left 1
        refine wpAny_all (rs := [10]) (by kernel_rfl) (by simp) (ord_cons ?_ ord_nil)
        rotate_left 1
        refine wpAny_all (rs := [10]) (by kernel_rfl) (by simp) (ord_cons ?_ ord_nil)
        rotate_left 1
        all_goals
          refine wpOp_of_listL rfl ?_
          ((refine wpList_step (fun K hK => ?_)); go_simp; ((go_at_call 56; (with_reducible refine (hd2 _).mono ?_); rintro e wv ⟨rfl, hb⟩; replace hO := hO.call hb; clear hb); (try simp only []); (refine hK _ _ ?_); clear hK K))
          refine wpList_done (qk_intro ?_)
        refine wpAny_all (rs := [11]) (by kernel_rfl) (by simp) (ord_cons ?_ ord_nil)
        rotate_left 1
        refine wpAny_all (rs := [11]) (by kernel_rfl) (by simp) (ord_cons ?_ ord_nil)
        rotate_left 1
        refine wpAny_all (rs := [11]) (by kernel_rfl) (by simp) (ord_cons ?_ ord_nil)
        rotate_left 1
        all_goals
          refine wpOp_of_listL rfl ?_
          ((refine wpList_step (fun K hK => ?_)); go_simp; ((refine hK _ _ ?_); clear hK K))
          refine wpList_done (qk_intro ?_)
        refine wpAny_all (rs := [12]) (by kernel_rfl) (by simp) (ord_cons ?_ ord_nil)
        rotate_left 1
        refine wpAny_all (rs := [12]) (by kernel_rfl) (by simp) (ord_cons ?_ ord_nil)
        rotate_left 1
        refine wpAny_all (rs := [12]) (by kernel_rfl) (by simp) (ord_cons ?_ ord_nil)
        rotate_left 1
        all_goals
          refine wpOp_of_listL rfl ?_
          ((refine wpList_step (fun K hK => ?_)); go_simp; ((refine hK _ _ ?_); clear hK K))
          refine wpList_done (qk_intro ?_)
        refine wpAny_done (by kernel_rfl) ?_ _
        rotate_left
        refine wpAny_done (by kernel_rfl) ?_ _
        rotate_left
        refine wpAny_done (by kernel_rfl) ?_ _
        rotate_left
        all_goals
          by_cases h1 : a < 0
          · have g3 : decide (a < 0) = true := decide_eq_true h1
            obtain rfl : V = none := by rw [← HV.out, if_neg (by omega)]
            clear HV
            go_wp2_with fail
            go_ret2
            exact ⟨rfl, hO.keep.below⟩
          have g3 : decide (a < 0) = false := decide_eq_false h1
          by_cases h2 : b < a
          · have g4 : decide (b < a) = true := decide_eq_true h2
            obtain rfl : V = none := by rw [← HV.out, if_neg (by omega)]
            clear HV
            go_wp2_with fail
            go_ret2
            exact ⟨rfl, hO.keep.below⟩
          · have g4 : decide (b < a) = false := decide_eq_false h2
            obtain rfl : V = some (a, b) := by rw [← HV.out, if_pos (by omega)]
            clear HV
            go_wp2_with fail
            go_ret2
            exact ⟨rfl, hO.keep.below⟩
      | cons r t =>
        dsimp only
        obtain ⟨n, hn⟩ : ∃ n : Nat, (p :: q :: r :: t).length = n := ⟨_, rfl⟩
        have hP : ∀ w, Calls Tryz.prog 55 #[.string ⟨x.toArray⟩, .int .u8 45] w fun e w' => ∃ v, e = .returned v ∧ (IsCells w' v n (scs (p :: q :: r :: t)) ∧ NewFrom w v) ∧ Below w.heap.size w w' := fun w => by
          have h := hp w
          unfold RetTexts IsTexts at h
          rw [hn] at h
          exact h
        have hn2 : 2 < n := by rw [← hn]; simp
        clear hp hne hn
        generalize p :: q :: r :: t = ws at *
        have g1 : decide ((n : Int) > 2) = true := decide_eq_true (by omega)
        go_enter Tryz.func36, Tryz.ntmps36
        go_wp2_with (go_at_call 55; (with_reducible refine (hP _).mono ?_); rintro e wv ⟨v9, rfl, ⟨hv9, hn9⟩, hb9⟩; have hf9 := isCells_form hv9; replace hO := hO.gainC hb9 hv9 hn9; clear hb9 hv9 hn9 hP; obtain ⟨a9, c9, rfl, ha9⟩ := hf9.view; obtain ⟨g9, o9, rfl⟩ := ha9 (by omega); clear hf9 ha9; simp only [roS, List.cons_append, List.nil_append] at hO)
        go_ret2
        exact ⟨rfl, hO.keep.below⟩
theorem parts_len {y : Bs} : ∀ {x : Bs} {c : UInt8}, y ∈ partsB x c → y.length ≤ x.length
  | [], c, h => by simp [partsB] at h; simp [h]
  | b :: x, c, h => by
    rw [partsB] at h
    split at h
    · rcases List.mem_cons.1 h with rfl | h
      · simp
      · have := parts_len h; simp; omega
    · split at h
      · simp at h; simp [h]
      · rename_i p ps hp
        rcases List.mem_cons.1 h with rfl | h
        · have := parts_len (x := x) (c := c) (y := p) (by rw [hp]; simp)
          simp; omega
        · have := parts_len (x := x) (c := c) (y := y) (by rw [hp]; exact List.mem_cons_of_mem _ h)
          simp; omega
set_option maxHeartbeats 8000000 in
theorem rtimes_any (x : Bs) (w : World) (hx : x.length ≤ 1000000000) :
    Calls Tryz.prog 37 #[.string ⟨x.toArray⟩] w (RetPr w (timR x)) := by
  have hO := own_start [] w
  have hS : timR x = match partsB x 45 with
    | [p, q] => if 0 ≤ clkR p ∧ clkR p < clkR q then some (clkR p, clkR q) else none
    | _ => none := rfl
  have hp := fun w => parts_any x w hx
  have hne := partsB_ne x 45
  have hlen := fun y (h : y ∈ partsB x 45) => parts_len h
  rw [hS]
  clear hS
  generalize partsB x 45 = ws at *
  by_cases h2 : ∃ p q, ws = [p, q]
  · obtain ⟨p, q, rfl⟩ := h2
    have hd1 := fun w => rclock_any p w (Nat.le_trans (hlen p (by simp)) (by omega))
    have hd2 := fun w => rclock_any q w (Nat.le_trans (hlen q (by simp)) (by omega))
    dsimp only
    have hP : ∀ w, Calls Tryz.prog 55 #[.string ⟨x.toArray⟩, .int .u8 45] w fun e w' => ∃ v, e = .returned v ∧ (IsCells w' v 2 [.string ⟨p.toArray⟩, .string ⟨q.toArray⟩] ∧ NewFrom w v) ∧ Below w.heap.size w w' := fun w => hp w
    clear hp hne hlen
    generalize clkR p = a at *
    generalize clkR q = b at *
    obtain ⟨V, HV⟩ : ∃ V, Hid ((if 0 ≤ a ∧ a < b then some (a, b) else none) = V) := ⟨_, Lib.hid rfl⟩
    rw [HV.out]
    go_enter Tryz.func37, Tryz.ntmps37
    go_wp2_with (go_at_call 55; (with_reducible refine (hP _).mono ?_); rintro e wv ⟨v9, rfl, ⟨hv9, hn9⟩, hb9⟩; have hf9 := isCells_form hv9; replace hO := hO.gainC hb9 hv9 hn9; clear hb9 hv9 hn9 hP; obtain ⟨a9, c9, rfl, ha9⟩ := hf9.view; obtain ⟨g9, o9, rfl⟩ := ha9 (by omega); clear hf9 ha9; simp only [roS, List.cons_append, List.nil_append] at hO)
    refine wp_region_any (by kernel_rfl) ?_
    replace hO := hO.drew
    have ix9 := Ix.mk [0, 1, 4, 5]
    iterate 4 (refine wpAny_tk ix9 ?_; replace ix9 := ix9.tail; (first | go_big_quiet_skip | (go_big_quiet_want; (go_big_quiet_op; (first | go_big_quiet_on | ((refine ⟨_, fun _ _ => rfl, ?_⟩); go_big_quiet_on))))); (refine wpQuiet_nil ?_); (try simp only [Act.put]); (try simp only [List.setIfInBounds_toArray, List.set_cons_zero, List.set_cons_succ]))
    clear ix9
    refine wpAny_all (rs := [2, 6]) (by kernel_rfl) (by simp) (ord_cons ?_ (ord_cons ?_ ord_nil))
    rotate_left 2
    all_goals
      refine wpOp_of_listL rfl ?_
      ((with_reducible refine is_load ?_); (refine own_ldV (h := ?_))); (try simp only [Act.put]); (try simp only [List.setIfInBounds_toArray, List.set_cons_zero, List.set_cons_succ])
      refine wpList_done (qk_intro ?_)
    refine wpAny_all (rs := [3, 6]) (by kernel_rfl) (by simp) (ord_cons ?_ (ord_cons ?_ ord_nil))
    rotate_left 2
    refine wpAny_all (rs := [2]) (by kernel_rfl) (by simp) (ord_cons ?_ ord_nil)
    rotate_left 1
    all_goals
      refine wpOp_of_listL rfl ?_
      (first | ((with_reducible refine is_load ?_); (refine own_ldV (h := ?_))) | ((refine wpList_step (fun K hK => ?_)); go_simp; ((go_at_call 57; (with_reducible refine (hd1 _).mono ?_); rintro e wv ⟨rfl, hb⟩; replace hO := hO.call hb; clear hb); (try simp only []); (refine hK _ _ ?_); clear hK K))); (try simp only [Act.put]); (try simp only [List.setIfInBounds_toArray, List.set_cons_zero, List.set_cons_succ])
      refine wpList_done (qk_intro ?_)
    refine wpAny_all (rs := [6]) (by kernel_rfl) (by simp) (ord_cons ?_ ord_nil)
    rotate_left 1
    refine wpAny_all (rs := [3]) (by kernel_rfl) (by simp) (ord_cons ?_ ord_nil)
    rotate_left 1
    refine wpAny_all (rs := [3]) (by kernel_rfl) (by simp) (ord_cons ?_ ord_nil)
    rotate_left 1
    all_goals
      refine wpOp_of_listL rfl ?_
      (first | ((with_reducible refine is_load ?_); (refine own_ldV (h := ?_))) | ((refine wpList_step (fun K hK => ?_)); go_simp; ((go_at_call 57; (with_reducible refine (hd1 _).mono ?_); rintro e wv ⟨rfl, hb⟩; replace hO := hO.call hb; clear hb); (try simp only []); (refine hK _ _ ?_); clear hK K))); (try simp only [Act.put]); (try simp only [List.setIfInBounds_toArray, List.set_cons_zero, List.set_cons_succ])
      refine wpList_done (qk_intro ?_)
    refine wpAny_all (rs := [7]) (by kernel_rfl) (by simp) (ord_cons ?_ ord_nil)
    rotate_left 1
    refine wpAny_all (rs := [7]) (by kernel_rfl) (by simp) (ord_cons ?_ ord_nil)
    rotate_left 1
    refine wpAny_all (rs := [7]) (by kernel_rfl) (by simp) (ord_cons ?_ ord_nil)
    rotate_left 1
    all_goals
      refine wpOp_of_listL rfl ?_
      ((refine wpList_step (fun K hK => ?_)); go_simp; ((go_at_call 57; (with_reducible refine (hd2 _).mono ?_); rintro e wv ⟨rfl, hb⟩; replace hO := hO.call hb; clear hb); (try simp only []); (refine hK _ _ ?_); clear hK K))
      refine wpList_done (qk_intro ?_)
    refine wpAny_all (rs := [8]) (by kernel_rfl) (by simp) (ord_cons ?_ ord_nil)
    rotate_left 1
    refine wpAny_all (rs := [8]) (by kernel_rfl) (by simp) (ord_cons ?_ ord_nil)
    rotate_left 1
    refine wpAny_all (rs := [8]) (by kernel_rfl) (by simp) (ord_cons ?_ ord_nil)
    rotate_left 1
    all_goals
      refine wpOp_of_listL rfl ?_
      ((refine wpList_step (fun K hK => ?_)); go_simp; ((refine hK _ _ ?_); clear hK K))
      refine wpList_done (qk_intro ?_)
    refine wpAny_all (rs := [9]) (by kernel_rfl) (by simp) (ord_cons ?_ ord_nil)
    rotate_left 1
    refine wpAny_all (rs := [9]) (by kernel_rfl) (by simp) (ord_cons ?_ ord_nil)
    rotate_left 1
    refine wpAny_all (rs := [9]) (by kernel_rfl) (by simp) (ord_cons ?_ ord_nil)
    rotate_left 1
    all_goals
      refine wpOp_of_listL rfl ?_
      ((refine wpList_step (fun K hK => ?_)); go_simp; ((refine hK _ _ ?_); clear hK K))
      refine wpList_done (qk_intro ?_)
    refine wpAny_done (by kernel_rfl) ?_ _
    rotate_left
    refine wpAny_done (by kernel_rfl) ?_ _
    rotate_left
    refine wpAny_done (by kernel_rfl) ?_ _
    rotate_left
    all_goals
      by_cases h1 : a < 0
      · have g3 : decide (a < 0) = true := decide_eq_true h1
        obtain rfl : V = none := by rw [← HV.out, if_neg (by omega)]
        clear HV
        go_wp2_with fail
        go_ret2
        exact ⟨rfl, hO.keep.below⟩
      have g3 : decide (a < 0) = false := decide_eq_false h1
      by_cases h2 : b ≤ a
      · have g4 : decide (b ≤ a) = true := decide_eq_true h2
        obtain rfl : V = none := by rw [← HV.out, if_neg (by omega)]
        clear HV
        go_wp2_with fail
        go_ret2
        exact ⟨rfl, hO.keep.below⟩
      · have g4 : decide (b ≤ a) = false := decide_eq_false h2
        obtain rfl : V = some (a, b) := by rw [← HV.out, if_pos (by omega)]
        clear HV
        go_wp2_with fail
        go_ret2
        exact ⟨rfl, hO.keep.below⟩
  · have hN : (match ws with
      | [p, q] => if 0 ≤ clkR p ∧ clkR p < clkR q then some (clkR p, clkR q) else none
      | _ => none) = none := by
      split
      · exact absurd ⟨_, _, rfl⟩ h2
      · rfl
    rw [hN]
    obtain ⟨n, hn⟩ : ∃ n : Nat, ws.length = n := ⟨_, rfl⟩
    have hn2 : n ≠ 2 := fun h => h2 (by
      match ws, hn.trans h with
      | [p, q], _ => exact ⟨p, q, rfl⟩)
    have hn0 : 0 < n := by rw [← hn]; exact List.length_pos_iff.2 hne
    have hP : ∀ w, Calls Tryz.prog 55 #[.string ⟨x.toArray⟩, .int .u8 45] w fun e w' => ∃ v, e = .returned v ∧ (IsCells w' v n (scs ws) ∧ NewFrom w v) ∧ Below w.heap.size w w' := fun w => by
      have h := hp w
      unfold RetTexts IsTexts at h
      rw [hn] at h
      exact h
    clear hp hne hn hlen hN h2
    have g1 : ((n : Int) != 2) = true := by rw [bne_iff_ne]; omega
    go_enter Tryz.func37, Tryz.ntmps37
    go_wp2_with (go_at_call 55; (with_reducible refine (hP _).mono ?_); rintro e wv ⟨v9, rfl, ⟨hv9, hn9⟩, hb9⟩; have hf9 := isCells_form hv9; replace hO := hO.gainC hb9 hv9 hn9; clear hb9 hv9 hn9 hP; obtain ⟨a9, c9, rfl, ha9⟩ := hf9.view; obtain ⟨g9, o9, rfl⟩ := ha9 (by omega); clear hf9 ha9; simp only [roS, List.cons_append, List.nil_append] at hO)
    go_ret2
    exact ⟨rfl, hO.keep.below⟩
end Go.Proofs.YtfhkmkbfgmbbaaaGreatDoor

/- The reference's Parse. -/
namespace Go.Proofs.YtfhkmkbfgmbbaaaGreatDoor
open Go.RowKit
set_option maxRecDepth 100000
theorem items_three {ws : List Bs} {m : List Rg} {k : Nat} (h : itemsF ws = some (m, k)) : ws.length / 3 + 1 = k := by
  have := items_len h
  omega
theorem items_mod {ws : List Bs} (h : ws.length % 3 ≠ 2) : itemsF ws = none := by
  cases hi : itemsF ws with
  | none => rfl
  | some p =>
    obtain ⟨m, k⟩ := p
    have := items_len hi
    omega
set_option maxHeartbeats 16000000 in
theorem rparse_any {vl : Value} {ws : List Bs} (w : World) (hv : IsTexts w vl ws) (hn : ws.length ≤ 100000) (hx : ∀ x ∈ ws, x.length ≤ 1000000000) :
    Calls Tryz.prog 18 #[vl] w (WinP w.heap.size w (parsF 16 ws)) := by
  have hO := own_cellsA (own_start [] w) hv
  obtain ⟨a, c, rfl, ha⟩ := formC_view (isCells_form hv)
  simp only [List.append_nil] at hO
  clear hv
  by_cases h1 : ws.length = 1
  · obtain ⟨x, rfl⟩ : ∃ x, ws = [x] := by
      match ws, h1 with
      | [x], _ => exact ⟨x, rfl⟩
    obtain ⟨g, o, rfl⟩ := ha (by simp)
    have hc0 : w.cell? ⟨g, o, none⟩ = some (.string ⟨x.toArray⟩) := hO.ro ⟨g, o, scs [x]⟩ List.mem_cons_self 0 _ rfl
    by_cases hxn : x = [110, 101, 118, 101, 114]
    · have g2 : (x == [110, 101, 118, 101, 114]) = true := beq_iff_eq.2 hxn
      have hP : parsF 16 [x] = .is [] := by unfold parsF; rw [if_pos (by rw [hxn]; rfl)]
      rw [hP]
      clear hP hxn hx ha
      go_enter Tryz.func18, Tryz.ntmps18
      go_wp2_with ((with_reducible refine is_load ?_); (refine own_ldV (h := ?_)))
      go_ret2
      exact ⟨_, rfl, ⟨.inl ⟨rfl, rfl, rfl⟩, fun g h => by cases h⟩, hO.keep.below⟩
    · have g2 : (x == [110, 101, 118, 101, 114]) = false := beq_eq_false_iff_ne.2 hxn
      have hP : parsF 16 [x] = .bad := pars_bad (fun e => hxn (List.cons.inj e).1) rfl
      rw [hP]
      clear hP hxn hx ha
      go_enter Tryz.func18, Tryz.ntmps18
      go_wp2_with ((with_reducible refine is_load ?_); (refine own_ldV (h := ?_)))
      go_ret2
      exact ⟨rfl, hO.keep.below⟩
  have g1 : ((ws.length : Int) == 1) = false := beq_eq_false_iff_ne.2 (by omega)
  have hnv : ws ≠ nevW := fun e => h1 (by rw [e]; rfl)
  have s0 : Int.tmod (ws.length : Int) 3 = ((ws.length % 3 : Nat) : Int) := rfl
  have s8 : Int.tdiv (ws.length : Int) 3 = ((ws.length / 3 : Nat) : Int) := rfl
  have hm3 : ws.length % 3 < 3 := Nat.mod_lt _ (by omega)
  have t8 : IntKind.i64.wrap ((ws.length % 3 : Nat) : Int) = ((ws.length % 3 : Nat) : Int) := IntWalk.i64_in _ (by omega)
  by_cases hmod : ws.length % 3 = 2
  · have HM3 := Lib.hid hmod
    have HPB := Lib.hid (fun h => pars_bad hnv h)
    have HPM := Lib.hid (fun (m : List Rg) (k : Nat) h hk => pars_much (m := m) (k := k) hnv h hk)
    have HPI := Lib.hid (fun (m : List Rg) (k : Nat) h hk => pars_is (m := m) (k := k) hnv h hk)
    have g9 : ((ws.length : Int) % 3 != 2) = false := by
      rw [show (ws.length : Int) % 3 = 2 by omega]; rfl
    clear h1 hnv hmod
    generalize parsF 16 ws = V at *
    go_enter Tryz.func18, Tryz.ntmps18
    go_wp2_with fail
    replace hO := hO.nilRow 46 2
    go_loopw [4, 5] (fun r q wr => ∃ (i k : Nat) (m : List Rg), q = .int .i64 i ∧ Hid (i = 3 * k) ∧ k ≤ i ∧ i ≤ ws.length + 1 ∧ m.length ≤ 7 * k ∧ BndR m ∧ Hid (i ≤ ws.length → addW m k (itemsF (ws.drop i)) = itemsF ws) ∧ Hid (ws.length < i → itemsF ws = some (m, k)) ∧ Own [] w [] [⟨r, m.length, rcs m, 46, 2⟩] (roS (.slice a ws.length c) (scs ws)) wr) (fun _ q _ => ws.length + 4 - (intOf q).toNat)
    case atStart => exact ⟨0, 0, [], rfl, Lib.hid rfl, by omega, by omega, by simp, fun _ h => absurd h List.not_mem_nil, Lib.hid fun _ => addW_zero _, Lib.hid fun h => absurd h (by omega), hO⟩
    case round =>
      clear hO
      obtain ⟨i, k, m, rfl, HK, hki, hi, hmk, hmb, HI, HJ, hO⟩ := hrel
      have s1 : IntKind.i64.wrap ((i : Int) + 1) = (i : Int) + 1 := IntWalk.i64_in _ (by omega)
      have s2 : IntKind.i64.wrap ((i : Int) + 2) = (i : Int) + 2 := IntWalk.i64_in _ (by omega)
      have s3 : IntKind.i64.wrap ((i : Int) + 3) = (i : Int) + 3 := IntWalk.i64_in _ (by omega)
      by_cases hl0 : i < ws.length
      · have g2 : decide ((i : Int) < (ws.length : Int)) = true := decide_eq_true (by omega)
        have hlt : i + 1 < ws.length := by have := HM3.out; have := HK.out; omega
        obtain ⟨g, o, rfl⟩ := ha (by omega)
        rw [show roS (.slice (some ⟨g, o, none⟩) ws.length c) (scs ws) = [⟨g, o, scs ws⟩] from rfl] at hO
        have u1 := scs_at hl0
        have u2 := scs_at hlt
        have HI0 := Lib.hid (HI.out (by omega))
        have HB : Hid (itemF ws[i] ws[i + 1] = none → V = .bad) := Lib.hid fun h => HPB.out (by rw [← HI0.out, items_bad hlt h]; rfl)
        have HSep : Hid (∀ h2 : i + 2 < ws.length, ws[i + 2] ≠ [44] → V = .bad) := Lib.hid fun h2 h => HPB.out (by rw [← HI0.out, items_sep h2 h]; rfl)
        have HGo : Hid (∀ (L : List Rg) (h2 : i + 2 < ws.length), itemF ws[i] ws[i + 1] = some L → ws[i + 2] = [44] → addW (m ++ L) (k + 1) (itemsF (ws.drop (i + 3))) = itemsF ws) := Lib.hid fun L h2 h3 h4 => by rw [← items_go h2 h3 h4, HI0.out]
        have HEnd : Hid (∀ (L : List Rg) (h2 : i + 2 = ws.length), itemF ws[i] ws[i + 1] = some L → itemsF ws = some (m ++ L, k + 1)) := Lib.hid fun L h2 h3 => by rw [← HI0.out, items_end h2 h3]
        have nx := hx ws[i] (List.getElem_mem hl0)
        have ny := hx ws[i + 1] (List.getElem_mem hlt)
        clear HI HJ HI0
        generalize ws[i] = x at *
        generalize ws[i + 1] = y at *
        have hD := fun w => span_any x w nx
        have hT := fun w => rtimes_any y w ny
        unfold RetPr at hD hT
        cases hsp : spanR x with
        | none =>
          rw [hsp] at hD
          obtain rfl := HB.out (item_no1 hsp)
          generalize prO (timR y) = pt at *
          obtain ⟨p1, p2⟩ := pt
          clear HB HSep HGo HEnd HPB HPM HPI hsp
          have hD2 : ∀ w, Calls Tryz.prog 36 #[.string ⟨x.toArray⟩] w fun e w' => e = .returned (.tuple #[.int .i64 (-1), .int .i64 (-1)]) ∧ Below w.heap.size w w' := hD
          go_wp2_with (first | ((with_reducible refine is_load ?_); (refine own_ldV (h := ?_))) | (go_at_call 36; (with_reducible refine (hD2 _).mono ?_); rintro e wv ⟨rfl, hb9⟩; replace hO := hO.call hb9; clear hb9) | (go_at_call 37; (with_reducible refine (hT _).mono ?_); rintro e wv ⟨rfl, hb9⟩; replace hO := hO.call hb9; clear hb9))
          go_ret2
          exact ⟨rfl, hO.keep.below⟩
        | some ab =>
          obtain ⟨A, B⟩ := ab
          rw [hsp] at hD
          have hD2 : ∀ w, Calls Tryz.prog 36 #[.string ⟨x.toArray⟩] w fun e w' => e = .returned (.tuple #[.int .i64 A, .int .i64 B]) ∧ Below w.heap.size w w' := hD
          obtain ⟨b1, b2, b3⟩ := spanR_bd hsp
          have g5 : decide (A < 0) = false := decide_eq_false (by omega)
          cases htm : timR y with
          | none =>
            rw [htm] at hT
            have hT2 : ∀ w, Calls Tryz.prog 37 #[.string ⟨y.toArray⟩] w fun e w' => e = .returned (.tuple #[.int .i64 (-1), .int .i64 (-1)]) ∧ Below w.heap.size w w' := hT
            obtain rfl := HB.out (item_no2 htm)
            clear HB HSep HGo HEnd HPB HPM HPI hsp htm hD hT
            go_wp2_with (first | ((with_reducible refine is_load ?_); (refine own_ldV (h := ?_))) | (go_at_call 36; (with_reducible refine (hD2 _).mono ?_); rintro e wv ⟨rfl, hb9⟩; replace hO := hO.call hb9; clear hb9) | (go_at_call 37; (with_reducible refine (hT2 _).mono ?_); rintro e wv ⟨rfl, hb9⟩; replace hO := hO.call hb9; clear hb9))
            go_ret2
            exact ⟨rfl, hO.keep.below⟩
          | some fu =>
            obtain ⟨f, u⟩ := fu
            rw [htm] at hT
            have hT2 : ∀ w, Calls Tryz.prog 37 #[.string ⟨y.toArray⟩] w fun e w' => e = .returned (.tuple #[.int .i64 f, .int .i64 u]) ∧ Below w.heap.size w w' := hT
            have hit := item_some hsp htm
            obtain ⟨b4, b5, b6⟩ := timR_bd htm
            have g6 : decide (f < 0) = false := decide_eq_false (by omega)
            clear HB hsp htm hD hT
            obtain ⟨N, hN9⟩ : ∃ N : Nat, (B - A + 1).toNat = N := ⟨_, rfl⟩
            have HN8 : Hid ((N : Int) = B - A + 1) := Lib.hid (by omega)
            rw [hN9] at hit
            clear hN9
            have hLB := itR_bnd b1 b4 b5 b6 N (by have := HN8.out; omega)
            have hLL := itR_len A f u N
            have HX : Hid (∀ j, rcs (m ++ itR A f u (j + 1)) = rcs (m ++ itR A f u j) ++ [.int .u32 (1440 * (A + (j : Int)) + f), .int .u32 (1440 * (A + (j : Int)) + u - 1)]) := Lib.hid fun j => by rw [itR, ← List.append_assoc, rcs_append]; rfl
            have hmL : BndR (m ++ itR A f u N) := fun r hr => (List.mem_append.1 hr).elim (hmb r) (hLB r)
            have hLen : (m ++ itR A f u N).length = m.length + N := by rw [List.length_append, hLL]
            have hcase : (∃ h2 : i + 2 < ws.length, ws[i + 2] ≠ [44]) ∨ ((i + 2 < ws.length → (∃ h2 : i + 2 < ws.length, ws[i + 2] = [44]) ∧ addW (m ++ itR A f u N) (k + 1) (itemsF (ws.drop (i + 3))) = itemsF ws) ∧ (i + 2 = ws.length → itemsF ws = some (m ++ itR A f u N, k + 1))) := by
              by_cases h2 : i + 2 < ws.length
              · by_cases hz : ws[i + 2] = [44]
                · exact .inr ⟨fun _ => ⟨⟨h2, hz⟩, HGo.out _ h2 hit hz⟩, fun h => absurd h (by omega)⟩
                · exact .inl ⟨h2, hz⟩
              · exact .inr ⟨fun h => absurd h h2, fun h => HEnd.out _ h hit⟩
            go_upto_region 11 with (first | ((with_reducible refine is_load ?_); (refine own_ldV (h := ?_))) | (go_at_call 36; (with_reducible refine (hD2 _).mono ?_); rintro e wv ⟨rfl, hb9⟩; replace hO := hO.call hb9; clear hb9) | (go_at_call 37; (with_reducible refine (hT2 _).mono ?_); rintro e wv ⟨rfl, hb9⟩; replace hO := hO.call hb9; clear hb9))
            rcases hcase with ⟨h2, hz⟩ | ⟨h2, h3⟩
            · have u3 := scs_at h2
              obtain rfl := HSep.out h2 hz
              have q3 := hO.ro ⟨g, o, scs ws⟩ List.mem_cons_self (i + 2) _ u3
              dsimp only at q3
              clear HSep HGo HEnd HPB HPM HPI HX hit
              generalize ws[i + 2] = z at *
              have g7 : (z == [44]) = false := beq_eq_false_iff_ne.2 hz
              have g8 : decide ((i : Int) + 2 < (ws.length : Int)) = true := decide_eq_true (by omega)
              have c2 : (i : Int) + 2 < (ws.length : Int) := by omega
              clear hz
              go_wp2_with ((with_reducible refine is_load ?_); (refine own_ldV (h := ?_)))
              go_ret2
              exact ⟨rfl, hO.keep.below⟩
            · by_cases hm2 : i + 2 < ws.length
              · obtain ⟨⟨_, hz⟩, HG0⟩ := h2 hm2
                have HG := Lib.hid HG0
                have u3 := scs_at hm2
                have q3 := hO.ro ⟨g, o, scs ws⟩ List.mem_cons_self (i + 2) _ u3
                dsimp only at q3
                clear HSep HGo HEnd hit h2 h3 HG0 HPB HPM HPI
                generalize ws[i + 2] = z at *
                have g7 : (z == [44]) = true := beq_iff_eq.2 hz
                have g8 : decide ((i : Int) + 2 < (ws.length : Int)) = true := decide_eq_true (by omega)
                have c2 : (i : Int) + 2 < (ws.length : Int) := by omega
                clear hz
                go_wp2_with ((with_reducible refine is_load ?_); (refine own_ldV (h := ?_)))
                go_loopw [4, 10] (fun r q wr => ∃ j : Nat, j ≤ N ∧ q = .int .i64 (A + (j : Int)) ∧ Own [] w [] [⟨r, m.length + j, rcs (m ++ itR A f u j), 46, 2⟩] [⟨g, o, scs ws⟩] wr) (fun _ q _ => (B + 1 - intOf q).toNat)
                case atStart => exact ⟨0, by omega, by simp, by simpa [itR] using hO⟩
                case round =>
                  clear hO
                  obtain ⟨j, hj, rfl, hO⟩ := hrel
                  have hN8 := HN8.out
                  have s9 : IntKind.i64.wrap (A + (j : Int) + 1) = A + ((j + 1 : Nat) : Int) := by rw [IntWalk.i64_in _ (by omega)]; omega
                  by_cases hjN : j < N
                  · have g3 : decide (A + (j : Int) ≤ B) = true := decide_eq_true (by omega)
                    have HX2 := Lib.hid (HX.out j)
                    obtain ⟨E, hE⟩ : ∃ E : Int, E = 1440 * (A + (j : Int)) := ⟨_, rfl⟩
                    have t1 : IntKind.i64.wrap (1440 * (A + (j : Int))) = E := by rw [IntWalk.i64_in _ (by omega)]; omega
                    have e0 : 0 ≤ E := by omega
                    have e1 : E ≤ 8640 := by omega
                    have t2 : IntKind.i64.wrap (E + f) = E + f := IntWalk.i64_in _ (by omega)
                    have t3 : IntKind.u32.wrap (E + f) = E + f := by rw [IntKind.wrap_u32]; omega
                    have t4 : IntKind.i64.wrap (E + u) = E + u := IntWalk.i64_in _ (by omega)
                    have t5 : IntKind.i64.wrap (E + u - 1) = E + u - 1 := IntWalk.i64_in _ (by omega)
                    have t6 : IntKind.u32.wrap (E + u - 1) = E + u - 1 := by rw [IntKind.wrap_u32]; omega
                    rw [← hE] at HX2
                    have hjn : j ≤ 7 := by omega
                    clear hE HX hN8
                    obtain ⟨a7, c7, rfl, -⟩ := own_view hO List.mem_cons_self
                    go_wp2_with (first | ((with_reducible refine is_build ?_); (refine' own_build1 (o := ⟨some 87, _, _, _, _, _⟩) hO (by rfl) rfl rfl ?hu ?hf ?_; (case hu => (with_reducible (exact und_Ranges))); (case hf => kernel_rfl); clear hO; intro n87 wv hO)) | ((with_reducible refine is_append ?_); (refine own_apV (o := ⟨some 88, _, _, _, _, _⟩) (hO := hO) (h := ?_); clear hO; intro g88 c88 wv hO)))
                    rw [← HX2.out] at hO
                    go_roundw
                    case rel => exact ⟨j + 1, by omega, by go_num, hO.sub (X' := []) (List.nil_sublist _) (.refl _) (fun _ h => h)⟩
                    case measure =>
                      have hN8 := HN8.out
                      simp [intOf]; omega
                  · have g3 : decide (A + (j : Int) ≤ B) = false := decide_eq_false (by omega)
                    obtain rfl : j = N := by omega
                    have hjn : j ≤ 7 := by omega
                    clear hN8
                    rw [← hLen] at hO
                    clear HX hLL hLB
                    generalize m ++ itR A f u j = mL at *
                    go_wp2_with fail
                    go_roundw
                    case rel => exact ⟨i + 3, k + 1, mL, by go_num, Lib.hid (by have := HK.out; omega), by omega, by omega, by omega, hmL, Lib.hid (fun _ => HG.out), Lib.hid (fun h => absurd h (by omega)), hO⟩
                    case measure => simp [intOf]; omega
              · have HG := Lib.hid (h3 (by omega))
                have g8 : decide ((i : Int) + 2 < (ws.length : Int)) = false := decide_eq_false (by omega)
                clear HSep HGo HEnd hit h2 h3 HPB HPM HPI
                go_wp2_with fail
                go_loopw [4, 10] (fun r q wr => ∃ j : Nat, j ≤ N ∧ q = .int .i64 (A + (j : Int)) ∧ Own [] w [] [⟨r, m.length + j, rcs (m ++ itR A f u j), 46, 2⟩] [⟨g, o, scs ws⟩] wr) (fun _ q _ => (B + 1 - intOf q).toNat)
                case atStart => exact ⟨0, by omega, by simp, by simpa [itR] using hO⟩
                case round =>
                  clear hO
                  obtain ⟨j, hj, rfl, hO⟩ := hrel
                  have hN8 := HN8.out
                  have s9 : IntKind.i64.wrap (A + (j : Int) + 1) = A + ((j + 1 : Nat) : Int) := by rw [IntWalk.i64_in _ (by omega)]; omega
                  by_cases hjN : j < N
                  · have g3 : decide (A + (j : Int) ≤ B) = true := decide_eq_true (by omega)
                    have HX2 := Lib.hid (HX.out j)
                    obtain ⟨E, hE⟩ : ∃ E : Int, E = 1440 * (A + (j : Int)) := ⟨_, rfl⟩
                    have t1 : IntKind.i64.wrap (1440 * (A + (j : Int))) = E := by rw [IntWalk.i64_in _ (by omega)]; omega
                    have e0 : 0 ≤ E := by omega
                    have e1 : E ≤ 8640 := by omega
                    have t2 : IntKind.i64.wrap (E + f) = E + f := IntWalk.i64_in _ (by omega)
                    have t3 : IntKind.u32.wrap (E + f) = E + f := by rw [IntKind.wrap_u32]; omega
                    have t4 : IntKind.i64.wrap (E + u) = E + u := IntWalk.i64_in _ (by omega)
                    have t5 : IntKind.i64.wrap (E + u - 1) = E + u - 1 := IntWalk.i64_in _ (by omega)
                    have t6 : IntKind.u32.wrap (E + u - 1) = E + u - 1 := by rw [IntKind.wrap_u32]; omega
                    rw [← hE] at HX2
                    have hjn : j ≤ 7 := by omega
                    clear hE HX hN8
                    obtain ⟨a7, c7, rfl, -⟩ := own_view hO List.mem_cons_self
                    go_wp2_with (first | ((with_reducible refine is_build ?_); (refine' own_build1 (o := ⟨some 87, _, _, _, _, _⟩) hO (by rfl) rfl rfl ?hu ?hf ?_; (case hu => (with_reducible (exact und_Ranges))); (case hf => kernel_rfl); clear hO; intro n87 wv hO)) | ((with_reducible refine is_append ?_); (refine own_apV (o := ⟨some 88, _, _, _, _, _⟩) (hO := hO) (h := ?_); clear hO; intro g88 c88 wv hO)))
                    rw [← HX2.out] at hO
                    go_roundw
                    case rel => exact ⟨j + 1, by omega, by go_num, hO.sub (X' := []) (List.nil_sublist _) (.refl _) (fun _ h => h)⟩
                    case measure =>
                      have hN8 := HN8.out
                      simp [intOf]; omega
                  · have g3 : decide (A + (j : Int) ≤ B) = false := decide_eq_false (by omega)
                    obtain rfl : j = N := by omega
                    have hjn : j ≤ 7 := by omega
                    clear hN8
                    rw [← hLen] at hO
                    clear HX hLL hLB
                    generalize m ++ itR A f u j = mL at *
                    go_wp2_with fail
                    go_roundw
                    case rel => exact ⟨i + 3, k + 1, mL, by go_num, Lib.hid (by have := HK.out; omega), by omega, by omega, by omega, hmL, Lib.hid (fun h => absurd h (by omega)), Lib.hid (fun _ => HG.out), hO⟩
                    case measure => simp [intOf]; omega
      · have g2 : decide ((i : Int) < (ws.length : Int)) = false := decide_eq_false (by omega)
        have hit2 := HJ.out (by have := HM3.out; have := HK.out; omega)
        have hk3 := items_three hit2
        have t9 : IntKind.i64.wrap ((ws.length : Int) / 3) = (ws.length : Int) / 3 := IntWalk.i64_in _ (by omega)
        have t10 : IntKind.i64.wrap ((ws.length : Int) / 3 + 1) = (ws.length : Int) / 3 + 1 := IntWalk.i64_in _ (by omega)
        by_cases h16 : 16 < k
        · have g6 : decide ((ws.length : Int) / 3 + 1 > 16) = true := decide_eq_true (by omega)
          obtain rfl := HPM.out _ _ hit2 h16
          clear HPB HPM HPI HI HJ hit2 hk3 h16
          go_wp2_with fail
          go_ret2
          exact ⟨rfl, hO.keep.below⟩
        · have g6 : decide ((ws.length : Int) / 3 + 1 > 16) = false := decide_eq_false (by omega)
          obtain rfl := HPI.out _ _ hit2 h16
          have hU : ∀ v w, IsCells w v m.length (rcs m) → Calls Tryz.prog 38 #[v, .slice none 0 0] w (RetRgs w (canU m)) := fun v w h => by
            have h2 := runion_any (lb := []) w h (.inl ⟨rfl, rfl, rfl⟩) (by omega) (by simp) hmb (fun _ h => absurd h List.not_mem_nil)
            rwa [List.append_nil] at h2
          clear HPB HPM HPI HI HJ hit2 hk3 h16
          go_wp2_with (go_at_call 38; (with_reducible refine (hU _ _ (own_rgs hO List.mem_cons_self)).mono ?_); rintro e wv ⟨v9, rfl, ⟨hv9, hn9⟩, hb9⟩; have hs9 := hO.keep.size; replace hO := hO.call hb9; clear hb9)
          go_ret2
          exact ⟨v9, rfl, ⟨hv9, fun g h => Nat.le_trans hs9 (hn9 g h)⟩, hO.keep.below⟩
  · obtain hP : parsF 16 ws = .bad := pars_bad hnv (items_mod hmod)
    rw [hP]
    have g9 : ((ws.length : Int) % 3 != 2) = true := by rw [bne_iff_ne]; omega
    clear hP hx ha hmod hnv
    go_enter Tryz.func18, Tryz.ntmps18
    go_wp2_with fail
    go_ret2
    exact ⟨rfl, hO.keep.below⟩
end Go.Proofs.YtfhkmkbfgmbbaaaGreatDoor
