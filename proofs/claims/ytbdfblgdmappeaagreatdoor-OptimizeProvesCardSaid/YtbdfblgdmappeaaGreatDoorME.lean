/- Package packetset (first part): operations, covering, valid, Contains. -/
import Derived.Deep.DeepMust
import Derived.Test.YtbdfblgdmappeaaGreatDoorMC
import Derived.Test.YtbdfblgdmappeaaGreatDoorMD
import Derived.Test.YtbdfblgdmappeaaGreatDoorMA
namespace Go.Proofs.YtbdfblgdmappeaaGreatDoor
open Go.RowKit
set_option maxRecDepth 100000
theorem either_any (x y : Bool) (w : World) : Calls Tryz.prog 137 #[.bool x, .bool y] w fun e w' => e = .returned (.bool (orB x y)) ∧ w = w' := by
  cases x <;> cases y <;>
    (go_enter Tryz.func137, Tryz.ntmps137
     go_wp2_with fail
     go_ret
     exact ⟨rfl, rfl⟩)
theorem both_any (x y : Bool) (w : World) : Calls Tryz.prog 139 #[.bool x, .bool y] w fun e w' => e = .returned (.bool (andB x y)) ∧ w = w' := by
  cases x <;> cases y <;>
    (go_enter Tryz.func139, Tryz.ntmps139
     go_wp2_with fail
     go_ret
     exact ⟨rfl, rfl⟩)
theorem without_any (x y : Bool) (w : World) : Calls Tryz.prog 140 #[.bool x, .bool y] w fun e w' => e = .returned (.bool (exB x y)) ∧ w = w' := by
  cases x <;> cases y <;>
    (go_enter Tryz.func140, Tryz.ntmps140
     go_wp2_with fail
     go_ret
     exact ⟨rfl, rfl⟩)
theorem different_any (x y : Bool) (w : World) : Calls Tryz.prog 113 #[.bool x, .bool y] w fun e w' => e = .returned (.bool (xorB x y)) ∧ w = w' := by
  cases x <;> cases y <;>
    (go_enter Tryz.func113, Tryz.ntmps113
     go_wp2_with fail
     go_ret
     exact ⟨rfl, rfl⟩)
theorem cov_take {l : List Bx} {f : Nat} {v : Int} {k : Nat} (h : k < l.length) : covB (l.take (k + 1)) f v = covB (l.take k) f v ++ if (decide ((l[k].at f).lo ≤ v) && decide (v ≤ (l[k].at f).hi)) then [l[k]] else [] := filter_take h
set_option maxHeartbeats 2000000 in
theorem covering_any {vl : Value} {l : List Bx} {f : Nat} {v : Int} (w : World) (hv : IsBoxes w vl l) (hf : f < 5) (hl : l.length ≤ 1000000000000) :
  Calls Tryz.prog 201 #[vl, .int .i64 f, .int .u32 v] w (RetBoxes w (covB l f v)) := by
 have hO := own_arg hv
 obtain ⟨a, c, rfl, ha⟩ := hv.view
 clear hv
 go_enter Tryz.func201, Tryz.ntmps201
 go_wp2_with fail
 replace hO := hO.nilRow 98 10
 go_loopw [7, 12] (fun r i wr => ∃ k : Nat, k ≤ l.length ∧ i = .int .i64 k ∧ Own [] w [] [⟨r, (covB (l.take k) f v).length, cellsB (covB (l.take k) f v), 98, 10⟩] (roS (.slice a l.length c) (cellsB l)) wr) (fun _ i _ => l.length - (intOf i).toNat)
 case atStart => exact ⟨0, by omega, rfl, hO⟩
 case round =>
  clear hO
  obtain ⟨k, hk, rfl, hO⟩ := hrel
  by_cases hlt : k < l.length
  ·obtain ⟨g, o, rfl⟩ := ha (by omega)
   simp only [roS] at hO
   have HT := Lib.hid (cov_take (f := f) (v := v) hlt)
   have hle : (covB (l.take k) f v).length ≤ k := filter_take_le _ _ _
   generalize covB (l.take k) f v = m at *
   by_cases h1 : (l[k].at f).lo ≤ v
   ·by_cases h2 : v ≤ (l[k].at f).hi
    ·have g1 : decide ((l[k].at f).lo ≤ v) = true := decide_eq_true h1
     have g2 : decide (v ≤ (l[k].at f).hi) = true := decide_eq_true h2
     go_wp2_with (first | refine ldN ?_ | (refine stN hO ?_; clear hO; intro wv hO) | (refine al9 9 hO ?_; clear hO; intro n9 wv hO) | (refine bl9 32 hO ?_; clear hO; intro n32 wv hO) | (refine ap9 33 hO ?_; clear hO; intro g33 c33 wv hO))
     go_roundw
     case rel =>
      refine ⟨k + 1, by omega, by go_num, ?_⟩
      rw [HT.out, g1, g2, Bool.and_self, if_pos rfl, List.length_append, cellsB_append, cellsB_one]
      exact hO.sub (.cons _ (.cons _ (.refl _))) (.refl _) (fun _ h => h)
     case measure => simp [intOf]; omega
    ·have g1 : decide ((l[k].at f).lo ≤ v) = true := decide_eq_true h1
     have g2 : decide (v ≤ (l[k].at f).hi) = false := decide_eq_false h2
     go_wp2_with (first | refine ldN ?_ | (refine stN hO ?_; clear hO; intro wv hO) | (refine al9 9 hO ?_; clear hO; intro n9 wv hO))
     go_roundw
     case rel =>
      refine ⟨k + 1, by omega, by go_num, ?_⟩
      rw [HT.out, g1, g2, Bool.and_false, if_neg Bool.false_ne_true, List.append_nil]
      exact hO.sub (.cons _ (.refl _)) (.refl _) (fun _ h => h)
     case measure => simp [intOf]; omega
   ·have g1 : decide ((l[k].at f).lo ≤ v) = false := decide_eq_false h1
    go_wp2_with (first | refine ldN ?_ | (refine stN hO ?_; clear hO; intro wv hO) | (refine al9 9 hO ?_; clear hO; intro n9 wv hO))
    go_roundw
    case rel =>
     refine ⟨k + 1, by omega, by go_num, ?_⟩
     rw [HT.out, g1, Bool.false_and, if_neg Bool.false_ne_true, List.append_nil]
     exact hO.sub (.cons _ (.refl _)) (.refl _) (fun _ h => h)
    case measure => simp [intOf]; omega
  ·obtain rfl : k = l.length := by omega
   rw [List.take_length] at hO
   go_wp2_with fail
   go_ret
   exact ⟨_, rfl, ⟨own_boxes hO List.mem_cons_self, own_new hO List.mem_cons_self⟩, hO.keep.below⟩
theorem take_succ_ne {l m : List Bx} {k : Nat} (h1 : k < l.length) (h2 : k < m.length) (h : l[k] ≠ m[k]) : l ≠ m := by rintro rfl; exact h rfl
set_option maxHeartbeats 2000000 in
theorem bsame_any {va vb : Value} {l m : List Bx} (w : World) (ha : IsBoxes w va l) (hb : IsBoxes w vb m) (hl : l.length ≤ 1000000000000) :
  Calls Tryz.prog 194 #[va, vb] w fun e w' => e = .returned (.bool (decide (l = m))) ∧ Below w.heap.size w w' := by
 have hO := roS_arg2 ha hb
 obtain ⟨a, c, rfl, ha'⟩ := ha.view
 obtain ⟨b, d, rfl, hb'⟩ := hb.view
 clear ha hb
 by_cases hlen : l.length = m.length
 ·have g0 : ((l.length : Int) != (m.length : Int)) = false := by simp [hlen]
  go_enter Tryz.func194, Tryz.ntmps194
  go_wp2_with fail
  go_loopw [13] (fun i wr => ∃ k : Nat, k ≤ l.length ∧ i = .int .i64 k ∧ l.take k = m.take k ∧ Own [] w [] [] (roS (.slice a l.length c) (cellsB l) ++ roS (.slice b m.length d) (cellsB m)) wr) (fun i _ => l.length - (intOf i).toNat)
  case atStart => exact ⟨0, by omega, rfl, rfl, hO⟩
  case round =>
   clear hO
   obtain ⟨k, hk, rfl, hE, hO⟩ := hrel
   by_cases hlt : k < l.length
   ·obtain ⟨g, o, rfl⟩ := ha' (by omega)
    obtain ⟨g', o', rfl⟩ := hb' (by omega)
    simp only [roS, List.cons_append, List.nil_append] at hO
    have hlt' : k < m.length := by omega
    have t1 := tk_box l hlt
    have t2 := tk_box m hlt'
    have HT := Lib.hid (show l.take (k + 1) = l.take k ++ [l[k]] from List.take_succ_eq_append_getElem hlt)
    have HU := Lib.hid (show m.take (k + 1) = m.take k ++ [m[k]] from List.take_succ_eq_append_getElem hlt')
    have HN := Lib.hid (take_succ_ne hlt hlt')
    have y1 : (k : Int) < m.length := by omega
    generalize l[k] = x at *
    generalize m[k] = y at *
    by_cases hxy : x = y
    ·have g1 : decide (x = y) = true := decide_eq_true hxy
     go_wp2_with fail
     (refine own_quiet hO (by kernel_rfl) (by kernel_rfl) ?_; clear hO; (repeat (go_big_quiet_want; (first | ((with_reducible refine is_loadQ ?_); (refine q_ld (h := ?_)); (try simp only [Act.put]); (try simp only [sI9, sZ9, sS9]); go_big_quiet_on) | (go_big_quiet_op; (first | go_big_quiet_on | ((refine ⟨_, fun _ _ => rfl, ?_⟩); go_big_quiet_on)))))); (refine wpQuiet_nil ?_); intro wv hO)
     go_wp2_with fail
     go_roundw
     case rel => exact ⟨k + 1, by omega, by go_num, by rw [HT.out, HU.out, hE, hxy], hO⟩
     case measure => simp [intOf]; omega
    ·have g1 : decide (x = y) = false := decide_eq_false hxy
     go_wp2_with fail
     (refine own_quiet hO (by kernel_rfl) (by kernel_rfl) ?_; clear hO; (repeat (go_big_quiet_want; (first | ((with_reducible refine is_loadQ ?_); (refine q_ld (h := ?_)); (try simp only [Act.put]); (try simp only [sI9, sZ9, sS9]); go_big_quiet_on) | (go_big_quiet_op; (first | go_big_quiet_on | ((refine ⟨_, fun _ _ => rfl, ?_⟩); go_big_quiet_on)))))); (refine wpQuiet_nil ?_); intro wv hO)
     go_wp2_with fail
     go_ret
     exact ⟨by rw [decide_eq_false (HN.out hxy)]; rfl, hO.keep.below⟩
   ·have hk2 : k = l.length := by omega
    rw [hk2, List.take_length, hlen, List.take_length] at hE
    have hne := Lib.hid hE
    clear hE
    go_wp2_with fail
    go_ret
    exact ⟨by rw [decide_eq_true hne.out]; rfl, hO.keep.below⟩
 ·have g0 : ((l.length : Int) != (m.length : Int)) = true := by simp; omega
  have hne : decide (l = m) = false := decide_eq_false (fun h => hlen (by rw [h]))
  rw [hne]
  go_enter Tryz.func194, Tryz.ntmps194
  go_wp2_with fail
  go_ret
  exact ⟨rfl, hO.keep.below⟩
def nvld (b : Bx) : Bool := !vld b
theorem validf_any (b : Bx) (w : World) (ht : Tops w) : Calls Tryz.prog 189 #[bv b] w fun e w' => e = .returned (.bool (nvld b)) ∧ Below w.heap.size w w' := by
 have hO := own_start [] w
 go_enter Tryz.func189, Tryz.ntmps189
 go_wp2_with (first | refine ldN ?_ | (refine bx9 1 hO ?_; clear hO; intro n1 wv hO) | (go_at_call 100; refine (valid_any _ _ (hO.tops ht (by simp))).mono ?_; rintro e wv ⟨rfl, hb⟩; replace hO := hO.call hb; clear hb))
 go_ret
 exact ⟨rfl, hO.keep.below⟩
def IdxPost (p : Bx → Bool) (l : List Bx) (i : Int) : Prop := (i = -1 ∧ ∀ b ∈ l, p b = false) ∨ ∃ k, ∃ h : k < l.length, i = k ∧ p l[k] = true ∧ ∀ b ∈ l.take k, p b = false
set_option maxHeartbeats 2000000 in
theorem idxv_any {vl : Value} {l : List Bx} (w : World) (ht : Tops w) (hv : IsBoxes w vl l) (hl : l.length ≤ 1000000000000) :
  Calls Tryz.prog 191 #[vl, (.func (.func 189) #[] #[])] w fun e w' => (∃ i, e = .returned (.int .i64 i) ∧ IdxPost nvld l i) ∧ Below w.heap.size w w' := by
 have hO := own_arg hv
 obtain ⟨a, c, rfl, ha⟩ := hv.view
 clear hv
 go_enter Tryz.func191, Tryz.ntmps191
 go_wp2_with fail
 go_loopw [8] (fun i wr => ∃ k : Nat, k ≤ l.length ∧ i = .int .i64 k ∧ (∀ b ∈ l.take k, nvld b = false) ∧ Own [] w [] [] (roS (.slice a l.length c) (cellsB l)) wr) (fun i _ => l.length - (intOf i).toNat)
 case atStart => exact ⟨0, by omega, rfl, by simp, hO⟩
 case round =>
  clear hO
  obtain ⟨k, hk, rfl, hE, hO⟩ := hrel
  by_cases hlt : k < l.length
  ·obtain ⟨g, o, rfl⟩ := ha (by omega)
   simp only [roS] at hO
   cases hp : nvld l[k]
   ·go_wp2_with (first | refine ldN ?_ | (go_at_call 189; refine (validf_any _ _ (hO.tops ht (by simp))).mono ?_; rintro e wv ⟨rfl, hb⟩; replace hO := hO.call hb; clear hb))
    go_roundw
    case rel =>
     refine ⟨k + 1, by omega, by go_num, ?_, hO⟩
     rw [List.take_succ_eq_append_getElem hlt]
     intro b hb
     rcases List.mem_append.1 hb with hb | hb
     ·exact hE b hb
     ·rw [List.mem_singleton.1 hb]; exact hp
    case measure => simp [intOf]; omega
   ·go_wp2_with (first | refine ldN ?_ | (go_at_call 189; refine (validf_any _ _ (hO.tops ht (by simp))).mono ?_; rintro e wv ⟨rfl, hb⟩; replace hO := hO.call hb; clear hb))
    go_ret
    exact ⟨⟨_, rfl, .inr ⟨k, hlt, rfl, hp, hE⟩⟩, hO.keep.below⟩
  ·have hk2 : k = l.length := by omega
   rw [hk2, List.take_length] at hE
   go_wp2_with fail
   go_ret
   exact ⟨⟨_, rfl, .inl ⟨rfl, hE⟩⟩, hO.keep.below⟩
theorem clone_any {vl : Value} {l : List Bx} (w : World) (hv : IsBoxes w vl l) (hl : l.length ≤ 1000000000000) :
  Calls Tryz.prog 188 #[vl] w (MkBoxes w l) := by
 have hO := own_arg hv
 have hv0 := hv
 obtain ⟨a, c, rfl, ha⟩ := hv.view
 clear hv
 cases a with
 | none =>
  have hl0 : l = [] ∧ c = 0 := by
   rcases hv0 with ⟨h', h⟩ | ⟨_, _, _, h, _⟩
   ·exact ⟨h, by simpa [h] using h'⟩
   ·cases h
  obtain ⟨rfl, rfl⟩ := hl0
  have hn : ∀ w, (binOp .eql 81 (.slice none 0 0) (.slice none 0 0)).run Tryz.prog w = .ok (.bool true) w := fun w => Lib.run_eql_slice_nil w _ 98 _ _ _ _ _ Tryz.underlying81
  replace hO := hO.nilRow 98 10
  go_enter Tryz.func188, Tryz.ntmps188
  go_wp2_with fail
  go_ret
  exact ⟨_, rfl, hO.newRow List.mem_cons_self, hO.keep.below⟩
 | some ad =>
  have hsrc := fun (wq : World) (h : Keep [] w wq) => src_boxes (m := l.length) (hv0.keep h) (Nat.le_refl _)
  rw [List.take_length] at hsrc
  have hn : ∀ w, (binOp .eql 81 (.slice (some ad) l.length c) (.slice none 0 0)).run Tryz.prog w = .ok (.bool false) w := fun w => Lib.run_eql_slice_nil w _ 98 _ _ _ _ _ Tryz.underlying81
  go_enter Tryz.func188, Tryz.ntmps188
  go_wp2_with (first | ((with_reducible refine is_build ?_); (refine own_build0 (o := ⟨some 5, _, _, _, _, _⟩) hO (by rfl) rfl slice_Boxes ?_); clear hO; intro n5 wv hO) | ((with_reducible refine is_append ?_); (refine own_appendA (o := ⟨some 7, _, _, _, _, _⟩) hO rfl rfl slice_Boxes rfl rfl (hsrc _ hO.keep) (cellsB_one' _) (fun _ => by repeat (exact UpdR.here)) (by (omega)) (by unfold maxLen; (omega)) ?_); clear hO; intro A7 c7 wv hO))
  go_ret
  simp only [Nat.zero_add, List.nil_append] at hO
  exact ⟨_, rfl, hO.newRow List.mem_cons_self, hO.keep.below⟩
def DelPost (w : World) (g k c : Nat) (l : List Bx) (e : Ending) (w' : World) : Prop := ∃ ys, e = .returned (.slice (some ⟨g, 0, none⟩) l.length c) ∧ Keep [g] w w' ∧ w'.ownsRow 0 98 10 (.slice (some ⟨g, 0, none⟩) k c) k ys ∧ ys.take (l.length * 10) = cellsB l
theorem IdxPost.none {p : Bx → Bool} {l : List Bx} {i : Int} (h : IdxPost p l i) (ha : ∀ b ∈ l, p b = false) : i = -1 := by
 rcases h with ⟨h, _⟩ | ⟨k, hk, _, h, _⟩
 ·exact h
 ·rw [ha _ (List.getElem_mem hk)] at h; cases h
theorem IdxPost.some {p : Bx → Bool} {l : List Bx} {i : Int} (h : IdxPost p l i) {k : Nat} (hk : k < l.length) (hp : p l[k] = true) (ha : ∀ b ∈ l.take k, p b = false) : i = k := by
 rcases h with ⟨_, h⟩ | ⟨j, hj, rfl, hpj, hj'⟩
 ·rw [h _ (List.getElem_mem hk)] at hp; cases hp
 ·have key : ∀ {a b : Nat} (ha : a < l.length), a < b → (∀ x ∈ l.take b, p x = false) → p l[a] = true → False := fun {a b} hal hab hx hpa => by
   have : l[a] ∈ l.take b := List.mem_take_iff_getElem.2 ⟨a, by omega, rfl⟩
   rw [hx _ this] at hpa; cases hpa
  have h1 : ¬ j < k := fun h => key hj h ha hpj
  have h2 : ¬ k < j := fun h => key hk h hj' hp
  omega
theorem idx_cases (p : Bx → Bool) : ∀ l : List Bx, (∀ b ∈ l, p b = false) ∨ ∃ k, ∃ h : k < l.length, p l[k] = true ∧ ∀ b ∈ l.take k, p b = false
 | [] => .inl (by simp)
 | b :: l => by
  cases hb : p b
  ·rcases idx_cases p l with h | ⟨k, h, h1, h2⟩
   ·left
    intro c hc
    rcases List.mem_cons.1 hc with rfl | hc
    ·exact hb
    ·exact h c hc
   ·right
    refine ⟨k + 1, by simpa using h, by simpa using h1, fun c hc => ?_⟩
    rw [List.take_succ_cons] at hc
    rcases List.mem_cons.1 hc with rfl | hc
    ·exact hb
    ·exact h2 c hc
  ·exact .inr ⟨0, by simp, hb, by simp⟩
theorem filter_nv {l : List Bx} (h : ∀ b ∈ l, nvld b = false) : l.filter vld = l := List.filter_eq_self.2 fun b hb => by have := h b hb; unfold nvld at this; simpa using this
theorem set_front {m x : List Bx} {i _j : Nat} {b : Bx} (h1 : m.take i = x) (_hx : x.length = i) (hi : i < m.length) : (m.set i b).take (i + 1) = x ++ [b] := by
 rw [List.take_succ_eq_append_getElem (by simpa using hi), List.getElem_set_self, List.take_set_of_le (Nat.le_refl _), h1]
set_option maxHeartbeats 4000000 in
theorem delf_any {g c : Nat} {l : List Bx} (w : World) (ht : Tops w) (hg : 0 ≠ g) (hr : w.ownsRow 0 98 10 (.slice (some ⟨g, 0, none⟩) l.length c) l.length (cellsB l)) (hl : l.length ≤ 1000000000000) :
  Calls Tryz.prog 187 #[.slice (some ⟨g, 0, none⟩) l.length c, .func (.func 189) #[] #[]] w (DelPost w g l.length c (l.filter vld)) := by
 have hO := own_takeRow hr [] (by simp)
 have hM : 0 ∉ [g] := by simpa using hg
 have hlc : l.length ≤ c := by
  rcases row_form hr with ⟨h, _⟩ | ⟨g', c', h, h2, _⟩
  ·cases h
  ·cases h; exact h2
 change Own [g] w [] _ [] w at hO
 have h1 := fun w ht hv => idxv_any (vl := .slice (some ⟨g, 0, none⟩) l.length c) (l := l) w ht hv hl
 clear hr
 rcases idx_cases nvld l with hall | ⟨k0, hk0, hp0, hf0⟩
 ·go_enter Tryz.func187, Tryz.ntmps187
  go_wp2_with (go_at_call 191; (with_reducible refine (h1 _ (hO.tops ht hM) (own_boxes hO List.mem_cons_self)).mono ?_); rintro e wv ⟨⟨i, rfl, hi⟩, hb9⟩; obtain rfl := hi.none hall; replace hO := hO.call hb9; clear hb9 h1 hi)
  go_ret
  rw [filter_nv hall]
  exact ⟨cellsB l, rfl, hO.keep, hO.row _ List.mem_cons_self, by rw [← cellsB_length, List.take_length]⟩
 ·have hv0 : nvld l[k0] = true := hp0
  have hf1 := filter_nv hf0
  have s0 : IntKind.i64.wrap ((k0 : Int) + 1) = (k0 : Int) + 1 := IntWalk.i64_in _ (by omega)
  have g0 : ((k0 : Int) == -1) = false := by ((simp; done))
  have hlen0 : ((l.take (k0 + 1)).filter vld).length = k0 := by
   have hvf : vld l[k0] = false := by unfold nvld at hv0; simpa using hv0
   rw [filter_take hk0, hf1, hvf]; simp; omega
  have htk0 : l.take k0 = (l.take (k0 + 1)).filter vld := by
   have hvf : vld l[k0] = false := by unfold nvld at hv0; simpa using hv0
   rw [filter_take hk0, hf1, hvf]; simp
  go_enter Tryz.func187, Tryz.ntmps187
  go_wp2_with (go_at_call 191; (with_reducible refine (h1 _ (hO.tops ht hM) (own_boxes hO List.mem_cons_self)).mono ?_); rintro e wv ⟨⟨i, rfl, hi⟩, hb9⟩; obtain rfl := hi.some hk0 hp0 hf0; replace hO := hO.call hb9; clear hb9 h1 hi)
  go_loopw [5, 6] (fun q5 q6 wr => ∃ (i j : Nat) (m : List Bx), i < j ∧ j ≤ l.length ∧ q5 = .int .i64 i ∧ q6 = .int .i64 j ∧ m.length = l.length ∧ Hid (m.take i = (l.take j).filter vld) ∧ Hid (((l.take j).filter vld).length = i) ∧ Hid (m.drop j = l.drop j) ∧ Own [g] w [] [⟨.slice (some ⟨g, 0, none⟩) l.length c, l.length, cellsB m, 98, 10⟩] [] wr) (fun _ q6 _ => l.length - (intOf q6).toNat)
  case atStart => exact ⟨k0, k0 + 1, l, by omega, by omega, rfl, by (rfl), rfl, Lib.hid htk0, Lib.hid hlen0, Lib.hid rfl, hO⟩
  case round =>
   clear hO s0 g0 hlen0 htk0
   obtain ⟨i, j, m, hij, hj, rfl, rfl, hm, H1, H2, H3, hO⟩ := hrel
   have s1 : IntKind.i64.wrap ((i : Int) + 1) = (i : Int) + 1 := IntWalk.i64_in _ (by omega)
   have s2 : IntKind.i64.wrap ((j : Int) + 1) = (j : Int) + 1 := IntWalk.i64_in _ (by omega)
   by_cases hlt : j < l.length
   ·have hjm : j < m.length := by omega
    have hmj : m[j] = l[j] := by
     have := H3.out
     have e : (m.drop j)[0]? = (l.drop j)[0]? := by rw [this]
     rw [List.getElem?_drop, List.getElem?_drop, Nat.add_zero, List.getElem?_eq_getElem hjm, List.getElem?_eq_getElem hlt] at e
     exact Option.some.inj e
    have t1 := tk_box m hjm
    rw [hmj] at t1
    have HF := Lib.hid (filter_take (p := vld) hlt)
    have HD := Lib.hid (show m.drop (j + 1) = l.drop (j + 1) by
     have := congrArg (List.drop 1) H3.out
     rwa [List.drop_drop, List.drop_drop] at this)
    have him : i < m.length := by omega
    have hn := cellsB_set him l[j]
    have hsz : i * 10 + 10 ≤ (cellsB m).length := by rw [cellsB_length]; omega
    cases hp : nvld l[j]
    ·have hvt : vld l[j] = true := by unfold nvld at hp; simpa using hp
     rw [hvt, if_pos rfl] at HF
     go_wp2_with (first | refine ldN ?_ | (refine stN hO ?_; clear hO; intro wv hO) | (refine al9 7 hO ?_; clear hO; intro n7 wv hO) | (go_at_call 189; refine (validf_any _ _ (hO.tops ht hM)).mono ?_; rintro e wv ⟨rfl, hb⟩; replace hO := hO.call hb; clear hb) | ((with_reducible refine is_store ?_); (go_must (refine own_stRw hO (h := ?_))); clear hO; intro wv hO))
     go_roundw
     case rel =>
      refine ⟨i + 1, j + 1, m.set i l[j], by omega, by omega, by go_num, by go_num, by simpa using hm, Lib.hid ?_, Lib.hid ?_, Lib.hid ?_, hO.sub (.cons _ (.refl _)) (.refl _) (fun _ h => h)⟩
      ·rw [HF.out]; exact set_front (_j := j) H1.out H2.out him
      ·rw [HF.out, List.length_append, H2.out]; rfl
      ·rw [List.drop_set_of_lt (by omega)]; exact HD.out
     case measure => simp [intOf]; omega
    ·have hvt : vld l[j] = false := by unfold nvld at hp; simpa using hp
     rw [hvt, if_neg Bool.false_ne_true, List.append_nil] at HF
     go_wp2_with (first | refine ldN ?_ | (refine stN hO ?_; clear hO; intro wv hO) | (refine al9 7 hO ?_; clear hO; intro n7 wv hO) | (go_at_call 189; refine (validf_any _ _ (hO.tops ht hM)).mono ?_; rintro e wv ⟨rfl, hb⟩; replace hO := hO.call hb; clear hb))
     go_roundw
     case rel => exact ⟨i, j + 1, m, by omega, by omega, rfl, by go_num, hm, Lib.hid (by rw [HF.out]; exact H1.out), Lib.hid (by rw [HF.out]; exact H2.out), HD, hO.sub (.cons _ (.refl _)) (.refl _) (fun _ h => h)⟩
     case measure => simp [intOf]; omega
   ·have hj2 : j = l.length := by omega
    subst hj2
    have hil : i < c := by omega
    have hsz : i * 10 + (l.length - i) * 10 ≤ (cellsB m).length := by rw [cellsB_length]; omega
    go_wp2_with ((with_reducible refine is_clear ?_); (refine own_clear (xs := cellsB m) hO rfl rfl slice_Boxes zone_box rfl (fun _ => by repeat (exact UpdR.here)) (by omega) (by (assumption)) ?_); clear hO; intro ys wv hy1 hy2 hO)
    go_ret
    have h1 := H1.out
    have h2 := H2.out
    rw [List.take_length] at h1 h2
    rw [← h1]
    have hti : (m.take i).length = i := by simp; omega
    refine ⟨ys, by rw [hti]; rfl, hO.keep, hO.row _ List.mem_cons_self, ?_⟩
    rw [hti, hy2, cellsB_take]
set_option maxHeartbeats 2000000 in
theorem delnil_any (w : World) (ht : Tops w) :
  Calls Tryz.prog 187 #[.slice none 0 0, .func (.func 189) #[] #[]] w fun e w' => e = .returned (.slice none 0 0) ∧ Below w.heap.size w w' := by
 have hO := own_start [] w
 have h1 := fun w ht => idxv_any (vl := .slice none 0 0) (l := []) w ht (.inl ⟨rfl, rfl⟩) (by simp)
 go_enter Tryz.func187, Tryz.ntmps187
 go_wp2_with (go_at_call 191; (with_reducible refine (h1 _ (hO.tops ht (by simp))).mono ?_); rintro e wv ⟨⟨i, rfl, hi⟩, hb9⟩; obtain rfl := hi.none (by simp); replace hO := hO.call hb9; clear hb9 h1 hi)
 go_ret
 exact ⟨rfl, hO.keep.below⟩
theorem del_any {v : Value} {l : List Bx} {base : Nat} (w : World) (ht : Tops w) (hb : 0 < base) (hr : w.ownsRow base 98 10 v l.length (cellsB l)) (hl : l.length ≤ 1000000000000) :
  Calls Tryz.prog 187 #[v, .func (.func 189) #[] #[]] w fun e w' => ∃ v' ys, e = .returned v' ∧ Keep v.ownBlock.toList w w' ∧ w'.ownsRow 0 98 10 v l.length ys ∧ IsBoxes w' v' (l.filter vld) ∧ ∀ g, v'.ownBlock = some g → base ≤ g := by
 rcases row_form hr with ⟨rfl, h0⟩ | ⟨g, c, rfl, hc, hg⟩
 ·obtain rfl := List.length_eq_zero_iff.1 h0
  refine (delnil_any w ht).mono ?_
  rintro e w' ⟨rfl, hb9⟩
  exact ⟨_, [], rfl, keep_of_below hb9 _, ⟨rfl, .inl ⟨rfl, rfl⟩⟩, .inl ⟨rfl, rfl⟩, fun g hg => by cases hg⟩
 ·refine (delf_any w ht (by omega) (row_base hr) hl).mono ?_
  rintro e w' ⟨ys, rfl, hk, hr', hy⟩
  refine ⟨_, ys, rfl, hk, hr', ?_, fun g' hg' => by cases hg'; exact hg⟩
  have h1 := (own_takeRow hr' [] (by simp)).rowIs List.mem_cons_self
  have h2 := h1.sub (i := 0) (n := (l.filter vld).length) (c' := c) (ys := cellsB (l.filter vld)) (by rw [List.drop_zero, cellsB_length]; exact hy) (Nat.le_trans (List.length_filter_le _ _) hc)
  exact isCells_boxes.2 h2
def valF (l : List Bx) : List Bx := l.filter vld
set_option maxHeartbeats 2000000 in
theorem vals_any {vl : Value} {l : List Bx} (w : World) (ht : Tops w) (hv : IsBoxes w vl l) (hl : l.length ≤ 1000000000000) :
  Calls Tryz.prog 145 #[vl] w (RetBoxes w (valF l)) := by
 have hO := own_start [] w
 have h1 := fun w hv => clone_any (vl := vl) (l := l) w hv hl
 have hlt := ht.lt
 go_enter Tryz.func145, Tryz.ntmps145
 go_wp2_with (first | (go_at_call 188; (with_reducible refine (h1 _ (hv.keep hO.keep)).mono ?_); rintro e wv ⟨v, rfl, hrow, hb9⟩; have hbs := Nat.lt_of_lt_of_le hlt hO.keep.size; replace hO := hO.gainRow hb9 hrow; have hkb := hb9.size; clear hb9 h1) | (go_at_call 187; (with_reducible refine (del_any _ (hO.tops ht (by simp)) hbs hrow hl).mono ?_); rintro e wv ⟨v', ys, rfl, hk, hr, hbx, hnew⟩; replace hO := hO.afterRow .here hk hr; clear hrow))
 go_ret
 exact ⟨_, rfl, ⟨hbx, fun g hg => Nat.le_trans (by (exact Nat.le_refl _)) (hnew g hg)⟩, hO.keep.below⟩
def hasH (h : Hd) (b : Bx) : Bool := hasB b h
theorem row_hd {w : World} {n : Nat} {h : Hd} (hb : Blk w n (hcs h) 48) : w.rangeAt n 0 (hcs h) := fun j u hj => by rw [hb.cell]; simpa using hj
theorem cf_any (b : Bx) (n : Nat) (h : Hd) (w : World) (ht : Tops w) (hb : Blk w n (hcs h) 48) (ho : h.ok) : Calls Tryz.prog 148 #[bv b, .pointer (some ⟨n, 0, none⟩)] w fun e w' => e = .returned (.bool (hasH h b)) ∧ Below w.heap.size w w' := by
 have hO := (own_start [] w).addRo ⟨n, 0, hcs h⟩ (row_hd hb) (by simp [excl])
 clear hb
 go_enter Tryz.func148, Tryz.ntmps148
 go_wp2_with (first | refine ldN ?_ | (refine bx9 2 hO ?_; clear hO; intro n2 wv hO) | (go_at_call 149; refine (contains_any _ ⟨_, _, _, _, _⟩ _ (hO.tops ht (by simp)) ho).mono ?_; rintro e wv ⟨rfl, hb⟩; replace hO := hO.call hb; clear hb))
 go_ret
 exact ⟨rfl, hO.keep.below⟩
set_option maxHeartbeats 2000000 in
theorem idxc_any {vl : Value} {l : List Bx} {n : Nat} {h : Hd} (w : World) (ht : Tops w) (hb : Blk w n (hcs h) 48) (ho : h.ok) (hv : IsBoxes w vl l) (hl : l.length ≤ 1000000000000) :
  Calls Tryz.prog 191 #[vl, (.func (.func 148) #[] #[.pointer (some ⟨n, 0, none⟩)])] w fun e w' => (∃ i, e = .returned (.int .i64 i) ∧ IdxPost (hasH h) l i) ∧ Below w.heap.size w w' := by
 have hO := own_arg hv
 obtain ⟨a, c, rfl, ha⟩ := hv.view
 clear hv
 go_enter Tryz.func191, Tryz.ntmps191
 go_wp2_with fail
 go_loopw [8] (fun i wr => ∃ k : Nat, k ≤ l.length ∧ i = .int .i64 k ∧ (∀ b ∈ l.take k, (hasH h) b = false) ∧ Own [] w [] [] (roS (.slice a l.length c) (cellsB l)) wr) (fun i _ => l.length - (intOf i).toNat)
 case atStart => exact ⟨0, by omega, rfl, by simp, hO⟩
 case round =>
  clear hO
  obtain ⟨k, hk, rfl, hE, hO⟩ := hrel
  by_cases hlt : k < l.length
  ·obtain ⟨g, o, rfl⟩ := ha (by omega)
   simp only [roS] at hO
   cases hp : (hasH h) l[k]
   ·go_wp2_with (first | refine ldN ?_ | (go_at_call 148; refine (cf_any _ _ _ _ (hO.tops ht (by simp)) (hb.below hO.keep.below hb.lt) ho).mono ?_; rintro e wv ⟨rfl, hb⟩; replace hO := hO.call hb; clear hb))
    go_roundw
    case rel =>
     refine ⟨k + 1, by omega, by go_num, ?_, hO⟩
     rw [List.take_succ_eq_append_getElem hlt]
     intro b hb
     rcases List.mem_append.1 hb with hb | hb
     ·exact hE b hb
     ·rw [List.mem_singleton.1 hb]; exact hp
    case measure => simp [intOf]; omega
   ·go_wp2_with (first | refine ldN ?_ | (go_at_call 148; refine (cf_any _ _ _ _ (hO.tops ht (by simp)) (hb.below hO.keep.below hb.lt) ho).mono ?_; rintro e wv ⟨rfl, hb⟩; replace hO := hO.call hb; clear hb))
    go_ret
    exact ⟨⟨_, rfl, .inr ⟨k, hlt, rfl, hp, hE⟩⟩, hO.keep.below⟩
  ·have hk2 : k = l.length := by omega
   rw [hk2, List.take_length] at hE
   go_wp2_with fail
   go_ret
   exact ⟨⟨_, rfl, .inl ⟨rfl, hE⟩⟩, hO.keep.below⟩
theorem confun_any {vl : Value} {l : List Bx} {n : Nat} {h : Hd} (w : World) (ht : Tops w) (hb : Blk w n (hcs h) 48) (ho : h.ok) (hv : IsBoxes w vl l) (hl : l.length ≤ 1000000000000) :
  Calls Tryz.prog 147 #[vl, (.func (.func 148) #[] #[.pointer (some ⟨n, 0, none⟩)])] w fun e w' => e = .returned (.bool (l.any (hasH h))) ∧ Below w.heap.size w w' := by
 have hO := own_start [] w
 have h1 := fun w ht hb hv => idxc_any (vl := vl) (l := l) (n := n) w ht hb ho hv hl
 have E : ∀ i, IdxPost (hasH h) l i → decide (0 ≤ i) = l.any (hasH h) := by
  intro i hi
  rcases hi with ⟨rfl, h⟩ | ⟨k, hk, rfl, h, _⟩
  ·symm; simp only [List.any_eq_false, Int.reduceNeg, Int.reduceLE, decide_false]; intro x hx; rw [h x hx]; exact Bool.false_ne_true
  ·have : l.any (hasH ‹Hd›) = true := List.any_eq_true.2 ⟨_, List.getElem_mem hk, h⟩
   rw [this]; simp
 go_enter Tryz.func147, Tryz.ntmps147
 go_wp2_with (go_at_call 191; (with_reducible refine (h1 _ (hO.tops ht (by simp)) (hb.below hO.keep.below hb.lt) (hv.keep hO.keep)).mono ?_); rintro e wv ⟨⟨i, rfl, hi⟩, hb9⟩; replace hO := hO.call hb9; clear hb9 h1; replace E := E i hi; clear hi)
 go_ret
 exact ⟨by rw [← E]; rfl, hO.keep.below⟩
set_option maxHeartbeats 2000000 in
theorem psContains_any {vl : Value} {l : List Bx} (h : Hd) (w : World) (ht : Tops w) (ho : h.ok) (hvl : IsBoxes w vl l) (hl : l.length ≤ 1000000000000) :
  Calls Tryz.prog 87 #[vl, hv h] w fun e w' => e = .returned (.bool (l.any (hasH h))) ∧ Below w.heap.size w w' := by
 have hO := own_start [] w
 have h1 := fun n w ht hb hv => confun_any (vl := vl) (l := l) (n := n) w ht hb ho hv hl
 have hmf : ∀ (fn : Fn) (first cap : Array Value) (w : World), (Instr.makeFunc fn first cap).run Tryz.prog w = .ok (.func fn first cap) w := fun _ _ _ _ => rfl
 go_enter Tryz.func87, Tryz.ntmps87
 go_wp2_with (first | (refine bx9 3 hO ?_; clear hO; intro n3 wv hO) | (go_at_call 147; (with_reducible refine (h1 _ _ (hO.tops ht (by simp)) (hO.chunk _ List.mem_cons_self) (hvl.keep hO.keep)).mono ?_); rintro e wv ⟨rfl, hb9⟩; replace hO := hO.call hb9; clear hb9 h1))
 go_ret
 exact ⟨rfl, hO.keep.below⟩
end Go.Proofs.YtbdfblgdmappeaaGreatDoor
