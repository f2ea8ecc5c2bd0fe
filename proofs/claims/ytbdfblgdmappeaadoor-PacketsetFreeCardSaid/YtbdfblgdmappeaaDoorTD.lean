/- The reference of intervals: Contains, Union; both unions are the same list. -/
import Derived.Test.YtbdfblgdmappeaaDoorTC
import Derived.Test.YtbdfblgdmappeaaDoorTA
import Derived.Test.YtbdfblgdmappeaaDoorPA
import Derived.Test.YtbdfblgdmappeaaDoorME
import Derived.Test.YtbdfblgdmappeaaDoorNC
namespace Go.Proofs.YtbdfblgdmappeaaDoor
open Go.RowKit
set_option maxRecDepth 100000
def memB (l : List Rg) (v : Int) : Bool := l.any fun r => decide (r.lo ≤ v) && decide (v ≤ r.hi)
theorem memB_iff {l : List Rg} {v : Int} : memB l v = true ↔ memR l v := by
 unfold memB memR
 rw [List.any_eq_true]
 simp only [Bool.and_eq_true, decide_eq_true_iff]
theorem memB_here {l : List Rg} {v : Int} {k : Nat} (h : k < l.length) (h1 : l[k].lo ≤ v) (h2 : v ≤ l[k].hi) : memB l v = true := memB_iff.2 ⟨_, List.getElem_mem h, h1, h2⟩
theorem memB_not {l : List Rg} {v : Int} (h : ∀ j (hj : j < l.length), ¬ (l[j].lo ≤ v ∧ v ≤ l[j].hi)) : memB l v = false := by
 rw [Bool.eq_false_iff]
 intro hm
 obtain ⟨r, hr, h1⟩ := memB_iff.1 hm
 obtain ⟨j, hj, rfl⟩ := List.getElem_of_mem hr
 exact h j hj h1
def canU (l : List Rg) : List Rg := keepK (memB l) 4294967295 (ptsR 4294967295 l) (ptsR 4294967295 l).length
theorem canU_is {l : List Rg} (hb : ∀ r ∈ l, 0 ≤ r.lo ∧ r.lo ≤ 4294967295 ∧ 0 ≤ r.hi ∧ r.hi ≤ 4294967295) : IsCanOf l (canU l) :=
 keepK_can (by decide) (fun r hr => ⟨(hb r hr).1, (hb r hr).2.2.2⟩) fun _ _ => memB_iff
theorem unionU_any {va vb : Value} {la lb : List Rg} (w : World) (hva : IsCells w va la.length (rcs la)) (hvb : IsCells w vb lb.length (rcs lb)) (na : la.length ≤ 10000000000) (nb : lb.length ≤ 10000000000)
  (ba : ∀ r ∈ la, 0 ≤ r.lo ∧ r.lo ≤ 4294967295 ∧ 0 ≤ r.hi ∧ r.hi ≤ 4294967295) (bb : ∀ r ∈ lb, 0 ≤ r.lo ∧ r.lo ≤ 4294967295 ∧ 0 ≤ r.hi ∧ r.hi ≤ 4294967295) :
  Calls Tryd.prog 36 #[va, vb] w (RetRgs w (canU (la ++ lb))) :=
 (union_any w hva hvb na nb ba bb).mono fun e w' ⟨c, hc, h⟩ => by
  rwa [hc.uniq (canU_is (l := la ++ lb) fun r hr => (List.mem_append.1 hr).elim (ba r) (bb r))] at h
theorem own_cellsA {w : World} {X : List Chunk} {R : List Row} {S : List Ro} {w0 : World} (hO : Own [] w0 X R S w) {v : Value} {n : Nat} {xs : List Value} (h : IsCells w0 v n xs) : Own [] w0 X R (roS v xs ++ S) w := by
 rcases h with ⟨rfl, _, rfl⟩ | ⟨g, o, c, rfl, _, hr⟩
 ·exact hO
 ·exact hO.addOld ⟨g, o, xs⟩ hr
theorem formC_view {v : Value} {n : Nat} (h : FormC v n) : ∃ a c, v = .slice a n c ∧ (0 < n → ∃ g o, a = some ⟨g, o, none⟩) := by
 rcases h with ⟨rfl, h2⟩ | ⟨g, o, c, rfl, _⟩
 ·exact ⟨none, 0, by rw [h2], fun h => by omega⟩
 ·exact ⟨_, _, rfl, fun _ => ⟨_, _, rfl⟩⟩
set_option maxHeartbeats 4000000 in
theorem rctn_any {vl : Value} {l : List Rg} (v : Int) (w : World) (hv : IsCells w vl l.length (rcs l)) (hn : l.length ≤ 100000000000) :
  Calls Tryd.prog 17 #[vl, .int .u32 v] w fun e w' => e = .returned (.bool (memB l v)) ∧ Below w.heap.size w w' := by
 have hO := own_cellsA (own_start [] w) hv
 obtain ⟨a, c, rfl, ha⟩ := formC_view (isCells_form hv)
 simp only [List.append_nil] at hO
 clear hv
 go_enter Tryd.func17, Tryd.ntmps17
 go_wp2_with fail
 go_loopw [5] (fun q wr => ∃ i : Nat, i ≤ l.length ∧ q = .int .i64 i ∧ Hid (∀ j (hj : j < l.length), j < i → ¬ (l[j].lo ≤ v ∧ v ≤ l[j].hi)) ∧ Own [] w [] [] (roS (.slice a l.length c) (rcs l)) wr) (fun q _ => l.length - (intOf q).toNat)
 case atStart => exact ⟨0, by omega, rfl, Lib.hid fun j _ h => by omega, hO⟩
 case round =>
  clear hO
  obtain ⟨i, hi, rfl, HN, hO⟩ := hrel
  have s4 : IntKind.i64.wrap ((i : Int) + 1) = (i : Int) + 1 := IntWalk.i64_in _ (by omega)
  by_cases hlt : i < l.length
  ·obtain ⟨gl, ol, rfl⟩ := ha (by omega)
   simp only [roS] at hO
   obtain ⟨u1, u2⟩ := rcs_at hlt
   have HY : Hid (l[i].lo ≤ v → v ≤ l[i].hi → memB l v = true) := Lib.hid (memB_here hlt)
   have HX : Hid (¬ (l[i].lo ≤ v ∧ v ≤ l[i].hi) → ∀ j (hj : j < l.length), j < i + 1 → ¬ (l[j].lo ≤ v ∧ v ≤ l[j].hi)) := Lib.hid fun h j hj hj1 => by
    by_cases e : j = i
    ·subst e; exact h
    ·exact HN.out j hj (by omega)
   generalize l[i] = r9 at *
   by_cases h1 : r9.lo ≤ v
   ·by_cases h2 : v ≤ r9.hi
    ·have g1 : decide (r9.lo ≤ v) = true := decide_eq_true h1
     have g2 : decide (v ≤ r9.hi) = true := decide_eq_true h2
     have HE := Lib.hid (HY.out h1 h2)
     go_wp2_with (refine ldN ?_)
     go_ret
     exact ⟨by rw [HE.out]; rfl, hO.keep.below⟩
    ·have g1 : decide (r9.lo ≤ v) = true := decide_eq_true h1
     have g2 : decide (v ≤ r9.hi) = false := decide_eq_false h2
     go_wp2_with (refine ldN ?_)
     go_roundw
     case rel => exact ⟨i + 1, by omega, by go_num, Lib.hid (HX.out fun h => h2 h.2), hO⟩
     case measure => simp [intOf]; omega
   ·have g1 : decide (r9.lo ≤ v) = false := decide_eq_false h1
    go_wp2_with (refine ldN ?_)
    go_roundw
    case rel => exact ⟨i + 1, by omega, by go_num, Lib.hid (HX.out fun h => h1 h.1), hO⟩
    case measure => simp [intOf]; omega
  ·obtain rfl : i = l.length := by omega
   have HE : Hid (memB l v = false) := Lib.hid (memB_not fun j hj => HN.out j hj hj)
   go_wp2_with fail
   go_ret
   exact ⟨by rw [HE.out]; rfl, hO.keep.below⟩
theorem rcs_nil_of (l : List Rg) : l.length = 0 → rcs l = [] := fun h => by rw [List.length_eq_zero_iff.1 h]; rfl
def projF (l : List Bx) (f : Int) : List Rg := if 0 ≤ f ∧ f < 5 then canU (rgs f.toNat (valF l)) else []
theorem rgs_bound {l : List Bx} (kl : vL l) {f : Nat} (hf : f < 5) : ∀ r ∈ rgs f l, 0 ≤ r.lo ∧ r.lo ≤ 4294967295 ∧ 0 ≤ r.hi ∧ r.hi ≤ 4294967295 := fun r hr => by
 obtain ⟨b, hb, rfl⟩ := List.mem_map.1 hr
 have h1 := kl b hb f hf
 have h2 := topOf_le f
 omega
theorem bcs_two (b : Bx) {k : Nat} (h : k < 5) : ((bcs b).drop (k * 2)).take ([.int .u32 (b.at k).lo, .int .u32 (b.at k).hi] : List Value).length = [.int .u32 (b.at k).lo, .int .u32 (b.at k).hi] := by
 rcases (show k = 0 ∨ k = 1 ∨ k = 2 ∨ k = 3 ∨ k = 4 by omega) with rfl | rfl | rfl | rfl | rfl <;> rfl
theorem keepK_len {p : Int → Bool} {top : Int} {s : List Int} : ∀ k, (keepK p top s k).length ≤ k
 | 0 => by simp [keepK]
 | k + 1 => by
  have h := keepK_len (p := p) (top := top) (s := s) k
  have h2 : ∀ lo hi, (addK (keepK p top s k) lo hi).length ≤ k + 1 := fun lo hi => by
   rcases snoc_cases (keepK p top s k) with e | ⟨A, q, e⟩
   ·rw [e, addK_nil]; simp
   ·rw [e] at h
    rw [e]
    by_cases hc : q.hi + 1 = lo
    ·rw [addK_join hc]; simp at h ⊢; omega
    ·rw [addK_apart hc]; simp at h ⊢; omega
  rw [keepK]
  split
  ·split
   ·exact h2 _ _
   ·omega
  ·omega
theorem projF_len {l : List Bx} {f : Int} (_kl : okL l) (hl : l.length ≤ 1000000000) : (projF l f).length ≤ 100000000000 := by
 unfold projF
 split
 ·have h1 := keepK_len (p := memB (rgs f.toNat (valF l))) (top := 4294967295) (s := ptsR 4294967295 (rgs f.toNat (valF l))) (ptsR 4294967295 (rgs f.toNat (valF l))).length
  have h2 := ptsR_len 4294967295 (rgs f.toNat (valF l)) (rgs f.toNat (valF l)).length (Nat.le_refl _)
  rw [List.take_length] at h2
  have h3 := valF_le l
  have h4 := rgs_length f.toNat (valF l)
  unfold canU
  omega
 ·simp
set_option maxHeartbeats 8000000 in
theorem psproject_any {vl : Value} {l : List Bx} (f : Int) (w : World) (ht : Tops w) (hv : IsBoxes w vl l) (kl : okL l) (hl : l.length ≤ 1000000000) :
  Calls Tryd.prog 12 #[vl, .int .i64 f] w (RetRgs w (projF l f)) := by
 have hO := own_start [] w
 by_cases h0 : f < 0
 ·have g1 : decide (f < 0) = true := decide_eq_true h0
  have e0 : projF l f = [] := if_neg (by omega)
  rw [e0]
  go_enter Tryd.func12, Tryd.ntmps12
  go_wp2_with fail
  go_ret
  exact ⟨_, rfl, ⟨.inl ⟨rfl, rfl, rfl⟩, fun g h => by cases h⟩, hO.keep.below⟩
 have g1 : decide (f < 0) = false := decide_eq_false h0
 by_cases h5 : 5 ≤ f
 ·have g2 : decide (5 ≤ f) = true := decide_eq_true h5
  have e0 : projF l f = [] := if_neg (by omega)
  rw [e0]
  go_enter Tryd.func12, Tryd.ntmps12
  go_wp2_with fail
  go_ret
  exact ⟨_, rfl, ⟨.inl ⟨rfl, rfl, rfl⟩, fun g h => by cases h⟩, hO.keep.below⟩
 have g2 : decide (5 ≤ f) = false := decide_eq_false h5
 obtain ⟨k, rfl⟩ : ∃ k : Nat, f = k := ⟨f.toNat, by omega⟩
 have hk : k < 5 := by omega
 have e0 : projF l k = canU (rgs k (valF l)) := if_pos (by omega)
 have h1 := fun w ht hv => vals_any (vl := vl) (l := l) w ht hv (by omega)
 have nV := valF_le l
 have h3 : ∀ v w, IsCells w v (rgs k (valF l)).length (rcs (rgs k (valF l))) → Calls Tryd.prog 36 #[v, .slice none 0 0] w (RetRgs w (projF l k)) := fun v w hv => by
  have := unionU_any (vb := .slice none 0 0) (lb := []) w hv (.inl ⟨rfl, rfl, rfl⟩) (by rw [rgs_length]; omega) (by simp) (rgs_bound (valF_vL kl) hk) (fun _ h => by cases h)
  rwa [List.append_nil, ← e0] at this
 clear e0 kl
 generalize projF l k = P at *
 generalize valF l = V at *
 go_enter Tryd.func12, Tryd.ntmps12
 go_wp2_with (go_at_call 35; (with_reducible refine (h1 _ (hO.tops ht (by simp)) (hv.keep0 hO)).mono ?_); rintro e wv ⟨v1, rfl, ⟨hv9, hn9⟩, hb9⟩; have hf1 := hv9.form; replace hO := hO.gainB hb9 hv9 hn9; clear hb9 hv9 hn9 h1; obtain ⟨a1, c1, rfl, ha1⟩ := hf1.view)
 replace hO := hO.nilRow 43 2
 go_loopw [5, 17] (fun r q wr => ∃ i : Nat, i ≤ V.length ∧ q = .int .i64 i ∧ Own [] w [] [⟨r, i, rcs (rgs k (V.take i)), 43, 2⟩] (roS (.slice a1 V.length c1) (cellsB V)) wr) (fun _ q _ => V.length - (intOf q).toNat)
 case atStart => exact ⟨0, by omega, rfl, hO.sub (.refl _) (.refl _) (fun q hq => List.mem_append_left _ hq)⟩
 case round =>
  clear hO
  obtain ⟨i, hi, rfl, hO⟩ := hrel
  have s4 : IntKind.i64.wrap ((i : Int) + 1) = (i : Int) + 1 := IntWalk.i64_in _ (by omega)
  by_cases hlt : i < V.length
  ·obtain ⟨g, o, rfl⟩ := ha1 (by omega)
   simp only [roS] at hO
   have y1 : (0 : Int) ≤ (k : Int) := by omega
   have y2 : (k : Int) < 5 := by omega
   have HT := Lib.hid (rgs_take (f := k) hlt)
   have t1 := tk_box V hlt
   have hm : (rgs k (V.take i)).length = i := by rw [rgs_length, List.length_take]; omega
   generalize rgs k (V.take i) = m at *
   have t2 := bcs_two V[i] hk
   generalize V[i] = b at *
   go_wp2_with (first | refine ldN ?_ | (refine stN hO ?_; clear hO; intro wv hO) | (refine al9 7 hO ?_; clear hO; intro n7 wv hO) | (refine' own_build1 (o := ⟨some 25, _, _, _, _, _⟩) hO (by rfl) rfl rfl ?hu ?hf ?_; (case hu => (exact und_Ranges)); (case hf => kernel_rfl); clear hO; intro n25 wv hO) | (refine ap9 26 hO ?_; clear hO; intro g26 c26 wv hO))
   go_roundw
   case rel =>
    refine ⟨i + 1, by omega, by go_num, ?_⟩
    rw [HT.out, rcs_append, rcs_one]
    exact hO.sub (.cons _ (.cons _ (.refl _))) (.refl _) (fun _ h => h)
   case measure => simp [intOf]; omega
  ·obtain rfl : i = V.length := by omega
   rw [List.take_length] at hO
   go_wp2_with (go_at_call 36; (with_reducible refine (h3 _ _ (own_rgs hO List.mem_cons_self)).mono ?_); rintro e wv ⟨v3, rfl, ⟨hv8, hn8⟩, hb9⟩; have hs9 := hO.keep.size; replace hO := hO.call hb9; clear hb9 h3)
   go_ret
   exact ⟨_, rfl, ⟨hv8, fun g hg => Nat.le_trans hs9 (hn8 g hg)⟩, hO.keep.below⟩
end Go.Proofs.YtbdfblgdmappeaaDoor
