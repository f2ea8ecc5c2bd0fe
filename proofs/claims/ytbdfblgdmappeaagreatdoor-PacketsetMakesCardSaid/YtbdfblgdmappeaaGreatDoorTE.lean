/- packetset.Project and its reference. -/
import Derived.Test.YtbdfblgdmappeaaGreatDoorTD
import Derived.Test.YtbdfblgdmappeaaGreatDoorME
import Derived.Test.YtbdfblgdmappeaaGreatDoorNC
import Derived.Test.YtbdfblgdmappeaaGreatDoorOF
import Derived.Test.YtbdfblgdmappeaaGreatDoorMV
import Derived.Test.YtbdfblgdmappeaaGreatDoorNJ
import Derived.Test.YtbdfblgdmappeaaGreatDoorMR
import Derived.Test.YtbdfblgdmappeaaGreatDoorRA
namespace Go.Proofs.YtbdfblgdmappeaaGreatDoor
open Go.RowKit
set_option maxRecDepth 100000
def projF (l : List Bx) (f : Int) : List Rg := if 0 ≤ f ∧ f < 5 then canU (rgs f.toNat (valF l)) else []
theorem rgs_bound {l : List Bx} (kl : vL l) {f : Nat} (hf : f < 5) : ∀ r ∈ rgs f l, 0 ≤ r.lo ∧ r.lo ≤ 4294967295 ∧ 0 ≤ r.hi ∧ r.hi ≤ 4294967295 := fun r hr => by
 obtain ⟨b, hb, rfl⟩ := List.mem_map.1 hr
 have h1 := kl b hb f hf
 have h2 := topOf_le f
 omega
theorem bcs_two (b : Bx) {k : Nat} (h : k < 5) : ((bcs b).drop (k * 2)).take ([.int .u32 (b.at k).lo, .int .u32 (b.at k).hi] : List Value).length = [.int .u32 (b.at k).lo, .int .u32 (b.at k).hi] := by
 rcases (show k = 0 ∨ k = 1 ∨ k = 2 ∨ k = 3 ∨ k = 4 by omega) with rfl | rfl | rfl | rfl | rfl <;> rfl
theorem keepK_len {p : Int → Bool} {top : Int} {s : List Int} : ∀ k, (keepK p top s k).length ≤ k
 | 0 => by simp [keepK]
 | k + 1 => by
  have h := keepK_len (p := p) (top := top) (s := s) k
  have h2 : ∀ lo hi, (addK (keepK p top s k) lo hi).length ≤ k + 1 := fun lo hi => by
   rcases snoc_cases (keepK p top s k) with e | ⟨A, q, e⟩
   ·rw [e, addK_nil]; simp
   ·rw [e] at h
    rw [e]
    by_cases hc : q.hi + 1 = lo
    ·rw [addK_join hc]; simp at h ⊢; omega
    ·rw [addK_apart hc]; simp at h ⊢; omega
  rw [keepK]
  split
  ·split
   ·exact h2 _ _
   ·omega
  ·omega
theorem projF_len {l : List Bx} {f : Int} (_kl : okL l) (hl : l.length ≤ 1000000000) : (projF l f).length ≤ 100000000000 := by
 unfold projF
 split
 ·have h1 := keepK_len (p := memB (rgs f.toNat (valF l))) (top := 4294967295) (s := ptsR 4294967295 (rgs f.toNat (valF l))) (ptsR 4294967295 (rgs f.toNat (valF l))).length
  have h2 := ptsR_len 4294967295 (rgs f.toNat (valF l)) (rgs f.toNat (valF l)).length (Nat.le_refl _)
  rw [List.take_length] at h2
  have h3 := valF_le l
  have h4 := rgs_length f.toNat (valF l)
  unfold canU
  omega
 ·simp
set_option maxHeartbeats 4000000 in
theorem rproject_any {vl : Value} {l : List Bx} (f : Int) (w : World) (hv : IsBoxes w vl l) (kl : okL l) (hl : l.length ≤ 1000000000) :
  Calls Tryz.prog 96 #[vl, .int .i64 f] w (RetRgs w (projF l f)) := by
 have hO := own_start [] w
 by_cases h0 : f < 0
 ·have g1 : decide (f < 0) = true := decide_eq_true h0
  have e0 : projF l f = [] := if_neg (by omega)
  rw [e0]
  go_enter Tryz.func96, Tryz.ntmps96
  go_wp2_with fail
  go_ret
  exact ⟨_, rfl, ⟨.inl ⟨rfl, rfl, rfl⟩, fun g h => by cases h⟩, hO.keep.below⟩
 have g1 : decide (f < 0) = false := decide_eq_false h0
 by_cases h5 : 5 ≤ f
 ·have g2 : decide (5 ≤ f) = true := decide_eq_true h5
  have e0 : projF l f = [] := if_neg (by omega)
  rw [e0]
  go_enter Tryz.func96, Tryz.ntmps96
  go_wp2_with fail
  go_ret
  exact ⟨_, rfl, ⟨.inl ⟨rfl, rfl, rfl⟩, fun g h => by cases h⟩, hO.keep.below⟩
 have g2 : decide (5 ≤ f) = false := decide_eq_false h5
 obtain ⟨k, rfl⟩ : ∃ k : Nat, f = k := ⟨f.toNat, by omega⟩
 have hk : k < 5 := by omega
 have e0 : projF l k = canU (rgs k (valF l)) := if_pos (by omega)
 have h1 := fun w hv => rvals_any (vl := vl) (l := l) w hv (by omega)
 have nV := valF_le l
 have h2 : ∀ v w, IsBoxes w v (valF l) → Calls Tryz.prog 159 #[v, .slice none 0 0, .int .i64 k] w (RetRgs w (rgs k (valF l))) := fun v w hv => by
  have := ranges_any (vb := .slice none 0 0) (lb := []) (f := k) w hv (.inl ⟨rfl, rfl⟩) hk (by omega) (by simp)
  rwa [show rgs k ([] : List Bx) = [] from rfl, List.append_nil] at this
 have h3 : ∀ v w, IsCells w v (rgs k (valF l)).length (rcs (rgs k (valF l))) → Calls Tryz.prog 158 #[v, .slice none 0 0] w (RetRgs w (projF l k)) := fun v w hv => by
  have := runion_any (vb := .slice none 0 0) (lb := []) w hv (.inl ⟨rfl, rfl, rfl⟩) (by rw [rgs_length]; omega) (by simp) (rgs_bound (valF_vL kl) hk) (fun _ h => by cases h)
  rwa [List.append_nil, ← e0] at this
 clear e0 kl
 generalize projF l k = P at *
 generalize rgs k (valF l) = Q at *
 generalize valF l = V at *
 go_enter Tryz.func96, Tryz.ntmps96
 go_wp2_with (first | (go_at_call 142; (with_reducible refine (h1 _ (hv.keep0 hO)).mono ?_); rintro e wv ⟨v1, rfl, ⟨hv9, hn9⟩, hb9⟩; have hf1 := hv9.form; replace hO := hO.gainB hb9 hv9 hn9; clear hb9 hv9 hn9 h1) | (go_at_call 159; (with_reducible refine (h2 _ _ (hO.isB hf1 (by intro q hq; repeat (exact List.mem_append_left _ hq)))).mono ?_); rintro e wv ⟨v2, rfl, ⟨hv9, hn9⟩, hb9⟩; replace hO := hO.call hb9; clear hb9 hn9 h2) | (go_at_call 158; (with_reducible refine (h3 _ _ hv9).mono ?_); rintro e wv ⟨v3, rfl, ⟨hv8, hn8⟩, hb9⟩; have hs9 := hO.keep.size; replace hO := hO.call hb9; clear hb9 h3))
 go_ret
 exact ⟨_, rfl, ⟨hv8, fun g hg => Nat.le_trans hs9 (hn8 g hg)⟩, hO.keep.below⟩
set_option maxHeartbeats 8000000 in
theorem psproject_any {vl : Value} {l : List Bx} (f : Int) (w : World) (ht : Tops w) (hv : IsBoxes w vl l) (kl : okL l) (hl : l.length ≤ 1000000000) :
  Calls Tryz.prog 95 #[vl, .int .i64 f] w (RetRgs w (projF l f)) := by
 have hO := own_start [] w
 by_cases h0 : f < 0
 ·have g1 : decide (f < 0) = true := decide_eq_true h0
  have e0 : projF l f = [] := if_neg (by omega)
  rw [e0]
  go_enter Tryz.func95, Tryz.ntmps95
  go_wp2_with fail
  go_ret
  exact ⟨_, rfl, ⟨.inl ⟨rfl, rfl, rfl⟩, fun g h => by cases h⟩, hO.keep.below⟩
 have g1 : decide (f < 0) = false := decide_eq_false h0
 by_cases h5 : 5 ≤ f
 ·have g2 : decide (5 ≤ f) = true := decide_eq_true h5
  have e0 : projF l f = [] := if_neg (by omega)
  rw [e0]
  go_enter Tryz.func95, Tryz.ntmps95
  go_wp2_with fail
  go_ret
  exact ⟨_, rfl, ⟨.inl ⟨rfl, rfl, rfl⟩, fun g h => by cases h⟩, hO.keep.below⟩
 have g2 : decide (5 ≤ f) = false := decide_eq_false h5
 obtain ⟨k, rfl⟩ : ∃ k : Nat, f = k := ⟨f.toNat, by omega⟩
 have hk : k < 5 := by omega
 have e0 : projF l k = canU (rgs k (valF l)) := if_pos (by omega)
 have h1 := fun w ht hv => vals_any (vl := vl) (l := l) w ht hv (by omega)
 have nV := valF_le l
 have h3 : ∀ v w, IsCells w v (rgs k (valF l)).length (rcs (rgs k (valF l))) → Calls Tryz.prog 157 #[v, .slice none 0 0] w (RetRgs w (projF l k)) := fun v w hv => by
  have := unionU_any (vb := .slice none 0 0) (lb := []) w hv (.inl ⟨rfl, rfl, rfl⟩) (by rw [rgs_length]; omega) (by simp) (rgs_bound (valF_vL kl) hk) (fun _ h => by cases h)
  rwa [List.append_nil, ← e0] at this
 clear e0 kl
 generalize projF l k = P at *
 generalize valF l = V at *
 go_enter Tryz.func95, Tryz.ntmps95
 go_wp2_with (go_at_call 145; (with_reducible refine (h1 _ (hO.tops ht (by simp)) (hv.keep0 hO)).mono ?_); rintro e wv ⟨v1, rfl, ⟨hv9, hn9⟩, hb9⟩; have hf1 := hv9.form; replace hO := hO.gainB hb9 hv9 hn9; clear hb9 hv9 hn9 h1; obtain ⟨a1, c1, rfl, ha1⟩ := hf1.view)
 replace hO := hO.nilRow 96 2
 go_loopw [5, 17] (fun r q wr => ∃ i : Nat, i ≤ V.length ∧ q = .int .i64 i ∧ Own [] w [] [⟨r, i, rcs (rgs k (V.take i)), 96, 2⟩] (roS (.slice a1 V.length c1) (cellsB V)) wr) (fun _ q _ => V.length - (intOf q).toNat)
 case atStart => exact ⟨0, by omega, rfl, hO.sub (.refl _) (.refl _) (fun q hq => List.mem_append_left _ hq)⟩
 case round =>
  clear hO
  obtain ⟨i, hi, rfl, hO⟩ := hrel
  have s4 : IntKind.i64.wrap ((i : Int) + 1) = (i : Int) + 1 := IntWalk.i64_in _ (by omega)
  by_cases hlt : i < V.length
  ·obtain ⟨g, o, rfl⟩ := ha1 (by omega)
   simp only [roS] at hO
   have y1 : (0 : Int) ≤ (k : Int) := by omega
   have y2 : (k : Int) < 5 := by omega
   have HT := Lib.hid (rgs_take (f := k) hlt)
   have t1 := tk_box V hlt
   have hm : (rgs k (V.take i)).length = i := by rw [rgs_length, List.length_take]; omega
   generalize rgs k (V.take i) = m at *
   have t2 := bcs_two V[i] hk
   generalize V[i] = b at *
   go_wp2_with (first | refine ldN ?_ | (refine stN hO ?_; clear hO; intro wv hO) | (refine al9 7 hO ?_; clear hO; intro n7 wv hO) | (refine' own_build1 (o := ⟨some 25, _, _, _, _, _⟩) hO (by rfl) rfl rfl ?hu ?hf ?_; (case hu => (exact und_Ranges)); (case hf => kernel_rfl); clear hO; intro n25 wv hO) | (refine ap9 26 hO ?_; clear hO; intro g26 c26 wv hO))
   go_roundw
   case rel =>
    refine ⟨i + 1, by omega, by go_num, ?_⟩
    rw [HT.out, rcs_append, rcs_one]
    exact hO.sub (.cons _ (.cons _ (.refl _))) (.refl _) (fun _ h => h)
   case measure => simp [intOf]; omega
  ·obtain rfl : i = V.length := by omega
   rw [List.take_length] at hO
   go_wp2_with (go_at_call 157; (with_reducible refine (h3 _ _ (own_rgs hO List.mem_cons_self)).mono ?_); rintro e wv ⟨v3, rfl, ⟨hv8, hn8⟩, hb9⟩; have hs9 := hO.keep.size; replace hO := hO.call hb9; clear hb9 h3)
   go_ret
   exact ⟨_, rfl, ⟨hv8, fun g hg => Nat.le_trans hs9 (hn8 g hg)⟩, hO.keep.below⟩
theorem psFirst_any {vl : Value} {l : List Bx} (w : World) (ht : Tops w) (hvl : IsBoxes w vl l) (kl : okL l) (hl : l.length ≤ 1000000000000) :
  Calls Tryz.prog 90 #[vl] w fun e w' => e = .returned (.tuple #[hv (firstH (canonF orB 0 5 (valF l) [])), .bool (!(canonF orB 0 5 (valF l) []).isEmpty)]) ∧ Below w.heap.size w w' := by
 have hO := own_start [] w
 have h1 : ∀ w, Tops w → IsBoxes w vl l → Calls Tryz.prog 112 #[vl, .slice none 0 0, .func (.func 137) #[] #[]] w fun e w' => e = .returned (.tuple #[hv (firstH (canonF orB 0 5 (valF l) [])), .bool (!(canonF orB 0 5 (valF l) []).isEmpty)]) ∧ Below w.heap.size w w' := fun w ht hva => first_any op_either (va := vl) (vb := .slice none 0 0) (la := l) (lb := []) w ht hva (.inl ⟨rfl, rfl⟩) kl (fun _ h => by cases h) hl (by simp)
 generalize firstH (canonF orB 0 5 (valF l) []) = fh at *
 generalize (!(canonF orB 0 5 (valF l) []).isEmpty) = b at *
 go_enter Tryz.func90, Tryz.ntmps90
 go_wp2_with (first | (refine stN hO ?_; clear hO; intro wv hO) | (refine al9 2 hO ?_; clear hO; intro n2 wv hO) | (go_at_call 112; refine (h1 _ (hO.tops ht (by simp)) (hvl.keep0 hO)).mono ?_; rintro e wv ⟨rfl, hb⟩; replace hO := hO.call hb; clear hb))
 exact bodyPost_ret (own_res_cell_tmp hO Tryz.results90 rfl List.mem_cons_self (by (exact row_len (by (with_reducible (exact row_Header))) (by rfl))) rfl rfl) rfl ⟨rfl, hO.keep.below⟩
set_option maxHeartbeats 4000000 in
theorem rfirstG_any {vl : Value} {l D : List Bx} (w : World) (hvl : IsBoxes w vl l) (kl : okL l) (hl : l.length ≤ 10000000000) (hD : D = canonF orB 0 5 (valF l) []) (hc : D.length ≤ 100000000000) :
  Calls Tryz.prog 91 #[vl] w fun e w' => e = .returned (.tuple #[hv (firstH D), .bool (!D.isEmpty)]) ∧ Below w.heap.size w w' := by
 have hO := own_start [] w
 have hvD : vL D := hD ▸ (canonF_cn orB 5 0 rfl (valF_vL kl) (fun _ h => by cases h)).valid rfl
 have hc := fun w hv => rcanonG_any (vl := vl) (l := l) w hv kl hl (hD ▸ hc)
 rw [← hD] at hc
 clear hD
 by_cases hE : D = []
 ·subst hE
  go_enter Tryz.func91, Tryz.ntmps91
  go_wp2_with (first | (refine stN hO ?_; clear hO; intro wv hO) | (refine al9 2 hO ?_; clear hO; intro n2 wv hO) | (go_at_call 154; (with_reducible refine (hc _ (hvl.keep0 hO)).mono ?_); rintro e wv ⟨v9, rfl, ⟨hv9, hn9⟩, hb9⟩; have hof := hv9.form; replace hO := hO.gainB hb9 hv9 hn9; clear hb9 hv9 hn9; obtain ⟨a9, c9, rfl, -⟩ := hof.view))
  exact bodyPost_ret (own_res_cell_tmp hO Tryz.results91 rfl List.mem_cons_self (by (exact row_len (by (with_reducible (exact row_Header))) (by rfl))) rfl rfl) rfl ⟨rfl, hO.keep.below⟩
 ·have h0 : 0 < D.length := List.length_pos_iff.2 hE
  have hok : (Hd.of fun k => (D[0].at k).lo).ok := by
   have hx := hvD D[0] (List.getElem_mem h0)
   have h0 := hx 0 (by omega)
   have h1 := hx 1 (by omega)
   have h2 := hx 2 (by omega)
   have h3 := hx 3 (by omega)
   have h4 := hx 4 (by omega)
   simp only [topOf] at h0 h1 h2 h3 h4
   simp only [Hd.of, Hd.ok]
   omega
  have hh := fun w => rheader_any (fun k => (D[0].at k).lo) w hok
  have hw := fun w => rlows_any D[0] w
  have hF : Hd.of (fun k => (D[0].at k).lo) = firstH D := by
   cases D with
   | nil => exact absurd rfl hE
   | cons x xs => rfl
  have hb : true = !D.isEmpty := by
   cases D with
   | nil => exact absurd rfl hE
   | cons x xs => rfl
  rw [hF] at hh
  have HB := Lib.hid hb
  have g1 : ((D.length : Int) == 0) = false := by simp; omega
  clear hF hb hE hok
  generalize firstH D = fH at *
  rw [← HB.out]
  go_enter Tryz.func91, Tryz.ntmps91
  go_wp2_with (first | refine ldN ?_ | (refine stN hO ?_; clear hO; intro wv hO) | (refine al9 2 hO ?_; clear hO; intro n2 wv hO) | (go_at_call 154; (with_reducible refine (hc _ (hvl.keep0 hO)).mono ?_); rintro e wv ⟨v9, rfl, ⟨hv9, hn9⟩, hb9⟩; have hof := hv9.form; replace hO := hO.gainB hb9 hv9 hn9; clear hb9 hv9 hn9; obtain ⟨a9, c9, rfl, ha9⟩ := hof.view; obtain ⟨g9, o9, rfl⟩ := ha9 h0; simp only [roS, List.cons_append, List.nil_append] at hO) | (go_at_call 155; refine (hw _).mono ?_; rintro e wv ⟨rfl, hb⟩; replace hO := hO.call hb; clear hb) | (go_at_call 99; refine (hh _).mono ?_; rintro e wv ⟨rfl, hb⟩; replace hO := hO.call hb; clear hb))
  exact bodyPost_ret (own_res_cell_tmp hO Tryz.results91 rfl List.mem_cons_self (by (exact row_len (by (with_reducible (exact row_Header))) (by rfl))) rfl rfl) rfl ⟨rfl, hO.keep.below⟩
theorem makeF_le {l : List Bx} (kl : okL l) : ((makeF l).getD []).length ≤ 9223372036854775806 := by
 cases h : makeF l with
 | none => simp
 | some z =>
  obtain ⟨h1, _⟩ := make_set kl h
  simp only [Option.getD_some]
  have := h1.2.1
  omega
set_option maxHeartbeats 8000000 in
theorem makes_any {vl : Value} {l : List Bx} {N : Nat} (h : Hd) (f : Int) (w : World) (ht : Tops w) (hvl : IsBoxes w vl l) (kl : okL l) (hl : l.length ≤ 1000000000) (ho : h.ok) (hN : Ends N l) (hN45 : N ≤ 45) :
  Calls Tryz.prog 39 #[vl, hv h, .int .i64 f] w fun e w' => e = .returned (.bool true) ∧ Below w.heap.size w w' := by
 have hO := own_start [] w
 have m1 := fun w ht hv => make_any (vl := vl) (l := l) w ht hv kl (by omega)
 have m2 := fun w hv => rmakeE_any (vl := vl) (l := l) w hv kl hl hN hN45
 have hv9 : Ends N (valF l) := by
  obtain ⟨e, he⟩ := hN.at
  exact EndsAt.ends fun k hk => ⟨(he k hk).1, fun b hb => (he k hk).2 b (List.mem_filter.1 hb).1⟩
 have q1 := fun w ht hv => psFirst_any (vl := vl) (l := l) w ht hv kl (by omega)
 have q2 := fun w hv => rfirstG_any (vl := vl) (l := l) w hv kl (by omega) rfl (canon_small hv9 (ends_len []) (by simp; omega))
 have v1 := fun w ht hv => psValid_any (vl := vl) (l := l) w ht hv kl (by omega)
 have v2 := fun w hv => rValid_any (vl := vl) (l := l) w hv kl (by omega)
 have c1 := fun w ht hv => psContains_any (vl := vl) (l := l) h w ht ho hv (by omega)
 have c2 := fun w hv => rcontains4_any (vl := vl) (l := l) h w ho hv (by omega)
 have p1 := fun w ht hv => psproject_any (vl := vl) (l := l) f w ht hv kl hl
 have p2 := fun w hv => rproject_any (vl := vl) (l := l) f w hv kl hl
 have n1 := makeF_le kl
 have n2 := projF_len (l := l) (f := f) kl hl
 clear hv9 hN
 generalize makeF l = RM at *
 generalize firstH (canonF orB 0 5 (valF l) []) = fH at *
 generalize (!(canonF orB 0 5 (valF l) []).isEmpty) = bF at *
 generalize validF l = bV at *
 generalize l.any (hasH h) = bC at *
 generalize projF l f = RP at *
 have e1 : (ecd RM == ecd RM) = true := beq_self_eq_true _
 have e2 : decide (fH = fH) = true := by simp
 have e3 : (bF == bF) = true := beq_self_eq_true _
 have e4 : (bV == bV) = true := beq_self_eq_true _
 have e5 : (bC == bC) = true := beq_self_eq_true _
 have g1 := fun v u w hv hu => rsame4_any v u (RM.getD []) w hv hu n1
 have g2 := fun v u w hv hu => rsameR_any v u RP w hv hu n2
 go_enter Tryz.func39, Tryz.ntmps39
 go_wp2_with (first | (refine stN hO ?_; clear hO; intro wv hO) | (refine bx9 4 hO ?_; clear hO; intro n4 wv hO) | (refine al9 11 hO ?_; clear hO; intro n11 wv hO) | (refine al9 13 hO ?_; clear hO; intro n13 wv hO) | (go_at_call 86; (with_reducible refine (m1 _ (hO.tops ht (by simp)) (hvl.keep0 hO)).mono ?_); rintro e wv hpo; obtain ⟨x1, rfl, hv9, hn9, hb9⟩ := hpo.uni; have f1 := hv9.form; replace hO := hO.gainB hb9 hv9 hn9; clear hb9 hv9 hn9 hpo) | (go_at_call 73; (with_reducible refine (m2 _ (hvl.keep0 hO)).mono ?_); rintro e wv hpo; obtain ⟨x2, rfl, hv9, hn9, hb9⟩ := hpo.uni; have f2 := hv9.form; replace hO := hO.gainB hb9 hv9 hn9; clear hb9 hv9 hn9 hpo) | (go_at_call 90; (with_reducible refine (q1 _ (hO.tops ht (by simp)) (hvl.keep0 hO)).mono ?_); rintro e wv ⟨rfl, hb9⟩; replace hO := hO.call hb9; clear hb9) | (go_at_call 91; (with_reducible refine (q2 _ (hvl.keep0 hO)).mono ?_); rintro e wv ⟨rfl, hb9⟩; replace hO := hO.call hb9; clear hb9))
 refine wp_region_any (by kernel_rfl) ?_
 replace hO := hO.drew
 have ix9 := Ix.mk [0, 1]
 iterate 2 (refine wpAny_tk ix9 ?_; replace ix9 := ix9.tail; (first | go_big_quiet_skip | (go_big_quiet_want; (go_big_quiet_op; (first | go_big_quiet_on | ((refine ⟨_, fun _ _ => rfl, ?_⟩); go_big_quiet_on))))); (refine wpQuiet_nil ?_); (try simp only [Act.put]); (try simp only [sI9, sZ9, sS9]))
 clear ix9
 refine wpAny_1 2 ?_
 rotate_left 1
 all_goals
  refine wpOp_of_listL rfl ?_
  ((refine wpList_step (fun K hK => ?_)); go_simp; ((go_at_call 80; (with_reducible refine (g1 _ _ _ (hO.isB f1 (by intro q hq; repeat (first | exact List.mem_append_left _ hq | apply List.mem_append_right))) (hO.isB f2 (by intro q hq; repeat (exact List.mem_append_left _ hq)))).mono ?_); rintro e wv ⟨rfl, hb9⟩; replace hO := hO.call hb9; clear hb9); (try simp only []); (refine hK _ _ ?_); clear hK K))
  refine wpList_done (qk_intro ?_)
 have ix9 := Ix.mk [3, 4, 5, 6, 7, 8]
 iterate 6 (refine wpAny_tk ix9 ?_; replace ix9 := ix9.tail; (first | go_big_quiet_skip | (go_big_quiet_want; (go_big_quiet_op; (first | go_big_quiet_on | ((refine ⟨_, fun _ _ => rfl, ?_⟩); go_big_quiet_on))))); (refine wpQuiet_nil ?_); (try simp only [Act.put]); (try simp only [sI9, sZ9, sS9]))
 clear ix9
 refine wpAny_all (rs := [9, 10]) (by kernel_rfl) (by simp) (ord_cons ?_ (ord_cons ?_ ord_nil))
 rotate_left 2
 all_goals
  refine wpOp_of_listL rfl ?_
  (refine ldN ?_); (try simp only [Act.put]); (try simp only [sI9, sZ9, sS9])
  refine wpList_done (qk_intro ?_)
 refine wpAny_1 10 ?_
 rotate_left 1
 refine wpAny_1 9 ?_
 rotate_left 1
 all_goals
  refine wpOp_of_listL rfl ?_
  (refine ldN ?_); (try simp only [Act.put]); (try simp only [sI9, sZ9, sS9])
  refine wpList_done (qk_intro ?_)
 have ix9 := Ix.mk [11, 12, 13, 14, 15, 16, 17, 18, 19, 21]
 iterate 10 (refine wpAny_tk ix9 ?_; replace ix9 := ix9.tail; (first | go_big_quiet_skip | (go_big_quiet_want; (go_big_quiet_op; (first | go_big_quiet_on | ((refine ⟨_, fun _ _ => rfl, ?_⟩); go_big_quiet_on))))); (refine wpQuiet_nil ?_); (try simp only [Act.put]); (try simp only [sI9, sZ9, sS9]))
 clear ix9
 refine wpAny_1 20 ?_
 rotate_left 1
 have ix9 := Ix.mk [11, 12, 13, 14, 15, 16, 17, 18, 19, 21]
 iterate 10 (refine wpAny_tk ix9 ?_; replace ix9 := ix9.tail; (first | go_big_quiet_skip | (go_big_quiet_want; (go_big_quiet_op; (first | go_big_quiet_on | ((refine ⟨_, fun _ _ => rfl, ?_⟩); go_big_quiet_on))))); (refine wpQuiet_nil ?_); (try simp only [Act.put]); (try simp only [sI9, sZ9, sS9]))
 clear ix9
 refine wpAny_1 20 ?_
 rotate_left 1
 all_goals
  refine wpOp_of_listL rfl ?_
  ((refine wpList_step (fun K hK => ?_)); go_simp; ((go_at_call 88; (with_reducible refine (v1 _ (hO.tops ht (by simp)) (hvl.keep0 hO)).mono ?_); rintro e wv ⟨rfl, hb9⟩; replace hO := hO.call hb9; clear hb9); (try simp only []); (refine hK _ _ ?_); clear hK K))
  refine wpList_done (qk_intro ?_)
 refine wpAny_1 22 ?_
 rotate_left 1
 refine wpAny_1 22 ?_
 rotate_left 1
 all_goals
  refine wpOp_of_listL rfl ?_
  ((refine wpList_step (fun K hK => ?_)); go_simp; ((go_at_call 92; (with_reducible refine (v2 _ (hvl.keep0 hO)).mono ?_); rintro e wv ⟨rfl, hb9⟩; replace hO := hO.call hb9; clear hb9); (try simp only []); (refine hK _ _ ?_); clear hK K))
  refine wpList_done (qk_intro ?_)
 have ix9 := Ix.mk [23, 24, 25, 26, 29]
 iterate 5 (refine wpAny_tk ix9 ?_; replace ix9 := ix9.tail; (first | go_big_quiet_skip | (go_big_quiet_want; (go_big_quiet_op; (first | go_big_quiet_on | ((refine ⟨_, fun _ _ => rfl, ?_⟩); go_big_quiet_on))))); (refine wpQuiet_nil ?_); (try simp only [Act.put]); (try simp only [sI9, sZ9, sS9]))
 clear ix9
 refine wpAny_all (rs := [27, 30]) (by kernel_rfl) (by simp) (ord_cons ?_ (ord_cons ?_ ord_nil))
 rotate_left 2
 have ix9 := Ix.mk [23, 24, 25, 26, 29]
 iterate 5 (refine wpAny_tk ix9 ?_; replace ix9 := ix9.tail; (first | go_big_quiet_skip | (go_big_quiet_want; (go_big_quiet_op; (first | go_big_quiet_on | ((refine ⟨_, fun _ _ => rfl, ?_⟩); go_big_quiet_on))))); (refine wpQuiet_nil ?_); (try simp only [Act.put]); (try simp only [sI9, sZ9, sS9]))
 clear ix9
 refine wpAny_all (rs := [27, 30]) (by kernel_rfl) (by simp) (ord_cons ?_ (ord_cons ?_ ord_nil))
 rotate_left 2
 all_goals
  refine wpOp_of_listL rfl ?_
  (refine ldN ?_); (try simp only [Act.put]); (try simp only [sI9, sZ9, sS9])
  refine wpList_done (qk_intro ?_)
 refine wpAny_all (rs := [28, 30]) (by kernel_rfl) (by simp) (ord_cons ?_ (ord_cons ?_ ord_nil))
 rotate_left 2
 refine wpAny_1 27 ?_
 rotate_left 1
 refine wpAny_all (rs := [28, 30]) (by kernel_rfl) (by simp) (ord_cons ?_ (ord_cons ?_ ord_nil))
 rotate_left 2
 refine wpAny_1 27 ?_
 rotate_left 1
 all_goals
  refine wpOp_of_listL rfl ?_
  (first | refine ldN ?_ | ((refine wpList_step (fun K hK => ?_)); go_simp; ((go_at_call 87; (with_reducible refine (c1 _ (hO.tops ht (by simp)) (hvl.keep0 hO)).mono ?_); rintro e wv ⟨rfl, hb9⟩; replace hO := hO.call hb9; clear hb9); (try simp only []); (refine hK _ _ ?_); clear hK K))); (try simp only [Act.put]); (try simp only [sI9, sZ9, sS9])
  refine wpList_done (qk_intro ?_)
 refine wpAny_1 30 ?_
 rotate_left 1
 refine wpAny_1 28 ?_
 rotate_left 1
 refine wpAny_1 28 ?_
 rotate_left 1
 refine wpAny_1 30 ?_
 rotate_left 1
 refine wpAny_1 28 ?_
 rotate_left 1
 refine wpAny_1 28 ?_
 rotate_left 1
 all_goals
  refine wpOp_of_listL rfl ?_
  (first | refine ldN ?_ | ((refine wpList_step (fun K hK => ?_)); go_simp; ((go_at_call 87; (with_reducible refine (c1 _ (hO.tops ht (by simp)) (hvl.keep0 hO)).mono ?_); rintro e wv ⟨rfl, hb9⟩; replace hO := hO.call hb9; clear hb9); (try simp only []); (refine hK _ _ ?_); clear hK K))); (try simp only [Act.put]); (try simp only [sI9, sZ9, sS9])
  refine wpList_done (qk_intro ?_)
 refine wpAny_1 31 ?_
 rotate_left 1
 refine wpAny_1 31 ?_
 rotate_left 1
 refine wpAny_1 31 ?_
 rotate_left 1
 refine wpAny_1 31 ?_
 rotate_left 1
 refine wpAny_1 31 ?_
 rotate_left 1
 refine wpAny_1 31 ?_
 rotate_left 1
 all_goals
  refine wpOp_of_listL rfl ?_
  ((refine wpList_step (fun K hK => ?_)); go_simp; ((go_at_call 93; (with_reducible refine (c2 _ (hvl.keep0 hO)).mono ?_); rintro e wv ⟨rfl, hb9⟩; replace hO := hO.call hb9; clear hb9); (try simp only []); (refine hK _ _ ?_); clear hK K))
  refine wpList_done (qk_intro ?_)
 have ix9 := Ix.mk [32, 33, 34, 35, 36, 38, 39]
 iterate 7 (refine wpAny_tk ix9 ?_; replace ix9 := ix9.tail; (first | go_big_quiet_skip | (go_big_quiet_want; (go_big_quiet_op; (first | go_big_quiet_on | ((refine ⟨_, fun _ _ => rfl, ?_⟩); go_big_quiet_on))))); (refine wpQuiet_nil ?_); (try simp only [Act.put]); (try simp only [sI9, sZ9, sS9]))
 clear ix9
 refine wpAny_1 37 ?_
 rotate_left 1
 have ix9 := Ix.mk [32, 33, 34, 35, 36, 38, 39]
 iterate 7 (refine wpAny_tk ix9 ?_; replace ix9 := ix9.tail; (first | go_big_quiet_skip | (go_big_quiet_want; (go_big_quiet_op; (first | go_big_quiet_on | ((refine ⟨_, fun _ _ => rfl, ?_⟩); go_big_quiet_on))))); (refine wpQuiet_nil ?_); (try simp only [Act.put]); (try simp only [sI9, sZ9, sS9]))
 clear ix9
 refine wpAny_1 37 ?_
 rotate_left 1
 have ix9 := Ix.mk [32, 33, 34, 35, 36, 38, 39]
 iterate 7 (refine wpAny_tk ix9 ?_; replace ix9 := ix9.tail; (first | go_big_quiet_skip | (go_big_quiet_want; (go_big_quiet_op; (first | go_big_quiet_on | ((refine ⟨_, fun _ _ => rfl, ?_⟩); go_big_quiet_on))))); (refine wpQuiet_nil ?_); (try simp only [Act.put]); (try simp only [sI9, sZ9, sS9]))
 clear ix9
 refine wpAny_1 37 ?_
 rotate_left 1
 have ix9 := Ix.mk [32, 33, 34, 35, 36, 38, 39]
 iterate 7 (refine wpAny_tk ix9 ?_; replace ix9 := ix9.tail; (first | go_big_quiet_skip | (go_big_quiet_want; (go_big_quiet_op; (first | go_big_quiet_on | ((refine ⟨_, fun _ _ => rfl, ?_⟩); go_big_quiet_on))))); (refine wpQuiet_nil ?_); (try simp only [Act.put]); (try simp only [sI9, sZ9, sS9]))
 clear ix9
 refine wpAny_1 37 ?_
 rotate_left 1
 have ix9 := Ix.mk [32, 33, 34, 35, 36, 38, 39]
 iterate 7 (refine wpAny_tk ix9 ?_; replace ix9 := ix9.tail; (first | go_big_quiet_skip | (go_big_quiet_want; (go_big_quiet_op; (first | go_big_quiet_on | ((refine ⟨_, fun _ _ => rfl, ?_⟩); go_big_quiet_on))))); (refine wpQuiet_nil ?_); (try simp only [Act.put]); (try simp only [sI9, sZ9, sS9]))
 clear ix9
 refine wpAny_1 37 ?_
 rotate_left 1
 have ix9 := Ix.mk [32, 33, 34, 35, 36, 38, 39]
 iterate 7 (refine wpAny_tk ix9 ?_; replace ix9 := ix9.tail; (first | go_big_quiet_skip | (go_big_quiet_want; (go_big_quiet_op; (first | go_big_quiet_on | ((refine ⟨_, fun _ _ => rfl, ?_⟩); go_big_quiet_on))))); (refine wpQuiet_nil ?_); (try simp only [Act.put]); (try simp only [sI9, sZ9, sS9]))
 clear ix9
 refine wpAny_1 37 ?_
 rotate_left 1
 all_goals
  refine wpOp_of_listL rfl ?_
  ((refine wpList_step (fun K hK => ?_)); go_simp; ((go_at_call 95; (with_reducible refine (p1 _ (hO.tops ht (by simp)) (hvl.keep0 hO)).mono ?_); rintro e wv ⟨x3, rfl, ⟨hv9, hn9⟩, hb9⟩; have z3 := rcs_nil_of RP; have f3 := isCells_form hv9; replace hO := hO.gainC hb9 hv9 hn9; clear hb9 hv9 hn9); (try simp only []); (refine hK _ _ ?_); clear hK K))
  refine wpList_done (qk_intro ?_)
 refine wpAny_1 40 ?_
 rotate_left 1
 refine wpAny_1 40 ?_
 rotate_left 1
 refine wpAny_1 40 ?_
 rotate_left 1
 refine wpAny_1 40 ?_
 rotate_left 1
 refine wpAny_1 40 ?_
 rotate_left 1
 refine wpAny_1 40 ?_
 rotate_left 1
 all_goals
  refine wpOp_of_listL rfl ?_
  ((refine wpList_step (fun K hK => ?_)); go_simp; ((go_at_call 96; (with_reducible refine (p2 _ (hvl.keep0 hO)).mono ?_); rintro e wv ⟨x4, rfl, ⟨hv9, hn9⟩, hb9⟩; have z4 := rcs_nil_of RP; have f4 := isCells_form hv9; replace hO := hO.gainC hb9 hv9 hn9; clear hb9 hv9 hn9); (try simp only []); (refine hK _ _ ?_); clear hK K))
  refine wpList_done (qk_intro ?_)
 refine wpAny_1 41 ?_
 rotate_left 1
 refine wpAny_1 41 ?_
 rotate_left 1
 refine wpAny_1 41 ?_
 rotate_left 1
 refine wpAny_1 41 ?_
 rotate_left 1
 refine wpAny_1 41 ?_
 rotate_left 1
 refine wpAny_1 41 ?_
 rotate_left 1
 all_goals
  refine wpOp_of_listL rfl ?_
  ((refine wpList_step (fun K hK => ?_)); go_simp; ((go_at_call 94; (with_reducible refine (g2 _ _ _ (hO.isC f3 z3 (by intro q hq; repeat (first | exact List.mem_append_left _ hq | apply List.mem_append_right))) (hO.isC f4 z4 (by intro q hq; repeat (exact List.mem_append_left _ hq)))).mono ?_); rintro e wv ⟨rfl, hb9⟩; replace hO := hO.call hb9; clear hb9); (try simp only []); (refine hK _ _ ?_); clear hK K))
  refine wpList_done (qk_intro ?_)
 refine wpAny_tk (Ix.mk [42]) ?_
 (first | go_big_quiet_skip | (go_big_quiet_want; (go_big_quiet_op; (first | go_big_quiet_on | ((refine ⟨_, fun _ _ => rfl, ?_⟩); go_big_quiet_on))))); (refine wpQuiet_nil ?_); (try simp only [Act.put]); (try simp only [sI9, sZ9, sS9])
 refine wpAny_1 43 ?_
 rotate_left 1
 refine wpAny_tk (Ix.mk [42]) ?_
 (first | go_big_quiet_skip | (go_big_quiet_want; (go_big_quiet_op; (first | go_big_quiet_on | ((refine ⟨_, fun _ _ => rfl, ?_⟩); go_big_quiet_on))))); (refine wpQuiet_nil ?_); (try simp only [Act.put]); (try simp only [sI9, sZ9, sS9])
 refine wpAny_1 43 ?_
 rotate_left 1
 refine wpAny_tk (Ix.mk [42]) ?_
 (first | go_big_quiet_skip | (go_big_quiet_want; (go_big_quiet_op; (first | go_big_quiet_on | ((refine ⟨_, fun _ _ => rfl, ?_⟩); go_big_quiet_on))))); (refine wpQuiet_nil ?_); (try simp only [Act.put]); (try simp only [sI9, sZ9, sS9])
 refine wpAny_1 43 ?_
 rotate_left 1
 refine wpAny_tk (Ix.mk [42]) ?_
 (first | go_big_quiet_skip | (go_big_quiet_want; (go_big_quiet_op; (first | go_big_quiet_on | ((refine ⟨_, fun _ _ => rfl, ?_⟩); go_big_quiet_on))))); (refine wpQuiet_nil ?_); (try simp only [Act.put]); (try simp only [sI9, sZ9, sS9])
 refine wpAny_1 43 ?_
 rotate_left 1
 refine wpAny_tk (Ix.mk [42]) ?_
 (first | go_big_quiet_skip | (go_big_quiet_want; (go_big_quiet_op; (first | go_big_quiet_on | ((refine ⟨_, fun _ _ => rfl, ?_⟩); go_big_quiet_on))))); (refine wpQuiet_nil ?_); (try simp only [Act.put]); (try simp only [sI9, sZ9, sS9])
 refine wpAny_1 43 ?_
 rotate_left 1
 refine wpAny_tk (Ix.mk [42]) ?_
 (first | go_big_quiet_skip | (go_big_quiet_want; (go_big_quiet_op; (first | go_big_quiet_on | ((refine ⟨_, fun _ _ => rfl, ?_⟩); go_big_quiet_on))))); (refine wpQuiet_nil ?_); (try simp only [Act.put]); (try simp only [sI9, sZ9, sS9])
 refine wpAny_1 43 ?_
 rotate_left 1
 all_goals
  refine wpOp_of_listL rfl ?_
  ((refine wpList_step (fun K hK => ?_)); go_simp; ((refine hK _ _ ?_); clear hK K))
  refine wpList_done (qk_intro ?_)
 refine wpAny_done (by kernel_rfl) ?_ _
 rotate_left
 refine wpAny_done (by kernel_rfl) ?_ _
 rotate_left
 refine wpAny_done (by kernel_rfl) ?_ _
 rotate_left
 refine wpAny_done (by kernel_rfl) ?_ _
 rotate_left
 refine wpAny_done (by kernel_rfl) ?_ _
 rotate_left
 refine wpAny_done (by kernel_rfl) ?_ _
 rotate_left
 all_goals
  (try go_wp2_with fail)
  go_ret
  exact ⟨rfl, hO.keep.below⟩
end Go.Proofs.YtbdfblgdmappeaaGreatDoor
