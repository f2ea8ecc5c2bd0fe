/- The examples of the law of findings. -/
import Derived.Test.YtjoionnnpjajmaaDoorPH
import Derived.Test.YtjoionnnpjajmaaDoorPI
namespace Go.Proofs.YtjoionnnpjajmaaDoor
open Go.RowKit
set_option maxRecDepth 100000
theorem an_sanA : anR [(portB 80 80, true), (portB 80 90, false), (portB 0 100, true)] = ([(0, 3, [1]), (1, 3, [2])], 0) := by decide +kernel
theorem an_sanB : anR [(portB 80 80, true), (portB 0 100, true), (portB 7 7, false)] = ([(0, 2, [1]), (2, 1, [1])], 0) := by decide +kernel
theorem st_sanB : validT [(portB 80 80, true), (portB 0 100, true), (portB 7 7, false)] = true ∧ (stF [(portB 80 80, true), (portB 0 100, true), (portB 7 7, false)] 0).map (·.2) = some true := by decide +kernel
theorem st_sanC : (stF [(portB 0 100, true), (portB 7 7, false)] 0).map (·.2) = some false ∧ (stF [(portB 0 100, true), (portB 7 7, false)] 1).map (·.2) = some true ∧ (stF [(portB 0 100, true)] 0).map (·.2) = some false := by decide +kernel
theorem rm_san : rmP [(portB 1 2, false)] 0 = (true, 0) ∧ rmP [] 0 = (false, 2) := by decide +kernel
theorem st_of {t : List Rul} {i : Nat} {b : Bool} (h : (stF t i).map (·.2) = some b) : ∃ e, stF t i = some (e, b) := by
 cases hs : stF t i with
 | none => rw [hs] at h; cases h
 | some x => rw [hs] at h; cases h; exact ⟨x.1, rfl⟩
theorem cl_sanB : clR [(portB 80 80, true), (portB 0 100, true), (portB 7 7, false)] = ([(portB 0 100, true)], [0, 2], 0) := by
 obtain ⟨h0, h1⟩ := st_sanB
 obtain ⟨h2, h3, h4⟩ := st_sanC
 obtain ⟨e1, h1⟩ := st_of h1
 obtain ⟨e2, h2⟩ := st_of h2
 obtain ⟨e3, h3⟩ := st_of h3
 obtain ⟨e4, h4⟩ := st_of h4
 refine clR_some h0 ?_
 rw [clF_rm (by simp) h1]
 refine (clF_go (t := [(portB 0 100, true), (portB 7 7, false)]) (by simp) h2).trans ?_
 refine (clF_rm (t := [(portB 0 100, true), (portB 7 7, false)]) (by simp) h3).trans ?_
 refine (clF_go (t := [(portB 0 100, true)]) (by simp) h4).trans ?_
 exact clF_end (t := [(portB 0 100, true)]) (by simp)
theorem portB_ok {lo hi : Int} (h0 : 0 ≤ lo) (h1 : lo ≤ hi) (h2 : hi ≤ 65535) : (portB lo hi).ok := (portB_good h0 h1 h2).ok
theorem okT_sA : okT [(portB 80 80, true), (portB 80 90, false), (portB 0 100, true)] := fun r hr => by
 simp only [List.mem_cons, List.not_mem_nil, or_false] at hr
 rcases hr with rfl | rfl | rfl <;> exact portB_ok (by decide) (by decide) (by decide)
theorem okT_sB : okT [(portB 80 80, true), (portB 0 100, true), (portB 7 7, false)] := fun r hr => by
 simp only [List.mem_cons, List.not_mem_nil, or_false] at hr
 rcases hr with rfl | rfl | rfl <;> exact portB_ok (by decide) (by decide) (by decide)
theorem okT_sC : okT [(portB 1 2, false)] := fun r hr => by
 simp only [List.mem_cons, List.not_mem_nil, or_false] at hr
 rcases hr with rfl <;> exact portB_ok (by decide) (by decide) (by decide)
theorem two_map {ps : List (Fnd × Value)} {f g : Fnd} (h : ps.map (·.1) = [f, g]) : ∃ x y, ps = [(f, x), (g, y)] := by
 match ps, h with
 | [(a, x), (b, y)], h =>
  simp only [List.map_cons, List.map_nil, List.cons.injEq, and_true] at h
  exact ⟨x, y, by rw [h.1, h.2]⟩
theorem nums_one {w : World} {v : Value} {x : Int} (h : IsNums w v [x]) : ∃ g o c, v = .slice (some ⟨g, o, none⟩) 1 c := by
 rcases h with ⟨_, h, _⟩ | ⟨g, o, c, rfl, _, _⟩
 ·cases h
 ·exact ⟨g, o, c, rfl⟩
theorem finds_two {M : List Nat} {w0 w w' : World} {X : List Chunk} {R : List Row} {S : List Ro} (hO : Own M w0 X R S w) (hb : Below w.heap.size w w') {v : Value} {ps : List (Fnd × Value)} (h : IsFinds w w' v ps) {a1 a2 b1 b2 x y : Int} (he : ps.map (·.1) = [(a1, a2, [x]), (b1, b2, [y])]) :
  ∃ g o c g1 o1 c1 g2 o2 c2 L L1 L2, v = .slice (some ⟨g, o, none⟩) 2 c ∧ L[0]? = some (.int .i64 a1) ∧ L[1]? = some (.int .i64 a2) ∧ L[2]? = some (.slice (some ⟨g1, o1, none⟩) 1 c1) ∧ L[3]? = some (.int .i64 b1) ∧ L[4]? = some (.int .i64 b2) ∧ L[5]? = some (.slice (some ⟨g2, o2, none⟩) 1 c2) ∧ L1[0]? = some (.int .i64 x) ∧ L2[0]? = some (.int .i64 y) ∧
   Own M w0 X R (⟨g, o, L⟩ :: ⟨g1, o1, L1⟩ :: ⟨g2, o2, L2⟩ :: S) w' := by
 have h1 := hO.gainN hb h
 obtain ⟨vx, vy, rfl⟩ := two_map he
 obtain ⟨hc, _, hp⟩ := h
 obtain ⟨g1, o1, c1, rfl⟩ := nums_one (hp _ List.mem_cons_self).1
 obtain ⟨g2, o2, c2, rfl⟩ := nums_one (hp _ (List.mem_cons_of_mem _ List.mem_cons_self)).1
 rcases hc with ⟨_, hc, _⟩ | ⟨g, o, c, rfl, _, _⟩
 ·cases hc
 ·refine ⟨g, o, c, g1, o1, c1, g2, o2, c2, cellsN [((a1, a2, [x]), .slice (some ⟨g1, o1, none⟩) 1 c1), ((b1, b2, [y]), .slice (some ⟨g2, o2, none⟩) 1 c2)], [.int .i64 x], [.int .i64 y], rfl, rfl, rfl, rfl, rfl, rfl, rfl, rfl, rfl, h1.sub (S' := ⟨g, o, cellsN _⟩ :: ⟨g1, o1, [.int .i64 x]⟩ :: ⟨g2, o2, [.int .i64 y]⟩ :: S) (.refl _) (.refl _) fun q hq => ?_⟩
  simp only [roN, roS, ints, List.map_cons, List.map_nil, List.cons_append, List.nil_append, List.append_nil, List.mem_cons] at hq ⊢
  grind
theorem table_len {v : Value} {l : List Rul} {n : Nat} (h : FormR v l) (hn : l.length = n) : ∃ a c, v = .slice a n c := by
 obtain ⟨a, c, rfl, _⟩ := h.view
 exact ⟨a, c, by rw [hn]⟩
set_option maxHeartbeats 16000000 in
theorem sane32_any (w : World) (ht : Tops w) : Calls Tryd.prog 9 #[] w fun e w' => e = .returned (.bool true) ∧ Below w.heap.size w w' := by
 have hO := own_tops ht
 have hp0 : ∀ w, Calls Tryd.prog 22 #[.int .u32 80, .int .u32 80] w fun e w' => e = .returned (.agg #[.int .u32 0, .int .u32 4294967295, .int .u32 0, .int .u32 4294967295, .int .u32 0, .int .u32 255, .int .u32 0, .int .u32 65535, .int .u32 80, .int .u32 80]) ∧ Below w.heap.size w w' := ports32_any 80 80
 have hp1 : ∀ w, Calls Tryd.prog 22 #[.int .u32 80, .int .u32 90] w fun e w' => e = .returned (.agg #[.int .u32 0, .int .u32 4294967295, .int .u32 0, .int .u32 4294967295, .int .u32 0, .int .u32 255, .int .u32 0, .int .u32 65535, .int .u32 80, .int .u32 90]) ∧ Below w.heap.size w w' := ports32_any 80 90
 have hp2 : ∀ w, Calls Tryd.prog 22 #[.int .u32 0, .int .u32 100] w fun e w' => e = .returned (.agg #[.int .u32 0, .int .u32 4294967295, .int .u32 0, .int .u32 4294967295, .int .u32 0, .int .u32 255, .int .u32 0, .int .u32 65535, .int .u32 0, .int .u32 100]) ∧ Below w.heap.size w w' := ports32_any 0 100
 have hp3 : ∀ w, Calls Tryd.prog 22 #[.int .u32 7, .int .u32 7] w fun e w' => e = .returned (.agg #[.int .u32 0, .int .u32 4294967295, .int .u32 0, .int .u32 4294967295, .int .u32 0, .int .u32 255, .int .u32 0, .int .u32 65535, .int .u32 7, .int .u32 7]) ∧ Below w.heap.size w w' := ports32_any 7 7
 have hp4 : ∀ w, Calls Tryd.prog 22 #[.int .u32 1, .int .u32 2] w fun e w' => e = .returned (.agg #[.int .u32 0, .int .u32 4294967295, .int .u32 0, .int .u32 4294967295, .int .u32 0, .int .u32 255, .int .u32 0, .int .u32 65535, .int .u32 1, .int .u32 2]) ∧ Below w.heap.size w w' := ports32_any 1 2
 have h1 := fun v w ht hv => sAnalyze_any (vt := v) (t := [(portB 80 80, true), (portB 80 90, false), (portB 0 100, true)]) w ht hv okT_sA (by simp)
 rw [an_sanA] at h1
 have h2 := fun v w ht hv => sAnalyze_any (vt := v) (t := [(portB 80 80, true), (portB 0 100, true), (portB 7 7, false)]) w ht hv okT_sB (by simp)
 rw [an_sanB] at h2
 have h3 := fun v w ht hv => sClean_any (vt := v) (t := [(portB 80 80, true), (portB 0 100, true), (portB 7 7, false)]) w ht hv okT_sB (by simp)
 rw [cl_sanB] at h3
 have h4 : ∀ v w, Tops w → IsTable w v [(portB 1 2, false)] → Calls Tryd.prog 12 #[v, .int .i64 0] w fun e w' => e = .returned (.tuple #[.bool true, .int .i64 0]) ∧ Below w.heap.size w w' := fun v w ht hv => by
  have h := sRemovable_any (i := 0) w ht hv okT_sC (by simp)
  rw [rm_san.1] at h
  exact h
 have h5 : ∀ w, Tops w → Calls Tryd.prog 12 #[.slice none 0 0, .int .i64 0] w fun e w' => e = .returned (.tuple #[.bool false, .int .i64 2]) ∧ Below w.heap.size w w' := fun w ht => by
  have h := sRemovable_any (i := 0) w ht (table_nil w) (fun r hr => by cases hr) (by simp)
  rw [rm_san.2] at h
  exact h
 have hTA : ∀ (wq : World) (n : Nat) (X' : List Chunk) (R' : List Row) (S' : List Ro), Own [] w (⟨n, flat [.agg #[.int .u32 0, .int .u32 4294967295, .int .u32 0, .int .u32 4294967295, .int .u32 0, .int .u32 255, .int .u32 0, .int .u32 65535, .int .u32 80, .int .u32 80, .bool true], .agg #[.int .u32 0, .int .u32 4294967295, .int .u32 0, .int .u32 4294967295, .int .u32 0, .int .u32 255, .int .u32 0, .int .u32 65535, .int .u32 80, .int .u32 90, .bool false], .agg #[.int .u32 0, .int .u32 4294967295, .int .u32 0, .int .u32 4294967295, .int .u32 0, .int .u32 255, .int .u32 0, .int .u32 65535, .int .u32 0, .int .u32 100, .bool true]], 42⟩ :: X') R' S' wq → IsTable wq (.slice (some ⟨n, 0, none⟩) 3 3) [(portB 80 80, true), (portB 80 90, false), (portB 0 100, true)] := fun wq n X' R' S' h => own_tableC (l := [(portB 80 80, true), (portB 80 90, false), (portB 0 100, true)]) h List.mem_cons_self rfl (by simp)
 have hTB : ∀ (wq : World) (n : Nat) (X' : List Chunk) (R' : List Row) (S' : List Ro), Own [] w (⟨n, flat [.agg #[.int .u32 0, .int .u32 4294967295, .int .u32 0, .int .u32 4294967295, .int .u32 0, .int .u32 255, .int .u32 0, .int .u32 65535, .int .u32 80, .int .u32 80, .bool true], .agg #[.int .u32 0, .int .u32 4294967295, .int .u32 0, .int .u32 4294967295, .int .u32 0, .int .u32 255, .int .u32 0, .int .u32 65535, .int .u32 0, .int .u32 100, .bool true], .agg #[.int .u32 0, .int .u32 4294967295, .int .u32 0, .int .u32 4294967295, .int .u32 0, .int .u32 255, .int .u32 0, .int .u32 65535, .int .u32 7, .int .u32 7, .bool false]], 42⟩ :: X') R' S' wq → IsTable wq (.slice (some ⟨n, 0, none⟩) 3 3) [(portB 80 80, true), (portB 0 100, true), (portB 7 7, false)] := fun wq n X' R' S' h => own_tableC (l := [(portB 80 80, true), (portB 0 100, true), (portB 7 7, false)]) h List.mem_cons_self rfl (by simp)
 have hTC : ∀ (wq : World) (n : Nat) (X' : List Chunk) (R' : List Row) (S' : List Ro), Own [] w (⟨n, flat [.agg #[.int .u32 0, .int .u32 4294967295, .int .u32 0, .int .u32 4294967295, .int .u32 0, .int .u32 255, .int .u32 0, .int .u32 65535, .int .u32 1, .int .u32 2, .bool false]], 42⟩ :: X') R' S' wq → IsTable wq (.slice (some ⟨n, 0, none⟩) 1 1) [(portB 1 2, false)] := fun wq n X' R' S' h => own_tableC (l := [(portB 1 2, false)]) h List.mem_cons_self rfl (by simp)
 generalize [(portB 80 80, true), (portB 80 90, false), (portB 0 100, true)] = TA at *
 generalize [(portB 80 80, true), (portB 0 100, true), (portB 7 7, false)] = TB at *
 generalize [(portB 1 2, false)] = TC at *
 generalize hcl : [(portB 0 100, true)] = TD at *
 have hl1 : TD.length = 1 := by rw [← hcl]; rfl
 clear hcl
 go_enter Tryd.func9, Tryd.ntmps9
 go_upto_region 6 with (first | refine ldNT ?_ | ((first | refine stNT hO ?_ | refine st1NT hO ?_); clear hO; intro wv hO) | (refine bl9T 49 hO ?_; clear hO; intro n49 wv hO) | (go_at_call 22; (with_reducible refine (hp0 _).mono ?_); rintro e wv ⟨rfl, hb9⟩; replace hO := hO.call hb9; clear hb9) | (go_at_call 22; (with_reducible refine (hp1 _).mono ?_); rintro e wv ⟨rfl, hb9⟩; replace hO := hO.call hb9; clear hb9) | (go_at_call 22; (with_reducible refine (hp2 _).mono ?_); rintro e wv ⟨rfl, hb9⟩; replace hO := hO.call hb9; clear hb9) | (go_at_call 22; (with_reducible refine (hp3 _).mono ?_); rintro e wv ⟨rfl, hb9⟩; replace hO := hO.call hb9; clear hb9) | (go_at_call 22; (with_reducible refine (hp4 _).mono ?_); rintro e wv ⟨rfl, hb9⟩; replace hO := hO.call hb9; clear hb9) | ((with_reducible refine is_build ?_); (refine' own_buildN (o := ⟨some 19, _, _, _, _, _⟩) [.agg #[.int .u32 0, .int .u32 4294967295, .int .u32 0, .int .u32 4294967295, .int .u32 0, .int .u32 255, .int .u32 0, .int .u32 65535, .int .u32 80, .int .u32 80, .bool true], .agg #[.int .u32 0, .int .u32 4294967295, .int .u32 0, .int .u32 4294967295, .int .u32 0, .int .u32 255, .int .u32 0, .int .u32 65535, .int .u32 80, .int .u32 90, .bool false], .agg #[.int .u32 0, .int .u32 4294967295, .int .u32 0, .int .u32 4294967295, .int .u32 0, .int .u32 255, .int .u32 0, .int .u32 65535, .int .u32 0, .int .u32 100, .bool true]] hO (by rfl) rfl slice_Table rfl rfl (by rfl) (by decide) (by decide) ?_); clear hO; intro n19 wv hO) | ((with_reducible refine is_build ?_); (refine' own_buildN (o := ⟨some 30, _, _, _, _, _⟩) [.agg #[.int .u32 0, .int .u32 4294967295, .int .u32 0, .int .u32 4294967295, .int .u32 0, .int .u32 255, .int .u32 0, .int .u32 65535, .int .u32 80, .int .u32 80, .bool true], .agg #[.int .u32 0, .int .u32 4294967295, .int .u32 0, .int .u32 4294967295, .int .u32 0, .int .u32 255, .int .u32 0, .int .u32 65535, .int .u32 0, .int .u32 100, .bool true], .agg #[.int .u32 0, .int .u32 4294967295, .int .u32 0, .int .u32 4294967295, .int .u32 0, .int .u32 255, .int .u32 0, .int .u32 65535, .int .u32 7, .int .u32 7, .bool false]] hO (by rfl) rfl slice_Table rfl rfl (by rfl) (by decide) (by decide) ?_); clear hO; intro n30 wv hO) | ((with_reducible refine is_build ?_); (refine' own_buildN (o := ⟨some 41, _, _, _, _, _⟩) [.agg #[.int .u32 0, .int .u32 4294967295, .int .u32 0, .int .u32 4294967295, .int .u32 0, .int .u32 255, .int .u32 0, .int .u32 65535, .int .u32 80, .int .u32 80, .bool true], .agg #[.int .u32 0, .int .u32 4294967295, .int .u32 0, .int .u32 4294967295, .int .u32 0, .int .u32 255, .int .u32 0, .int .u32 65535, .int .u32 0, .int .u32 100, .bool true], .agg #[.int .u32 0, .int .u32 4294967295, .int .u32 0, .int .u32 4294967295, .int .u32 0, .int .u32 255, .int .u32 0, .int .u32 65535, .int .u32 7, .int .u32 7, .bool false]] hO (by rfl) rfl slice_Table rfl rfl (by rfl) (by decide) (by decide) ?_); clear hO; intro n41 wv hO) | ((with_reducible refine is_build ?_); (refine' own_buildN (o := ⟨some 49, _, _, _, _, _⟩) [.agg #[.int .u32 0, .int .u32 4294967295, .int .u32 0, .int .u32 4294967295, .int .u32 0, .int .u32 255, .int .u32 0, .int .u32 65535, .int .u32 1, .int .u32 2, .bool false]] hO (by rfl) rfl slice_Table rfl rfl (by rfl) (by decide) (by decide) ?_); clear hO; intro n49 wv hO) | (go_at_call 13; (with_reducible refine (h1 _ _ (hO.tops ht (by simp)) (hTA _ _ _ _ _ hO)).mono ?_); rintro e wv ⟨v1, ps, rfl, he1, hv9, hb9⟩; obtain ⟨gm, om, cm, gmx, omx, cmx, gmy, omy, cmy, Lm, Lmx, Lmy, rfl, fm0, fm1, fm2, fm3, fm4, fm5, fm6, fm7, hO1⟩ := finds_two hO hb9 hv9 he1; replace hO := hO1; clear hO1 hb9 hv9 he1; clear h1) | (go_at_call 13; (with_reducible refine (h2 _ _ (hO.tops ht (by simp)) (hTB _ _ _ _ _ hO)).mono ?_); rintro e wv ⟨v1, ps, rfl, he1, hv9, hb9⟩; obtain ⟨gk, ok, ck, gkx, okx, ckx, gky, oky, cky, Lk, Lkx, Lky, rfl, fk0, fk1, fk2, fk3, fk4, fk5, fk6, fk7, hO1⟩ := finds_two hO hb9 hv9 he1; replace hO := hO1; clear hO1 hb9 hv9 he1; clear h2) | (go_at_call 8; (with_reducible refine (h3 _ _ (hO.tops ht (by simp)) (hTB _ _ _ _ _ hO)).mono ?_); rintro e wv ⟨v3, r3, rfl, hv9, -, hr9, -, hb9⟩; obtain ⟨a3, c3, rfl⟩ := table_len hv9.form hl1; obtain ⟨a4, c4, rfl, -⟩ := FormC.view (show FormC r3 2 from isCells_form hr9); replace hO := hO.call hb9; clear hb9 hv9 hr9) | (go_at_call 12; (with_reducible refine (h4 _ _ (hO.tops ht (by simp)) (hTC _ _ _ _ _ hO)).mono ?_); rintro e wv ⟨rfl, hb9⟩; replace hO := hO.call hb9; clear hb9) | (go_at_call 12; (with_reducible refine (h5 _ (hO.tops ht (by simp))).mono ?_); rintro e wv ⟨rfl, hb9⟩; replace hO := hO.call hb9; clear hb9))
 have qm1 := hO.ro ⟨gm, om, Lm⟩ (by (repeat (first | exact List.mem_cons_self | refine List.mem_cons_of_mem _ ?_))) 1 _ fm1
 have qm2 := hO.ro ⟨gm, om, Lm⟩ (by (repeat (first | exact List.mem_cons_self | refine List.mem_cons_of_mem _ ?_))) 2 _ fm2
 have qm3 := hO.ro ⟨gm, om, Lm⟩ (by (repeat (first | exact List.mem_cons_self | refine List.mem_cons_of_mem _ ?_))) 3 _ fm3
 have qm5 := hO.ro ⟨gm, om, Lm⟩ (by (repeat (first | exact List.mem_cons_self | refine List.mem_cons_of_mem _ ?_))) 5 _ fm5
 have qk1 := hO.ro ⟨gk, ok, Lk⟩ (by (repeat (first | exact List.mem_cons_self | refine List.mem_cons_of_mem _ ?_))) 1 _ fk1
 have qk2 := hO.ro ⟨gk, ok, Lk⟩ (by (repeat (first | exact List.mem_cons_self | refine List.mem_cons_of_mem _ ?_))) 2 _ fk2
 have qk4 := hO.ro ⟨gk, ok, Lk⟩ (by (repeat (first | exact List.mem_cons_self | refine List.mem_cons_of_mem _ ?_))) 4 _ fk4
 have qm35 : _ = _ := (show om + 5 = om + 3 + 2 by omega) ▸ qm5
 have qk34 : _ = _ := (show ok + 4 = ok + 3 + 1 by omega) ▸ qk4
 have rmx := hO.ro ⟨gmx, omx, Lmx⟩ (by (repeat (first | exact List.mem_cons_self | refine List.mem_cons_of_mem _ ?_))) 0 _ fm6
 rw [Nat.add_zero] at rmx
 have rmy := hO.ro ⟨gmy, omy, Lmy⟩ (by (repeat (first | exact List.mem_cons_self | refine List.mem_cons_of_mem _ ?_))) 0 _ fm7
 rw [Nat.add_zero] at rmy
 have rkx := hO.ro ⟨gkx, okx, Lkx⟩ (by (repeat (first | exact List.mem_cons_self | refine List.mem_cons_of_mem _ ?_))) 0 _ fk6
 rw [Nat.add_zero] at rkx
 have rky := hO.ro ⟨gky, oky, Lky⟩ (by (repeat (first | exact List.mem_cons_self | refine List.mem_cons_of_mem _ ?_))) 0 _ fk7
 rw [Nat.add_zero] at rky
 go_wp2_with (first | refine ldNT ?_ | ((first | refine stNT hO ?_ | refine st1NT hO ?_); clear hO; intro wv hO) | (refine bl9T 49 hO ?_; clear hO; intro n49 wv hO))
 go_ret
 exact ⟨rfl, hO.keep.below⟩
end Go.Proofs.YtjoionnnpjajmaaDoor
