/- The examples of the law of optimizations. -/
import Derived.Test.YtbdfblgdmappeaaGreatDoorQL
import Derived.Test.YtbdfblgdmappeaaGreatDoorQJ
import Derived.Test.YtbdfblgdmappeaaGreatDoorQI
namespace Go.Proofs.YtbdfblgdmappeaaGreatDoor
open Go.RowKit
set_option maxRecDepth 100000
theorem costC (rg : Bool) : CostC rg (cosF rg) := ⟨fun b kb w ht hw => eCost_any rg b kb w ht hw, fun b kb => by have := cosF_bd rg kb; omega⟩
theorem st_of36 {t : List Rul} {i : Nat} {b : Bool} (h : (stF t i).map (·.2) = some b) : ∃ e, stF t i = some (e, b) := by
 cases hs : stF t i with
 | none => rw [hs] at h; cases h
 | some x => rw [hs] at h; cases h; exact ⟨x.1, rfl⟩
theorem sa_sanA : ((stF [(portB 80 80, true), (portB 81 81, true)] 0).map (·.2) = some false ∧ (stF [(portB 80 80, true), (portB 81 81, true)] 1).map (·.2) = some false) ∧ (stF [(portB 80 81, true)] 0).map (·.2) = some false ∧ mergB [(portB 80 80, true), (portB 81 81, true)] 0 1 = true ∧ costB (cosF true) [(portB 80 80, true), (portB 81 81, true)] 0 1 = true ∧ validT [(portB 80 80, true), (portB 81 81, true)] = true ∧ mergT [(portB 80 80, true), (portB 81 81, true)] 0 1 = [(portB 80 81, true)] := by decide +kernel
theorem sa_sanB : ((stF [(portB 80 80, true), (portB 81 81, false), (portB 81 81, true)] 0).map (·.2) = some false ∧ (stF [(portB 80 80, true), (portB 81 81, false), (portB 81 81, true)] 1).map (·.2) = some false ∧ (stF [(portB 80 80, true), (portB 81 81, false), (portB 81 81, true)] 2).map (·.2) = some true) ∧ ((stF [(portB 80 80, true), (portB 81 81, false)] 0).map (·.2) = some false ∧ (stF [(portB 80 80, true), (portB 81 81, false)] 1).map (·.2) = some true) ∧ (stF [(portB 80 80, true)] 0).map (·.2) = some false ∧ validT [(portB 80 80, true), (portB 81 81, false), (portB 81 81, true)] = true := by decide +kernel
theorem ap_sanB : apF [(portB 80 80, true), (portB 81 81, false), (portB 81 81, true)] (2, 0, 2) = ([], 18) := by decide +kernel
theorem ap_sanC : apF [(portB 80 80, true), (portB 81 81, false)] (3, 0, 0) = ([(portB 81 81, false), (portB 80 80, true)], 0) := by decide +kernel
theorem ap_san0 : apF [] (0, 0, 0) = ([], 1) := by decide +kernel
theorem drF_no {t : List Rul} {i : Nat} (hi : i < t.length) (h : (stF t i).map (·.2) = some false) : drF t i = drF t (i + 1) := by
 obtain ⟨e, h⟩ := st_of36 h
 exact drF_go hi h
theorem drF_yes {t : List Rul} {i : Nat} (hi : i < t.length) (h : (stF t i).map (·.2) = some true) : drF t i = some (some i) := by
 obtain ⟨e, h⟩ := st_of36 h
 exact drF_hit hi h
theorem miF_one {cf : Bx → Int} {r : Rul} : miF cf [r] 0 = none := by
 rw [miF_go (by simp) (mjF_end (by simp)), miF_end (by simp)]
theorem op_sanA : opR (cosF true) [(portB 80 80, true), (portB 81 81, true)] = ([(portB 80 81, true)], [(2, 0, 1)], 0) := by
 obtain ⟨⟨h0, h1⟩, h2, h3, h4, h5, h6⟩ := sa_sanA
 refine opR_some h5 ?_
 have hd : drF [(portB 80 80, true), (portB 81 81, true)] 0 = some none := by rw [drF_no (by simp) h0, drF_no (by simp) h1, drF_end (by simp)]
 have hm : miF (cosF true) [(portB 80 80, true), (portB 81 81, true)] 0 = some (0, 1) := miF_hit (by simp) (mjF_hit (by simp) h3 h4)
 rw [opF_merge hd hm (by omega) (by simp), h6]
 exact opF_end (by rw [drF_no (by simp) h2, drF_end (by simp)]) miF_one
theorem op_sanB : opR (cosF true) [(portB 80 80, true), (portB 81 81, false), (portB 81 81, true)] = ([(portB 80 80, true)], [(1, 2, 0), (1, 1, 0)], 0) := by
 obtain ⟨⟨h0, h1, h2⟩, ⟨h3, h4⟩, h5, h6⟩ := sa_sanB
 refine opR_some h6 ?_
 rw [opF_drop (i := 2) (by rw [drF_no (by simp) h0, drF_no (by simp) h1, drF_yes (by simp) h2]) (by simp)]
 show opF (cosF true) [(portB 80 80, true), (portB 81 81, false)] [(1, 2, 0)] = _
 rw [opF_drop (i := 1) (by rw [drF_no (by simp) h3, drF_yes (by simp) h4]) (by simp)]
 show opF (cosF true) [(portB 80 80, true)] [(1, 2, 0), (1, 1, 0)] = _
 exact opF_end (by rw [drF_no (by simp) h5, drF_end (by simp)]) miF_one
theorem okT_oA : okT [(portB 80 80, true), (portB 81 81, true)] := fun r hr => by
 simp only [List.mem_cons, List.not_mem_nil, or_false] at hr
 rcases hr with rfl | rfl <;> exact (portB_good (by decide) (by decide) (by decide)).ok
theorem okT_oB : okT [(portB 80 80, true), (portB 81 81, false), (portB 81 81, true)] := fun r hr => by
 simp only [List.mem_cons, List.not_mem_nil, or_false] at hr
 rcases hr with rfl | rfl | rfl <;> exact (portB_good (by decide) (by decide) (by decide)).ok
theorem okT_oC : okT [(portB 80 80, true), (portB 81 81, false)] := fun r hr => by
 simp only [List.mem_cons, List.not_mem_nil, or_false] at hr
 rcases hr with rfl | rfl <;> exact (portB_good (by decide) (by decide) (by decide)).ok
theorem run_eql_o36 (w : World) : (binOp .eql 100 (.agg #[.int .u32 0, .int .u32 4294967295, .int .u32 0, .int .u32 4294967295, .int .u32 0, .int .u32 255, .int .u32 0, .int .u32 65535, .int .u32 80, .int .u32 81, .bool true]) (.agg #[.int .u32 0, .int .u32 4294967295, .int .u32 0, .int .u32 4294967295, .int .u32 0, .int .u32 255, .int .u32 0, .int .u32 65535, .int .u32 80, .int .u32 81, .bool true])).run Tryz.prog w = .ok (.bool true) w := by kernel_rfl
theorem table_got {v : Value} {l : List Rul} {n : Nat} (h : FormR v l) (hn : l.length = n) (h0 : 0 < n) : ∃ g o c, v = .slice (some ⟨g, o, none⟩) n c := by
 rcases h with ⟨_, rfl⟩ | ⟨g, o, c, rfl, _⟩
 ·simp at hn; omega
 ·exact ⟨g, o, c, by rw [hn]⟩
attribute [go_sem high] run_eql_o36
set_option maxHeartbeats 16000000 in
theorem sane36_any (w : World) (ht : Tops w) (hw : Wid w) : Calls Tryz.prog 17 #[] w fun e w' => e = .returned (.bool true) ∧ Below w.heap.size w w' := by
 have hO := own_tops ht
 have hp0 : ∀ w, Calls Tryz.prog 42 #[.int .u32 80, .int .u32 80, .bool true] w fun e w' => e = .returned (.agg #[.int .u32 0, .int .u32 4294967295, .int .u32 0, .int .u32 4294967295, .int .u32 0, .int .u32 255, .int .u32 0, .int .u32 65535, .int .u32 80, .int .u32 80, .bool true]) ∧ Below w.heap.size w w' := ports36_any 80 80 true
 have hp1 : ∀ w, Calls Tryz.prog 42 #[.int .u32 81, .int .u32 81, .bool true] w fun e w' => e = .returned (.agg #[.int .u32 0, .int .u32 4294967295, .int .u32 0, .int .u32 4294967295, .int .u32 0, .int .u32 255, .int .u32 0, .int .u32 65535, .int .u32 81, .int .u32 81, .bool true]) ∧ Below w.heap.size w w' := ports36_any 81 81 true
 have hp2 : ∀ w, Calls Tryz.prog 42 #[.int .u32 81, .int .u32 81, .bool false] w fun e w' => e = .returned (.agg #[.int .u32 0, .int .u32 4294967295, .int .u32 0, .int .u32 4294967295, .int .u32 0, .int .u32 255, .int .u32 0, .int .u32 65535, .int .u32 81, .int .u32 81, .bool false]) ∧ Below w.heap.size w w' := ports36_any 81 81 false
 have hp3 : ∀ w, Calls Tryz.prog 42 #[.int .u32 80, .int .u32 81, .bool true] w fun e w' => e = .returned (.agg #[.int .u32 0, .int .u32 4294967295, .int .u32 0, .int .u32 4294967295, .int .u32 0, .int .u32 255, .int .u32 0, .int .u32 65535, .int .u32 80, .int .u32 81, .bool true]) ∧ Below w.heap.size w w' := ports36_any 80 81 true
 have h1 := fun v w ht hw hv => oOptimize_any (costC true) (vt := v) (t := [(portB 80 80, true), (portB 81 81, true)]) w ht hw hv okT_oA (by simp)
 rw [op_sanA] at h1
 have h2 := fun v w ht hw hv => oOptimize_any (costC true) (vt := v) (t := [(portB 80 80, true), (portB 81 81, false), (portB 81 81, true)]) w ht hw hv okT_oB (by simp)
 rw [op_sanB] at h2
 have h3 : ∀ v w, Tops w → IsTable w v [(portB 80 80, true), (portB 81 81, false), (portB 81 81, true)] → Calls Tryz.prog 14 #[v, .agg #[.int .i64 2, .int .i64 0, .int .i64 2]] w (ApPost w ([], 18)) := fun v w ht hv => by
  have h := oApply_any 2 0 2 w ht hv okT_oB (by simp)
  rw [ap_sanB] at h
  exact h
 have h4 : ∀ v w, Tops w → IsTable w v [(portB 80 80, true), (portB 81 81, false)] → Calls Tryz.prog 14 #[v, .agg #[.int .i64 3, .int .i64 0, .int .i64 0]] w (ApPost w ([(portB 81 81, false), (portB 80 80, true)], 0)) := fun v w ht hv => by
  have h := oApply_any 3 0 0 w ht hv okT_oC (by simp)
  rw [ap_sanC] at h
  exact h
 have h5 : ∀ w, Tops w → Calls Tryz.prog 14 #[.slice none 0 0, .agg #[.int .i64 0, .int .i64 0, .int .i64 0]] w (ApPost w ([], 1)) := fun w ht => by
  have h := oApply_any (t := []) 0 0 0 w ht (show IsTable w (.slice none 0 0) [] from .inl ⟨rfl, rfl⟩) (fun r hr => absurd hr List.not_mem_nil) (by simp)
  rw [ap_san0] at h
  exact h
 have hTA : ∀ (wq : World) (n : Nat) (X' : List Chunk) (R' : List Row) (S' : List Ro), Own [] w (⟨n, flat [.agg #[.int .u32 0, .int .u32 4294967295, .int .u32 0, .int .u32 4294967295, .int .u32 0, .int .u32 255, .int .u32 0, .int .u32 65535, .int .u32 80, .int .u32 80, .bool true], .agg #[.int .u32 0, .int .u32 4294967295, .int .u32 0, .int .u32 4294967295, .int .u32 0, .int .u32 255, .int .u32 0, .int .u32 65535, .int .u32 81, .int .u32 81, .bool true]], 100⟩ :: X') R' S' wq → IsTable wq (.slice (some ⟨n, 0, none⟩) 2 2) [(portB 80 80, true), (portB 81 81, true)] := fun wq n X' R' S' h => own_tableC (l := [(portB 80 80, true), (portB 81 81, true)]) h List.mem_cons_self rfl (by simp)
 have hTB : ∀ (wq : World) (n : Nat) (X' : List Chunk) (R' : List Row) (S' : List Ro), Own [] w (⟨n, flat [.agg #[.int .u32 0, .int .u32 4294967295, .int .u32 0, .int .u32 4294967295, .int .u32 0, .int .u32 255, .int .u32 0, .int .u32 65535, .int .u32 80, .int .u32 80, .bool true], .agg #[.int .u32 0, .int .u32 4294967295, .int .u32 0, .int .u32 4294967295, .int .u32 0, .int .u32 255, .int .u32 0, .int .u32 65535, .int .u32 81, .int .u32 81, .bool false], .agg #[.int .u32 0, .int .u32 4294967295, .int .u32 0, .int .u32 4294967295, .int .u32 0, .int .u32 255, .int .u32 0, .int .u32 65535, .int .u32 81, .int .u32 81, .bool true]], 100⟩ :: X') R' S' wq → IsTable wq (.slice (some ⟨n, 0, none⟩) 3 3) [(portB 80 80, true), (portB 81 81, false), (portB 81 81, true)] := fun wq n X' R' S' h => own_tableC (l := [(portB 80 80, true), (portB 81 81, false), (portB 81 81, true)]) h List.mem_cons_self rfl (by simp)
 have hTC : ∀ (wq : World) (n : Nat) (X' : List Chunk) (R' : List Row) (S' : List Ro), Own [] w (⟨n, flat [.agg #[.int .u32 0, .int .u32 4294967295, .int .u32 0, .int .u32 4294967295, .int .u32 0, .int .u32 255, .int .u32 0, .int .u32 65535, .int .u32 80, .int .u32 80, .bool true], .agg #[.int .u32 0, .int .u32 4294967295, .int .u32 0, .int .u32 4294967295, .int .u32 0, .int .u32 255, .int .u32 0, .int .u32 65535, .int .u32 81, .int .u32 81, .bool false]], 100⟩ :: X') R' S' wq → IsTable wq (.slice (some ⟨n, 0, none⟩) 2 2) [(portB 80 80, true), (portB 81 81, false)] := fun wq n X' R' S' h => own_tableC (l := [(portB 80 80, true), (portB 81 81, false)]) h List.mem_cons_self rfl (by simp)
 have hlA : ([(portB 80 81, true)] : List Rul).length = 1 := rfl
 have hlB : ([(portB 80 80, true)] : List Rul).length = 1 := rfl
 have hlC : ([(portB 81 81, false), (portB 80 80, true)] : List Rul).length = 2 := rfl
 have hcA : cellsR [(portB 80 81, true)] = [.int .u32 0, .int .u32 4294967295, .int .u32 0, .int .u32 4294967295, .int .u32 0, .int .u32 255, .int .u32 0, .int .u32 65535, .int .u32 80, .int .u32 81, .bool true] := rfl
 have hcC : cellsR [(portB 81 81, false), (portB 80 80, true)] = [.int .u32 0, .int .u32 4294967295, .int .u32 0, .int .u32 4294967295, .int .u32 0, .int .u32 255, .int .u32 0, .int .u32 65535, .int .u32 81, .int .u32 81, .bool false, .int .u32 0, .int .u32 4294967295, .int .u32 0, .int .u32 4294967295, .int .u32 0, .int .u32 255, .int .u32 0, .int .u32 65535, .int .u32 80, .int .u32 80, .bool true] := rfl
 generalize [(portB 80 80, true), (portB 81 81, true)] = TA at *
 generalize [(portB 80 80, true), (portB 81 81, false), (portB 81 81, true)] = TB at *
 generalize [(portB 80 80, true), (portB 81 81, false)] = TC at *
 generalize [(portB 81 81, false), (portB 80 80, true)] = RC at *
 generalize [(portB 80 81, true)] = RA at *
 generalize [(portB 80 80, true)] = RB at *
 have HlA := Lib.hid hlA
 have HlB := Lib.hid hlB
 have HlC := Lib.hid hlC
 have HcA := Lib.hid hcA
 have HcC := Lib.hid hcC
 clear hlA hlB hlC hcA hcC
 go_enter Tryz.func17, Tryz.ntmps17
 go_upto_region 6 with (first | (go_at_call 42; (with_reducible refine (hp0 _).mono ?_); rintro e wv ⟨rfl, hb9⟩; replace hO := hO.call hb9; clear hb9) | (go_at_call 42; (with_reducible refine (hp1 _).mono ?_); rintro e wv ⟨rfl, hb9⟩; replace hO := hO.call hb9; clear hb9) | (go_at_call 42; (with_reducible refine (hp2 _).mono ?_); rintro e wv ⟨rfl, hb9⟩; replace hO := hO.call hb9; clear hb9) | ((with_reducible refine is_build ?_); (refine' own_buildN (o := ⟨some 16, _, _, _, _, _⟩) [.agg #[.int .u32 0, .int .u32 4294967295, .int .u32 0, .int .u32 4294967295, .int .u32 0, .int .u32 255, .int .u32 0, .int .u32 65535, .int .u32 80, .int .u32 80, .bool true], .agg #[.int .u32 0, .int .u32 4294967295, .int .u32 0, .int .u32 4294967295, .int .u32 0, .int .u32 255, .int .u32 0, .int .u32 65535, .int .u32 81, .int .u32 81, .bool true]] hO (by rfl) rfl slice_Table rfl rfl (by rfl) (by decide) (by decide) ?_); clear hO; intro n16 wv hO) | ((with_reducible refine is_build ?_); (refine' own_buildN (o := ⟨some 25, _, _, _, _, _⟩) [.agg #[.int .u32 0, .int .u32 4294967295, .int .u32 0, .int .u32 4294967295, .int .u32 0, .int .u32 255, .int .u32 0, .int .u32 65535, .int .u32 80, .int .u32 80, .bool true], .agg #[.int .u32 0, .int .u32 4294967295, .int .u32 0, .int .u32 4294967295, .int .u32 0, .int .u32 255, .int .u32 0, .int .u32 65535, .int .u32 81, .int .u32 81, .bool false], .agg #[.int .u32 0, .int .u32 4294967295, .int .u32 0, .int .u32 4294967295, .int .u32 0, .int .u32 255, .int .u32 0, .int .u32 65535, .int .u32 81, .int .u32 81, .bool true]] hO (by rfl) rfl slice_Table rfl rfl (by rfl) (by decide) (by decide) ?_); clear hO; intro n25 wv hO) | ((with_reducible refine is_build ?_); (refine' own_buildN (o := ⟨some 34, _, _, _, _, _⟩) [.agg #[.int .u32 0, .int .u32 4294967295, .int .u32 0, .int .u32 4294967295, .int .u32 0, .int .u32 255, .int .u32 0, .int .u32 65535, .int .u32 80, .int .u32 80, .bool true], .agg #[.int .u32 0, .int .u32 4294967295, .int .u32 0, .int .u32 4294967295, .int .u32 0, .int .u32 255, .int .u32 0, .int .u32 65535, .int .u32 81, .int .u32 81, .bool false], .agg #[.int .u32 0, .int .u32 4294967295, .int .u32 0, .int .u32 4294967295, .int .u32 0, .int .u32 255, .int .u32 0, .int .u32 65535, .int .u32 81, .int .u32 81, .bool true]] hO (by rfl) rfl slice_Table rfl rfl (by rfl) (by decide) (by decide) ?_); clear hO; intro n34 wv hO) | ((with_reducible refine is_build ?_); (refine' own_buildN (o := ⟨some 42, _, _, _, _, _⟩) [.agg #[.int .u32 0, .int .u32 4294967295, .int .u32 0, .int .u32 4294967295, .int .u32 0, .int .u32 255, .int .u32 0, .int .u32 65535, .int .u32 80, .int .u32 80, .bool true], .agg #[.int .u32 0, .int .u32 4294967295, .int .u32 0, .int .u32 4294967295, .int .u32 0, .int .u32 255, .int .u32 0, .int .u32 65535, .int .u32 81, .int .u32 81, .bool false]] hO (by rfl) rfl slice_Table rfl rfl (by rfl) (by decide) (by decide) ?_); clear hO; intro n42 wv hO) | (go_at_call 18; (with_reducible refine (h1 _ _ (hO.tops ht (by simp)) (hO.wid hw (by simp)) (hTA _ _ _ _ _ hO)).mono ?_); rintro e wv ⟨va, vr, rfl, hv9, hn9, hr9, -, hb9⟩; obtain ⟨gA, oA, cA, rfl⟩ := table_got hv9.form HlA.out (by omega); obtain ⟨a4, c4, rfl, -⟩ := hr9.view; replace hO := hO.gainR hb9 hv9 hn9; simp only [roS, HcA.out, List.cons_append, List.nil_append] at hO; clear hb9 hv9 hr9 hn9 h1; (obtain ⟨z9, hz9⟩ : ∃ z : Nat, z = 0 := ⟨0, rfl⟩); (obtain ⟨qA, hqA⟩ : ∃ q, oA = q + z9 := ⟨oA, by omega⟩); subst hqA; (rw [show qA + z9 = qA by omega] at hO); (have tA : List.take ([.int .u32 0, .int .u32 4294967295, .int .u32 0, .int .u32 4294967295, .int .u32 0, .int .u32 255, .int .u32 0, .int .u32 65535, .int .u32 80, .int .u32 81, .bool true] : List Value).length (List.drop z9 ([.int .u32 0, .int .u32 4294967295, .int .u32 0, .int .u32 4294967295, .int .u32 0, .int .u32 255, .int .u32 0, .int .u32 65535, .int .u32 80, .int .u32 81, .bool true] : List Value)) = ([.int .u32 0, .int .u32 4294967295, .int .u32 0, .int .u32 4294967295, .int .u32 0, .int .u32 255, .int .u32 0, .int .u32 65535, .int .u32 80, .int .u32 81, .bool true] : List Value) := (by rw [hz9]; rfl)); (have Hz := Lib.hid hz9); clear hz9) | (go_at_call 18; (with_reducible refine (h2 _ _ (hO.tops ht (by simp)) (hO.wid hw (by simp)) (hTB _ _ _ _ _ hO)).mono ?_); rintro e wv ⟨va, vr, rfl, hv9, hn9, hr9, -, hb9⟩; obtain ⟨gB, oB, cB, rfl⟩ := table_got hv9.form HlB.out (by omega); obtain ⟨a5, c5, rfl, -⟩ := hr9.view; replace hO := hO.call hb9; clear hb9 hv9 hr9 hn9 h2) | (go_at_call 14; (with_reducible refine (h3 _ _ (hO.tops ht (by simp)) (hTB _ _ _ _ _ hO)).mono ?_); rintro e wv ⟨va, rfl, hv9, -, hb9⟩; obtain ⟨a6, c6, rfl, -⟩ := hv9.view; replace hO := hO.call hb9; clear hb9 hv9 h3) | (go_at_call 14; (with_reducible refine (h4 _ _ (hO.tops ht (by simp)) (hTC _ _ _ _ _ hO)).mono ?_); rintro e wv ⟨va, rfl, hv9, hn9, hb9⟩; obtain ⟨gC, oC, cC, rfl⟩ := table_got hv9.form HlC.out (by omega); replace hO := hO.gainR hb9 hv9 hn9; simp only [roS, HcC.out, List.cons_append, List.nil_append] at hO; clear hb9 hv9 hn9 h4) | (go_at_call 14; (with_reducible refine (h5 _ (hO.tops ht (by simp))).mono ?_); rintro e wv ⟨va, rfl, hv9, -, hb9⟩; obtain ⟨a7, c7, rfl, -⟩ := hv9.view; replace hO := hO.call hb9; clear hb9 hv9 h5))
 clear hTA hTB hTC HlA HlB HlC HcA HcC
 (refine own_quiet hO (by kernel_rfl) (by kernel_rfl) ?_; clear hO; (repeat (go_big_quiet_want; (first | ((with_reducible refine is_loadQ ?_); (refine q_ldQ (h := ?_)); (try simp only [Act.put]); (try simp only [sI9, sZ9, sS9]); go_big_quiet_on) | (go_big_quiet_op; (first | go_big_quiet_on | ((refine ⟨_, fun _ _ => rfl, ?_⟩); go_big_quiet_on) | go_big_quiet_call ((intro hq; go_at_call 42; exact q_call (hp3 _) hq))))))); (refine wpQuiet_nil ?_); intro wv hO)
 go_wp2_with fail
 go_ret
 exact ⟨rfl, hO.keep.below⟩
end Go.Proofs.YtbdfblgdmappeaaGreatDoor
