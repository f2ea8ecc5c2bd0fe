/- CalendarFormats: the walk. -/
import Derived.Test.YtfhkmkbfgmbbaaaGreatDoorNB
import Derived.Test.YtfhkmkbfgmbbaaaGreatDoorNA
import Derived.Test.YtfhkmkbfgmbbaaaGreatDoorMO
import Derived.Test.YtfhkmkbfgmbbaaaGreatDoorMJ
import Derived.Test.YtfhkmkbfgmbbaaaGreatDoorMB
namespace Go.Proofs.YtfhkmkbfgmbbaaaGreatDoor
open Go.RowKit
set_option maxRecDepth 100000
theorem slice_RangesF : SliceT Tryz.prog 34 23 1 24 := ⟨Tryz.underlying34, by omega, by
  obtain ⟨i, h1, h2, h3, h4⟩ := info_parts (show (Tryz.prog.info? 23).map (fun i => (i.zero, i.size, i.bytes)) = some (some (.slice none 0 0), 1, 24) by kernel_rfl)
  exact ⟨i, _, h1, h2, h3, h4, rfl⟩⟩
theorem segR_len (Ks : List (List Rg)) : (segR Ks 10079).length ≤ 10080 := by
  have h1 : ∀ n, (mins n).length = n := fun n => by
    induction n with
    | zero => rfl
    | succ n ih => rw [mins, List.length_append, ih]; rfl
  have h2 := List.length_filter_le (fun m => Ks.any fun l => turnB l m) (mins 10079)
  rw [h1] at h2
  unfold segR
  rw [List.length_cons]
  omega
def Lok (K : List Rg) : Prop := K.length ≤ 1000 ∧ BndR K
theorem segs3 {v1 v2 v3 vl : Value} {K1 K2 K3 : List Rg} (k1 : Lok K1) (k2 : Lok K2) (k3 : Lok K3) (w : World) (hv : IsCells w vl 3 [v1, v2, v3]) (h1 : IsCells w v1 K1.length (rcs K1)) (h2 : IsCells w v2 K2.length (rcs K2)) (h3 : IsCells w v3 K3.length (rcs K3)) :
    Calls Tryz.prog 14 #[vl] w (RetInts w (segR [K1, K2, K3] 10079)) ∧ Calls Tryz.prog 15 #[vl] w (RetInts w (segR [K1, K2, K3] 10079)) := by
  have a1 : ∀ k (h : k < [K1, K2, K3].length), IsCells w ([v1, v2, v3][k]'h) [K1, K2, K3][k].length (rcs [K1, K2, K3][k]) := fun k h => by
    match k, h with
    | 0, _ => exact h1
    | 1, _ => exact h2
    | 2, _ => exact h3
  have a2 : ∀ K ∈ [K1, K2, K3], K.length ≤ 100000 ∧ BndR K := fun K hK => by
    simp only [List.mem_cons, List.not_mem_nil, or_false] at hK
    rcases hK with rfl | rfl | rfl
    · exact ⟨by have := k1.1; omega, k1.2⟩
    · exact ⟨by have := k2.1; omega, k2.2⟩
    · exact ⟨by have := k3.1; omega, k3.2⟩
  exact ⟨segs_any (vs := [v1, v2, v3]) (Ks := [K1, K2, K3]) w rfl hv a1 (by simp) (fun K h => (a2 K h).1) (fun K h => (a2 K h).2), rsegs_any (vs := [v1, v2, v3]) (Ks := [K1, K2, K3]) w rfl hv a1 (by simp) (fun K h => (a2 K h).1) (fun K h => (a2 K h).2)⟩
theorem segs1 {v1 vl : Value} {K1 : List Rg} (k1 : Lok K1) (w : World) (hv : IsCells w vl 1 [v1]) (h1 : IsCells w v1 K1.length (rcs K1)) :
    Calls Tryz.prog 14 #[vl] w (RetInts w (segR [K1] 10079)) ∧ Calls Tryz.prog 15 #[vl] w (RetInts w (segR [K1] 10079)) := by
  have a1 : ∀ k (h : k < [K1].length), IsCells w ([v1][k]'h) [K1][k].length (rcs [K1][k]) := fun k h => by
    match k, h with
    | 0, _ => exact h1
  have a2 : ∀ K ∈ [K1], K.length ≤ 100000 ∧ BndR K := fun K hK => by
    obtain rfl := List.mem_singleton.1 hK
    exact ⟨by have := k1.1; omega, k1.2⟩
  exact ⟨segs_any (vs := [v1]) (Ks := [K1]) w rfl hv a1 (by simp) (fun K h => (a2 K h).1) (fun K h => (a2 K h).2), rsegs_any (vs := [v1]) (Ks := [K1]) w rfl hv a1 (by simp) (fun K h => (a2 K h).1) (fun K h => (a2 K h).2)⟩
theorem segs0 (w : World) : Calls Tryz.prog 14 #[.slice none 0 0] w (RetInts w [0]) := by
  have e : segR [] 10079 = [0] := by
    unfold segR
    rw [List.filter_eq_nil_iff.2 (by simp)]
  rw [← e]
  exact segs_any (vs := []) (Ks := []) w rfl (.inl ⟨rfl, rfl, rfl⟩) (fun k h => absurd h (Nat.not_lt_zero k)) (by simp) (by simp) (by simp)
theorem fmt_lenF (K : List Rg) : (fmtF K).length ≤ 21 * K.length + 1 := by
  unfold fmtF
  split
  · simp [nevW]
  · have h1 := words_le (partsW K 7)
    have h2 := partsW_len K 7
    omega
/-- what both programs' Format gives -/
noncomputable def fmtX (K : List Rg) : List Bs := if winB 10079 K then fmtF K else []
theorem fmtX_len {K : List Rg} (h : K.length ≤ 1000) : (fmtX K).length ≤ 100000000000 := by
  unfold fmtX
  split
  · have := fmt_lenF K; omega
  · simp
theorem fmts {v : Value} {K : List Rg} (k : Lok K) (w : World) (hv : IsCells w v K.length (rcs K)) (hN : Nms w) :
    Calls Tryz.prog 9 #[v] w (RetTexts w (fmtX K)) ∧ Calls Tryz.prog 10 #[v] w (RetTexts w (fmtX K)) :=
  ⟨format_any w hv (by have := k.1; omega) k.2 hN, rformat_any w hv (by have := k.1; omega) k.2⟩
theorem acts {v : Value} {K : List Rg} (k : Lok K) (m : Int) (w : World) (hv : IsCells w v K.length (rcs K)) :
    Calls Tryz.prog 11 #[v, .int .i64 m] w (fun e w' => e = .returned (.bool (memB K m)) ∧ Below w.heap.size w w') ∧ Calls Tryz.prog 12 #[v, .int .i64 m] w (fun e w' => e = .returned (.bool (memB K m)) ∧ Below w.heap.size w w') :=
  ⟨active9_any m w hv (by have := k.1; omega) k.2, ractive_any m w hv (by have := k.1; omega) k.2⟩
theorem win_lok {K : List Rg} (h : WinOk K) : Lok K := ⟨h.2.2, h.bnd⟩
theorem rgs_lok {K : List Rg} (h : K.length ≤ 4) (hb : ∀ r ∈ K, 0 ≤ r.lo ∧ r.lo ≤ 20160 ∧ 0 ≤ r.hi ∧ r.hi ≤ 20160) : Lok K := ⟨by omega, fun r hr => by have := hb r hr; omega⟩
theorem frontR {w : World} {g o n cap p : Nat} {K : List Rg} (h : IsCells w (.slice (some ⟨g, o, none⟩) n cap) K.length (rcs K)) (hp : p ≤ K.length) : IsCells w (.slice (some ⟨g, o, none⟩) p cap) (K.take p).length (rcs (K.take p)) := by
  rcases h with ⟨h, _⟩ | ⟨g', o', c', h, hc, h2⟩
  · cases h
  · cases h
    rw [List.length_take, Nat.min_eq_left hp]
    have hs : rcs K = rcs (K.take p) ++ rcs (K.drop p) := by rw [← rcs_append, List.take_append_drop]
    refine .inr ⟨g, o, cap, rfl, by omega, fun j v hv => h2 j v ?_⟩
    rw [hs, List.getElem?_append_left (List.getElem?_eq_some_iff.1 hv).1]
    exact hv
set_option maxHeartbeats 32000000 in
theorem fmt_law {sl lv : Value} {zs : List Int} {us : List Rg} (minute : Int) (w : World) (hN : Nms w) (hZ : ZsOk sl zs) (hr : ∀ s ∈ roS sl (ints zs), w.rangeAt s.g s.o s.xs) (hu : IsCells w lv us.length (rcs us)) (hul : us.length ≤ 9223372036854775807) (hub : BndR us) :
    Calls Tryz.prog 3 #[sl, lv, .int .i64 minute] w fun e w' => e = .returned (.bool true) ∧ Below w.heap.size w w' := by
  have hO := own_cellsA (own_law hr) hu
  clear hr
  obtain ⟨sa, sc, rfl, -⟩ := hZ.view
  have fu := isCells_form hu
  have hsn := fun w h => sane9_any w h
  rcases fu with ⟨h, h0⟩ | ⟨gu, ou, uc, h, hcu⟩
  · obtain rfl := List.length_eq_zero_iff.1 h0
    subst h
    have e9 : min (((([] : List Rg).length : Nat)) : Int) 20 = 0 := by decide
    have e8 : min (0 : Int) 20 = 0 := by decide
    have hn3 : ∀ w, IsCells w (.slice none 0 0) ([] : List Rg).length (rcs []) := fun _ => .inl ⟨rfl, rfl, rfl⟩
    have k3 : Lok [] := ⟨by simp, fun r h => absurd h List.not_mem_nil⟩
    go_enter Tryz.func3, Tryz.ntmps3
    go_upto_region 4 with (first | (go_at_call 4; (with_reducible refine (new_any _ _ _).mono ?_); rintro e wv ⟨n, rfl, hB, hn, hb⟩; replace hO := hO.gain hb hB hn; have hT := hO.tapeIn List.mem_cons_self (fun _ h => h) (Nat.zero_le _); clear hb hB hn) | ((fail_if_success (have := K1)); (go_at_call 5; (with_reducible refine (window_any hZ (hO.tapeIn List.mem_cons_self (by (intro s hs; repeat (first | exact hs | apply List.mem_append_right))) hT.le)).mono ?_); rintro e wv ⟨v1, i1, rfl, ⟨K1, hK1, hv9, hn9⟩, hk9, hT1⟩; have hoff9 := off_of_new hO hn9; have f1 := isCells_form hv9; replace hO := hO.after (by (repeat (exact Upd.here))) hk9 hT1.blk; replace hO := hO.offC hv9 hoff9; replace hT := hT1; clear hT1 hk9 hv9 hn9 hoff9; obtain ⟨a1, c1, rfl, -⟩ := (show FormC _ _ from f1).view)) | (go_at_call 6; (with_reducible refine (ranges_any hZ (hO.tapeIn List.mem_cons_self (by (intro s hs; repeat (first | exact hs | apply List.mem_append_right))) hT.le)).mono ?_); rintro e wv ⟨v2, i2, rfl, ⟨K2, hl2, hb2, hv9, hn9⟩, hk9, hT1⟩; have hoff9 := off_of_new hO hn9; have f2 := isCells_form hv9; replace hO := hO.after (by (repeat (exact Upd.here))) hk9 hT1.blk; replace hO := hO.offC hv9 hoff9; replace hT := hT1; clear hT1 hk9 hv9 hn9 hoff9; obtain ⟨a2, c2, rfl, -⟩ := (show FormC _ _ from f2).view))
    have k1 := win_lok hK1
    have k2 := rgs_lok hl2 hb2
    clear hK1 hl2 hb2
    have zr1 := rcs_nil_of (K1)
    have zr2 := rcs_nil_of (K2)
    have zr3 := rcs_nil_of (([] : List Rg))
    go_upto_region 5 with (go_at_call 7; (with_reducible refine (minute_any hZ (hO.tapeIn List.mem_cons_self (by (intro s hs; repeat (first | exact hs | apply List.mem_append_right))) hT.le)).mono ?_); rintro e wv ⟨v, i5, rfl, ⟨m0, rfl, m1, m2⟩, hk9, hT1⟩; replace hO := hO.after (by (repeat (exact Upd.here))) hk9 hT1.blk; replace hT := hT1; clear hT1 hk9)
    clear m1 m2
    have hx1 := fmtX_len k1.1
    have zx1 := scs_nil (ws := fmtX K1)
    have hx2 := fmtX_len k2.1
    have zx2 := scs_nil (ws := fmtX K2)
    have hx3 := fmtX_len k3.1
    have zx3 := scs_nil (ws := fmtX (([] : List Rg)))
    have fm1 := fun w h hN => fmts (v := .slice a1 K1.length c1) k1 w h hN
    have fm2 := fun w h hN => fmts (v := .slice a2 K2.length c2) k2 w h hN
    have fm3 := fun w h hN => fmts (v := .slice none 0 0) (K := ([] : List Rg)) k3 w h hN
    generalize hX1 : fmtX K1 = X1 at *
    generalize hX2 : fmtX K2 = X2 at *
    generalize hX3 : fmtX (([] : List Rg)) = X3 at *
    clear hX1 hX2 hX3
    go_upto_region 7 with (first | ((fail_if_success (have := f11)); (go_at_call 9; (with_reducible refine ((fm1 _ (hO.isC f1 zr1 (by intro q hq; repeat (first | exact List.mem_append_left _ hq | apply List.mem_append_right))) (hO.nms hN (by simp))).1).mono ?_); rintro e wv ⟨v9, rfl, ⟨hv9, hn9⟩, hb9⟩; have f11 := isCells_form hv9; replace hO := hO.gainC hb9 hv9 hn9; clear hb9 hv9 hn9; obtain ⟨a11, c11, rfl, -⟩ := (show FormC _ _ from f11).view)) | ((fail_if_success (have := f12)); (go_at_call 10; (with_reducible refine ((fm1 _ (hO.isC f1 zr1 (by intro q hq; repeat (first | exact List.mem_append_left _ hq | apply List.mem_append_right))) (hO.nms hN (by simp))).2).mono ?_); rintro e wv ⟨v9, rfl, ⟨hv9, hn9⟩, hb9⟩; have f12 := isCells_form hv9; replace hO := hO.gainC hb9 hv9 hn9; clear hb9 hv9 hn9; obtain ⟨a12, c12, rfl, -⟩ := (show FormC _ _ from f12).view)) | (go_at_call 8; (with_reducible refine (rsameS_any _ _ X1 _ (hO.isC f11 zx1 (by intro q hq; repeat (first | exact List.mem_append_left _ hq | apply List.mem_append_right))) (hO.isC f12 zx1 (by intro q hq; repeat (first | exact List.mem_append_left _ hq | apply List.mem_append_right))) hx1).mono ?_); rintro e wv ⟨rfl, hb9⟩; replace hO := hO.call hb9; clear hb9) | ((fail_if_success (have := f21)); (go_at_call 9; (with_reducible refine ((fm2 _ (hO.isC f2 zr2 (by intro q hq; repeat (first | exact List.mem_append_left _ hq | apply List.mem_append_right))) (hO.nms hN (by simp))).1).mono ?_); rintro e wv ⟨v9, rfl, ⟨hv9, hn9⟩, hb9⟩; have f21 := isCells_form hv9; replace hO := hO.gainC hb9 hv9 hn9; clear hb9 hv9 hn9; obtain ⟨a21, c21, rfl, -⟩ := (show FormC _ _ from f21).view)) | ((fail_if_success (have := f22)); (go_at_call 10; (with_reducible refine ((fm2 _ (hO.isC f2 zr2 (by intro q hq; repeat (first | exact List.mem_append_left _ hq | apply List.mem_append_right))) (hO.nms hN (by simp))).2).mono ?_); rintro e wv ⟨v9, rfl, ⟨hv9, hn9⟩, hb9⟩; have f22 := isCells_form hv9; replace hO := hO.gainC hb9 hv9 hn9; clear hb9 hv9 hn9; obtain ⟨a22, c22, rfl, -⟩ := (show FormC _ _ from f22).view)) | (go_at_call 8; (with_reducible refine (rsameS_any _ _ X2 _ (hO.isC f21 zx2 (by intro q hq; repeat (first | exact List.mem_append_left _ hq | apply List.mem_append_right))) (hO.isC f22 zx2 (by intro q hq; repeat (first | exact List.mem_append_left _ hq | apply List.mem_append_right))) hx2).mono ?_); rintro e wv ⟨rfl, hb9⟩; replace hO := hO.call hb9; clear hb9) | ((fail_if_success (have := f31)); (go_at_call 9; (with_reducible refine ((fm3 _ (hn3 _) (hO.nms hN (by simp))).1).mono ?_); rintro e wv ⟨v9, rfl, ⟨hv9, hn9⟩, hb9⟩; have f31 := isCells_form hv9; replace hO := hO.gainC hb9 hv9 hn9; clear hb9 hv9 hn9; obtain ⟨a31, c31, rfl, -⟩ := (show FormC _ _ from f31).view)) | ((fail_if_success (have := f32)); (go_at_call 10; (with_reducible refine ((fm3 _ (hn3 _) (hO.nms hN (by simp))).2).mono ?_); rintro e wv ⟨v9, rfl, ⟨hv9, hn9⟩, hb9⟩; have f32 := isCells_form hv9; replace hO := hO.gainC hb9 hv9 hn9; clear hb9 hv9 hn9; obtain ⟨a32, c32, rfl, -⟩ := (show FormC _ _ from f32).view)) | (go_at_call 8; (with_reducible refine (rsameS_any _ _ X3 _ (hO.isC f31 zx3 (by intro q hq; repeat (first | exact List.mem_append_left _ hq | apply List.mem_append_right))) (hO.isC f32 zx3 (by intro q hq; repeat (exact List.mem_append_left _ hq))) hx3).mono ?_); rintro e wv ⟨rfl, hb9⟩; replace hO := hO.call hb9; clear hb9))
    clear fm1 fm2 fm3 hx1 hx2 hx3 zx1 zx2 zx3
    have ac1 := fun w h => acts (v := .slice a1 K1.length c1) k1 m0 w h
    have ac2 := fun w h => acts (v := .slice a2 K2.length c2) k2 m0 w h
    have ac3 := fun w h => acts (v := .slice none 0 0) (K := ([] : List Rg)) k3 minute w h
    generalize memB K1 m0 = p1 at *
    generalize memB K2 m0 = p2 at *
    generalize memB (([] : List Rg)) minute = p3 at *
    go_upto_region 9 with (first | (go_at_call 11; (with_reducible refine ((ac1 _ (hO.isC f1 zr1 (by intro q hq; repeat (first | exact List.mem_append_left _ hq | apply List.mem_append_right)))).1).mono ?_); rintro e wv ⟨rfl, hb⟩; replace hO := hO.call hb; clear hb) | (go_at_call 12; (with_reducible refine ((ac1 _ (hO.isC f1 zr1 (by intro q hq; repeat (first | exact List.mem_append_left _ hq | apply List.mem_append_right)))).2).mono ?_); rintro e wv ⟨rfl, hb⟩; replace hO := hO.call hb; clear hb) | (go_at_call 11; (with_reducible refine ((ac2 _ (hO.isC f2 zr2 (by intro q hq; repeat (first | exact List.mem_append_left _ hq | apply List.mem_append_right)))).1).mono ?_); rintro e wv ⟨rfl, hb⟩; replace hO := hO.call hb; clear hb) | (go_at_call 12; (with_reducible refine ((ac2 _ (hO.isC f2 zr2 (by intro q hq; repeat (first | exact List.mem_append_left _ hq | apply List.mem_append_right)))).2).mono ?_); rintro e wv ⟨rfl, hb⟩; replace hO := hO.call hb; clear hb) | (go_at_call 11; (with_reducible refine ((ac3 _ (hn3 _)).1).mono ?_); rintro e wv ⟨rfl, hb⟩; replace hO := hO.call hb; clear hb) | (go_at_call 12; (with_reducible refine ((ac3 _ (hn3 _)).2).mono ?_); rintro e wv ⟨rfl, hb⟩; replace hO := hO.call hb; clear hb))
    clear ac1 ac2 ac3
    go_upto_region 10 with (first | ((fail_if_success (have := K4)); (go_at_call 5; (with_reducible refine (window_any hZ (hO.tapeIn List.mem_cons_self (by (intro s hs; repeat (first | exact hs | apply List.mem_append_right))) hT.le)).mono ?_); rintro e wv ⟨v4, i6, rfl, ⟨K4, hK4, hv9, hn9⟩, hk9, hT1⟩; have hoff9 := off_of_new hO hn9; have f4 := isCells_form hv9; replace hO := hO.after (by (repeat (exact Upd.here))) hk9 hT1.blk; replace hO := hO.offC hv9 hoff9; replace hT := hT1; clear hT1 hk9 hv9 hn9 hoff9; obtain ⟨a4, c4, rfl, -⟩ := (show FormC _ _ from f4).view)) | ((with_reducible refine is_build ?_); (refine' own_buildP (o := ⟨some 76, _, _, _, _, _⟩) [.slice a1 K1.length c1, .slice a2 K2.length c2, .slice a4 K4.length c4] hO (by rfl) rfl slice_RangesF rfl rfl (by rfl) (by decide) (by decide) ?_); clear hO; intro n76 wv hO))
    have k4 := win_lok hK4
    have zr4 := rcs_nil_of K4
    clear hK4
    have s3 := fun w hv h1 h2 h3 => segs3 (v1 := .slice a1 K1.length c1) (v2 := .slice a2 K2.length c2) (v3 := .slice a4 K4.length c4) (vl := .slice (some ⟨n76, 0, none⟩) 3 3) k1 k2 k4 w hv h1 h2 h3
    have s1 := fun (n : Nat) w hv h1 => segs1 (v1 := .slice none 0 0) (vl := .slice (some ⟨n, 0, none⟩) 1 1) (K1 := ([] : List Rg)) k3 w hv h1
    have le3 := segR_len [K1, K2, K4]
    have le1 := segR_len [([] : List Rg)]
    generalize segR [K1, K2, K4] 10079 = T3 at *
    generalize segR [([] : List Rg)] 10079 = T1 at *
    have zt3 : T3.length = 0 → ints T3 = [] := fun h => by rw [List.length_eq_zero_iff.1 h]; rfl
    have zt1 : T1.length = 0 → ints T1 = [] := fun h => by rw [List.length_eq_zero_iff.1 h]; rfl
    clear k1 k2 k3 k4
    have hI0 : ∀ v u w, IsCells w v 1 [.int .i64 0] → IsCells w u 1 [.int .i64 0] → Calls Tryz.prog 13 #[v, u] w fun e w' => e = .returned (.bool true) ∧ Below w.heap.size w w' := fun v u w h1 h2 => rints_any v u [0] w h1 h2 (by simp)
    have z0 : (1 : Nat) = 0 → [Value.int .i64 0] = [] := fun h => by cases h
    go_wp2_with (first | ((fail_if_success (have := f78)); (go_at_call 14; (with_reducible refine ((s3 _ (lit_cells (own_chunkAt hO List.mem_cons_self)) (hO.isC f1 zr1 (by intro q hq; repeat (first | exact List.mem_append_left _ hq | apply List.mem_append_right))) (hO.isC f2 zr2 (by intro q hq; repeat (first | exact List.mem_append_left _ hq | apply List.mem_append_right))) (hO.isC f4 zr4 (by intro q hq; repeat (exact List.mem_append_left _ hq)))).1).mono ?_); rintro e wv ⟨v9, rfl, ⟨hv9, hn9⟩, hb9⟩; have f78 := isCells_form hv9; replace hO := hO.gainC hb9 hv9 hn9; clear hb9 hv9 hn9; obtain ⟨a78, c78, rfl, -⟩ := (show FormC _ _ from f78).view)) | ((fail_if_success (have := f80)); (go_at_call 15; (with_reducible refine ((s3 _ (lit_cells (own_chunkAt hO List.mem_cons_self)) (hO.isC f1 zr1 (by intro q hq; repeat (first | exact List.mem_append_left _ hq | apply List.mem_append_right))) (hO.isC f2 zr2 (by intro q hq; repeat (first | exact List.mem_append_left _ hq | apply List.mem_append_right))) (hO.isC f4 zr4 (by intro q hq; repeat (first | exact List.mem_append_left _ hq | apply List.mem_append_right)))).2).mono ?_); rintro e wv ⟨v9, rfl, ⟨hv9, hn9⟩, hb9⟩; have f80 := isCells_form hv9; replace hO := hO.gainC hb9 hv9 hn9; clear hb9 hv9 hn9; obtain ⟨a80, c80, rfl, -⟩ := (show FormC _ _ from f80).view)) | (go_at_call 13; (with_reducible refine (rints_any _ _ T3 _ (hO.isC f78 zt3 (by intro q hq; repeat (first | exact List.mem_append_left _ hq | apply List.mem_append_right))) (hO.isC f80 zt3 (by intro q hq; repeat (first | exact List.mem_append_left _ hq | apply List.mem_append_right))) (by omega)).mono ?_); rintro e wv ⟨rfl, hb9⟩; replace hO := hO.call hb9; clear hb9) | ((with_reducible refine is_build ?_); (refine' own_buildP (o := ⟨some 84, _, _, _, _, _⟩) [.slice none 0 0] hO (by rfl) rfl slice_RangesF rfl rfl (by rfl) (by decide) (by decide) ?_); clear hO; intro n84 wv hO) | ((with_reducible refine is_build ?_); (refine' own_buildP (o := ⟨some 87, _, _, _, _, _⟩) [.slice none 0 0] hO (by rfl) rfl slice_RangesF rfl rfl (by rfl) (by decide) (by decide) ?_); clear hO; intro n87 wv hO) | ((fail_if_success (have := f85)); (go_at_call 14; (with_reducible refine ((s1 n84 _ (lit_cells (own_chunkAt hO List.mem_cons_self)) (hn3 _)).1).mono ?_); rintro e wv ⟨v9, rfl, ⟨hv9, hn9⟩, hb9⟩; have f85 := isCells_form hv9; replace hO := hO.gainC hb9 hv9 hn9; clear hb9 hv9 hn9; obtain ⟨a85, c85, rfl, -⟩ := (show FormC _ _ from f85).view)) | ((fail_if_success (have := f88)); (go_at_call 15; (with_reducible refine ((s1 n87 _ (lit_cells (own_chunkAt hO List.mem_cons_self)) (hn3 _)).2).mono ?_); rintro e wv ⟨v9, rfl, ⟨hv9, hn9⟩, hb9⟩; have f88 := isCells_form hv9; replace hO := hO.gainC hb9 hv9 hn9; clear hb9 hv9 hn9; obtain ⟨a88, c88, rfl, -⟩ := (show FormC _ _ from f88).view)) | (go_at_call 13; (with_reducible refine (rints_any _ _ T1 _ (hO.isC f85 zt1 (by intro q hq; repeat (first | exact List.mem_append_left _ hq | apply List.mem_append_right))) (hO.isC f88 zt1 (by intro q hq; repeat (first | exact List.mem_append_left _ hq | apply List.mem_append_right))) (by omega)).mono ?_); rintro e wv ⟨rfl, hb9⟩; replace hO := hO.call hb9; clear hb9) | ((fail_if_success (have := f92)); (go_at_call 14; (with_reducible refine (segs0 _).mono ?_); rintro e wv ⟨v9, rfl, ⟨hv9, hn9⟩, hb9⟩; replace hv9 : IsCells wv v9 1 [.int .i64 0] := hv9; have f92 : FormC v9 1 := isCells_form hv9; replace hO := hO.gainC hb9 hv9 hn9; clear hb9 hv9 hn9; obtain ⟨a92, c92, rfl, -⟩ := (show FormC _ _ from f92).view)) | ((with_reducible refine is_build ?_); (refine' own_buildP (o := ⟨some 93, _, _, _, _, _⟩) [.int .i64 0] hO (by rfl) rfl slice_intsS rfl rfl (by rfl) (by decide) (by decide) ?_); clear hO; intro n93 wv hO) | (go_at_call 13; (with_reducible refine (hI0 _ _ _ (hO.isC f92 z0 (by intro q hq; repeat (exact List.mem_append_left _ hq))) (lit_cells (own_chunkAt hO List.mem_cons_self))).mono ?_); rintro e wv ⟨rfl, hb9⟩; replace hO := hO.call hb9; clear hb9) | (go_at_call 16; (with_reducible refine (hsn _ (hO.nms hN (by simp))).mono ?_); rintro e wv ⟨rfl, hb⟩; replace hO := hO.call hb; clear hb))
    go_ret
    exact ⟨rfl, hO.keep.below⟩
  · subst h
    obtain ⟨p, hp1, hp2, hp3⟩ : ∃ p : Nat, p ≤ us.length ∧ p ≤ 20 ∧ min (us.length : Int) 20 = (p : Int) := ⟨min us.length 20, by omega, by omega, by omega⟩
    have hpu : p ≤ uc := by omega
    obtain ⟨L, hL⟩ : ∃ L, us.take p = L := ⟨_, rfl⟩
    have hLl : L.length = p := by rw [← hL, List.length_take]; omega
    have hLc := frontR hu hp1
    rw [hL] at hLc
    have hLb : BndR L := fun r hr => hub r (List.mem_of_mem_take (hL ▸ hr))
    have k3 : Lok L := ⟨by omega, hLb⟩
    replace hO := own_cellsA hO hLc
    have f3 := isCells_form hLc
    clear hLc hLb hub hL
    go_enter Tryz.func3, Tryz.ntmps3
    go_upto_region 4 with (first | (go_at_call 4; (with_reducible refine (new_any _ _ _).mono ?_); rintro e wv ⟨n, rfl, hB, hn, hb⟩; replace hO := hO.gain hb hB hn; have hT := hO.tapeIn List.mem_cons_self (by (intro s hs; repeat (first | exact hs | apply List.mem_append_right))) (Nat.zero_le _); clear hb hB hn) | ((fail_if_success (have := K1)); (go_at_call 5; (with_reducible refine (window_any hZ (hO.tapeIn List.mem_cons_self (by (intro s hs; repeat (first | exact hs | apply List.mem_append_right))) hT.le)).mono ?_); rintro e wv ⟨v1, i1, rfl, ⟨K1, hK1, hv9, hn9⟩, hk9, hT1⟩; have hoff9 := off_of_new hO hn9; have f1 := isCells_form hv9; replace hO := hO.after (by (repeat (exact Upd.here))) hk9 hT1.blk; replace hO := hO.offC hv9 hoff9; replace hT := hT1; clear hT1 hk9 hv9 hn9 hoff9; obtain ⟨a1, c1, rfl, -⟩ := (show FormC _ _ from f1).view)) | (go_at_call 6; (with_reducible refine (ranges_any hZ (hO.tapeIn List.mem_cons_self (by (intro s hs; repeat (first | exact hs | apply List.mem_append_right))) hT.le)).mono ?_); rintro e wv ⟨v2, i2, rfl, ⟨K2, hl2, hb2, hv9, hn9⟩, hk9, hT1⟩; have hoff9 := off_of_new hO hn9; have f2 := isCells_form hv9; replace hO := hO.after (by (repeat (exact Upd.here))) hk9 hT1.blk; replace hO := hO.offC hv9 hoff9; replace hT := hT1; clear hT1 hk9 hv9 hn9 hoff9; obtain ⟨a2, c2, rfl, -⟩ := (show FormC _ _ from f2).view))
    clear hp1 hp2 hp3 hpu hu hul
    subst hLl
    have k1 := win_lok hK1
    have k2 := rgs_lok hl2 hb2
    clear hK1 hl2 hb2
    have zr1 := rcs_nil_of (K1)
    have zr2 := rcs_nil_of (K2)
    have zr3 := rcs_nil_of (L)
    go_upto_region 5 with (go_at_call 7; (with_reducible refine (minute_any hZ (hO.tapeIn List.mem_cons_self (by (intro s hs; repeat (first | exact hs | apply List.mem_append_right))) hT.le)).mono ?_); rintro e wv ⟨v, i5, rfl, ⟨m0, rfl, m1, m2⟩, hk9, hT1⟩; replace hO := hO.after (by (repeat (exact Upd.here))) hk9 hT1.blk; replace hT := hT1; clear hT1 hk9)
    clear m1 m2
    have hx1 := fmtX_len k1.1
    have zx1 := scs_nil (ws := fmtX K1)
    have hx2 := fmtX_len k2.1
    have zx2 := scs_nil (ws := fmtX K2)
    have hx3 := fmtX_len k3.1
    have zx3 := scs_nil (ws := fmtX (L))
    have fm1 := fun w h hN => fmts (v := .slice a1 K1.length c1) k1 w h hN
    have fm2 := fun w h hN => fmts (v := .slice a2 K2.length c2) k2 w h hN
    have fm3 := fun w h hN => fmts (v := .slice (some ⟨gu, ou, none⟩) L.length uc) (K := L) k3 w h hN
    generalize hX1 : fmtX K1 = X1 at *
    generalize hX2 : fmtX K2 = X2 at *
    generalize hX3 : fmtX (L) = X3 at *
    clear hX1 hX2 hX3
    go_upto_region 7 with (first | ((fail_if_success (have := f11)); (go_at_call 9; (with_reducible refine ((fm1 _ (hO.isC f1 zr1 (by intro q hq; repeat (first | exact List.mem_append_left _ hq | apply List.mem_append_right))) (hO.nms hN (by simp))).1).mono ?_); rintro e wv ⟨v9, rfl, ⟨hv9, hn9⟩, hb9⟩; have f11 := isCells_form hv9; replace hO := hO.gainC hb9 hv9 hn9; clear hb9 hv9 hn9; obtain ⟨a11, c11, rfl, -⟩ := (show FormC _ _ from f11).view)) | ((fail_if_success (have := f12)); (go_at_call 10; (with_reducible refine ((fm1 _ (hO.isC f1 zr1 (by intro q hq; repeat (first | exact List.mem_append_left _ hq | apply List.mem_append_right))) (hO.nms hN (by simp))).2).mono ?_); rintro e wv ⟨v9, rfl, ⟨hv9, hn9⟩, hb9⟩; have f12 := isCells_form hv9; replace hO := hO.gainC hb9 hv9 hn9; clear hb9 hv9 hn9; obtain ⟨a12, c12, rfl, -⟩ := (show FormC _ _ from f12).view)) | (go_at_call 8; (with_reducible refine (rsameS_any _ _ X1 _ (hO.isC f11 zx1 (by intro q hq; repeat (first | exact List.mem_append_left _ hq | apply List.mem_append_right))) (hO.isC f12 zx1 (by intro q hq; repeat (first | exact List.mem_append_left _ hq | apply List.mem_append_right))) hx1).mono ?_); rintro e wv ⟨rfl, hb9⟩; replace hO := hO.call hb9; clear hb9) | ((fail_if_success (have := f21)); (go_at_call 9; (with_reducible refine ((fm2 _ (hO.isC f2 zr2 (by intro q hq; repeat (first | exact List.mem_append_left _ hq | apply List.mem_append_right))) (hO.nms hN (by simp))).1).mono ?_); rintro e wv ⟨v9, rfl, ⟨hv9, hn9⟩, hb9⟩; have f21 := isCells_form hv9; replace hO := hO.gainC hb9 hv9 hn9; clear hb9 hv9 hn9; obtain ⟨a21, c21, rfl, -⟩ := (show FormC _ _ from f21).view)) | ((fail_if_success (have := f22)); (go_at_call 10; (with_reducible refine ((fm2 _ (hO.isC f2 zr2 (by intro q hq; repeat (first | exact List.mem_append_left _ hq | apply List.mem_append_right))) (hO.nms hN (by simp))).2).mono ?_); rintro e wv ⟨v9, rfl, ⟨hv9, hn9⟩, hb9⟩; have f22 := isCells_form hv9; replace hO := hO.gainC hb9 hv9 hn9; clear hb9 hv9 hn9; obtain ⟨a22, c22, rfl, -⟩ := (show FormC _ _ from f22).view)) | (go_at_call 8; (with_reducible refine (rsameS_any _ _ X2 _ (hO.isC f21 zx2 (by intro q hq; repeat (first | exact List.mem_append_left _ hq | apply List.mem_append_right))) (hO.isC f22 zx2 (by intro q hq; repeat (first | exact List.mem_append_left _ hq | apply List.mem_append_right))) hx2).mono ?_); rintro e wv ⟨rfl, hb9⟩; replace hO := hO.call hb9; clear hb9) | ((fail_if_success (have := f31)); (go_at_call 9; (with_reducible refine ((fm3 _ (hO.isC f3 zr3 (by intro q hq; repeat (first | exact List.mem_append_left _ hq | apply List.mem_append_right))) (hO.nms hN (by simp))).1).mono ?_); rintro e wv ⟨v9, rfl, ⟨hv9, hn9⟩, hb9⟩; have f31 := isCells_form hv9; replace hO := hO.gainC hb9 hv9 hn9; clear hb9 hv9 hn9; obtain ⟨a31, c31, rfl, -⟩ := (show FormC _ _ from f31).view)) | ((fail_if_success (have := f32)); (go_at_call 10; (with_reducible refine ((fm3 _ (hO.isC f3 zr3 (by intro q hq; repeat (first | exact List.mem_append_left _ hq | apply List.mem_append_right))) (hO.nms hN (by simp))).2).mono ?_); rintro e wv ⟨v9, rfl, ⟨hv9, hn9⟩, hb9⟩; have f32 := isCells_form hv9; replace hO := hO.gainC hb9 hv9 hn9; clear hb9 hv9 hn9; obtain ⟨a32, c32, rfl, -⟩ := (show FormC _ _ from f32).view)) | (go_at_call 8; (with_reducible refine (rsameS_any _ _ X3 _ (hO.isC f31 zx3 (by intro q hq; repeat (first | exact List.mem_append_left _ hq | apply List.mem_append_right))) (hO.isC f32 zx3 (by intro q hq; repeat (exact List.mem_append_left _ hq))) hx3).mono ?_); rintro e wv ⟨rfl, hb9⟩; replace hO := hO.call hb9; clear hb9))
    clear fm1 fm2 fm3 hx1 hx2 hx3 zx1 zx2 zx3
    have ac1 := fun w h => acts (v := .slice a1 K1.length c1) k1 m0 w h
    have ac2 := fun w h => acts (v := .slice a2 K2.length c2) k2 m0 w h
    have ac3 := fun w h => acts (v := .slice (some ⟨gu, ou, none⟩) L.length uc) (K := L) k3 minute w h
    generalize memB K1 m0 = p1 at *
    generalize memB K2 m0 = p2 at *
    generalize memB (L) minute = p3 at *
    go_upto_region 9 with (first | (go_at_call 11; (with_reducible refine ((ac1 _ (hO.isC f1 zr1 (by intro q hq; repeat (first | exact List.mem_append_left _ hq | apply List.mem_append_right)))).1).mono ?_); rintro e wv ⟨rfl, hb⟩; replace hO := hO.call hb; clear hb) | (go_at_call 12; (with_reducible refine ((ac1 _ (hO.isC f1 zr1 (by intro q hq; repeat (first | exact List.mem_append_left _ hq | apply List.mem_append_right)))).2).mono ?_); rintro e wv ⟨rfl, hb⟩; replace hO := hO.call hb; clear hb) | (go_at_call 11; (with_reducible refine ((ac2 _ (hO.isC f2 zr2 (by intro q hq; repeat (first | exact List.mem_append_left _ hq | apply List.mem_append_right)))).1).mono ?_); rintro e wv ⟨rfl, hb⟩; replace hO := hO.call hb; clear hb) | (go_at_call 12; (with_reducible refine ((ac2 _ (hO.isC f2 zr2 (by intro q hq; repeat (first | exact List.mem_append_left _ hq | apply List.mem_append_right)))).2).mono ?_); rintro e wv ⟨rfl, hb⟩; replace hO := hO.call hb; clear hb) | (go_at_call 11; (with_reducible refine ((ac3 _ (hO.isC f3 zr3 (by intro q hq; repeat (first | exact List.mem_append_left _ hq | apply List.mem_append_right)))).1).mono ?_); rintro e wv ⟨rfl, hb⟩; replace hO := hO.call hb; clear hb) | (go_at_call 12; (with_reducible refine ((ac3 _ (hO.isC f3 zr3 (by intro q hq; repeat (first | exact List.mem_append_left _ hq | apply List.mem_append_right)))).2).mono ?_); rintro e wv ⟨rfl, hb⟩; replace hO := hO.call hb; clear hb))
    clear ac1 ac2 ac3
    go_upto_region 10 with (first | ((fail_if_success (have := K4)); (go_at_call 5; (with_reducible refine (window_any hZ (hO.tapeIn List.mem_cons_self (by (intro s hs; repeat (first | exact hs | apply List.mem_append_right))) hT.le)).mono ?_); rintro e wv ⟨v4, i6, rfl, ⟨K4, hK4, hv9, hn9⟩, hk9, hT1⟩; have hoff9 := off_of_new hO hn9; have f4 := isCells_form hv9; replace hO := hO.after (by (repeat (exact Upd.here))) hk9 hT1.blk; replace hO := hO.offC hv9 hoff9; replace hT := hT1; clear hT1 hk9 hv9 hn9 hoff9; obtain ⟨a4, c4, rfl, -⟩ := (show FormC _ _ from f4).view)) | ((with_reducible refine is_build ?_); (refine' own_buildP (o := ⟨some 76, _, _, _, _, _⟩) [.slice a1 K1.length c1, .slice a2 K2.length c2, .slice a4 K4.length c4] hO (by rfl) rfl slice_RangesF rfl rfl (by rfl) (by decide) (by decide) ?_); clear hO; intro n76 wv hO))
    have k4 := win_lok hK4
    have zr4 := rcs_nil_of K4
    clear hK4
    have s3 := fun w hv h1 h2 h3 => segs3 (v1 := .slice a1 K1.length c1) (v2 := .slice a2 K2.length c2) (v3 := .slice a4 K4.length c4) (vl := .slice (some ⟨n76, 0, none⟩) 3 3) k1 k2 k4 w hv h1 h2 h3
    have s1 := fun (n : Nat) w hv h1 => segs1 (v1 := .slice (some ⟨gu, ou, none⟩) L.length uc) (vl := .slice (some ⟨n, 0, none⟩) 1 1) (K1 := L) k3 w hv h1
    have le3 := segR_len [K1, K2, K4]
    have le1 := segR_len [L]
    generalize segR [K1, K2, K4] 10079 = T3 at *
    generalize segR [L] 10079 = T1 at *
    have zt3 : T3.length = 0 → ints T3 = [] := fun h => by rw [List.length_eq_zero_iff.1 h]; rfl
    have zt1 : T1.length = 0 → ints T1 = [] := fun h => by rw [List.length_eq_zero_iff.1 h]; rfl
    clear k1 k2 k3 k4
    have hI0 : ∀ v u w, IsCells w v 1 [.int .i64 0] → IsCells w u 1 [.int .i64 0] → Calls Tryz.prog 13 #[v, u] w fun e w' => e = .returned (.bool true) ∧ Below w.heap.size w w' := fun v u w h1 h2 => rints_any v u [0] w h1 h2 (by simp)
    have z0 : (1 : Nat) = 0 → [Value.int .i64 0] = [] := fun h => by cases h
    go_wp2_with (first | ((fail_if_success (have := f78)); (go_at_call 14; (with_reducible refine ((s3 _ (lit_cells (own_chunkAt hO List.mem_cons_self)) (hO.isC f1 zr1 (by intro q hq; repeat (first | exact List.mem_append_left _ hq | apply List.mem_append_right))) (hO.isC f2 zr2 (by intro q hq; repeat (first | exact List.mem_append_left _ hq | apply List.mem_append_right))) (hO.isC f4 zr4 (by intro q hq; repeat (exact List.mem_append_left _ hq)))).1).mono ?_); rintro e wv ⟨v9, rfl, ⟨hv9, hn9⟩, hb9⟩; have f78 := isCells_form hv9; replace hO := hO.gainC hb9 hv9 hn9; clear hb9 hv9 hn9; obtain ⟨a78, c78, rfl, -⟩ := (show FormC _ _ from f78).view)) | ((fail_if_success (have := f80)); (go_at_call 15; (with_reducible refine ((s3 _ (lit_cells (own_chunkAt hO List.mem_cons_self)) (hO.isC f1 zr1 (by intro q hq; repeat (first | exact List.mem_append_left _ hq | apply List.mem_append_right))) (hO.isC f2 zr2 (by intro q hq; repeat (first | exact List.mem_append_left _ hq | apply List.mem_append_right))) (hO.isC f4 zr4 (by intro q hq; repeat (first | exact List.mem_append_left _ hq | apply List.mem_append_right)))).2).mono ?_); rintro e wv ⟨v9, rfl, ⟨hv9, hn9⟩, hb9⟩; have f80 := isCells_form hv9; replace hO := hO.gainC hb9 hv9 hn9; clear hb9 hv9 hn9; obtain ⟨a80, c80, rfl, -⟩ := (show FormC _ _ from f80).view)) | (go_at_call 13; (with_reducible refine (rints_any _ _ T3 _ (hO.isC f78 zt3 (by intro q hq; repeat (first | exact List.mem_append_left _ hq | apply List.mem_append_right))) (hO.isC f80 zt3 (by intro q hq; repeat (first | exact List.mem_append_left _ hq | apply List.mem_append_right))) (by omega)).mono ?_); rintro e wv ⟨rfl, hb9⟩; replace hO := hO.call hb9; clear hb9) | ((with_reducible refine is_build ?_); (refine' own_buildP (o := ⟨some 84, _, _, _, _, _⟩) [.slice (some ⟨gu, ou, none⟩) L.length uc] hO (by rfl) rfl slice_RangesF rfl rfl (by rfl) (by decide) (by decide) ?_); clear hO; intro n84 wv hO) | ((with_reducible refine is_build ?_); (refine' own_buildP (o := ⟨some 87, _, _, _, _, _⟩) [.slice (some ⟨gu, ou, none⟩) L.length uc] hO (by rfl) rfl slice_RangesF rfl rfl (by rfl) (by decide) (by decide) ?_); clear hO; intro n87 wv hO) | ((fail_if_success (have := f85)); (go_at_call 14; (with_reducible refine ((s1 n84 _ (lit_cells (own_chunkAt hO List.mem_cons_self)) (hO.isC f3 zr3 (by intro q hq; repeat (first | exact List.mem_append_left _ hq | apply List.mem_append_right)))).1).mono ?_); rintro e wv ⟨v9, rfl, ⟨hv9, hn9⟩, hb9⟩; have f85 := isCells_form hv9; replace hO := hO.gainC hb9 hv9 hn9; clear hb9 hv9 hn9; obtain ⟨a85, c85, rfl, -⟩ := (show FormC _ _ from f85).view)) | ((fail_if_success (have := f88)); (go_at_call 15; (with_reducible refine ((s1 n87 _ (lit_cells (own_chunkAt hO List.mem_cons_self)) (hO.isC f3 zr3 (by intro q hq; repeat (first | exact List.mem_append_left _ hq | apply List.mem_append_right)))).2).mono ?_); rintro e wv ⟨v9, rfl, ⟨hv9, hn9⟩, hb9⟩; have f88 := isCells_form hv9; replace hO := hO.gainC hb9 hv9 hn9; clear hb9 hv9 hn9; obtain ⟨a88, c88, rfl, -⟩ := (show FormC _ _ from f88).view)) | (go_at_call 13; (with_reducible refine (rints_any _ _ T1 _ (hO.isC f85 zt1 (by intro q hq; repeat (first | exact List.mem_append_left _ hq | apply List.mem_append_right))) (hO.isC f88 zt1 (by intro q hq; repeat (first | exact List.mem_append_left _ hq | apply List.mem_append_right))) (by omega)).mono ?_); rintro e wv ⟨rfl, hb9⟩; replace hO := hO.call hb9; clear hb9) | ((fail_if_success (have := f92)); (go_at_call 14; (with_reducible refine (segs0 _).mono ?_); rintro e wv ⟨v9, rfl, ⟨hv9, hn9⟩, hb9⟩; replace hv9 : IsCells wv v9 1 [.int .i64 0] := hv9; have f92 : FormC v9 1 := isCells_form hv9; replace hO := hO.gainC hb9 hv9 hn9; clear hb9 hv9 hn9; obtain ⟨a92, c92, rfl, -⟩ := (show FormC _ _ from f92).view)) | ((with_reducible refine is_build ?_); (refine' own_buildP (o := ⟨some 93, _, _, _, _, _⟩) [.int .i64 0] hO (by rfl) rfl slice_intsS rfl rfl (by rfl) (by decide) (by decide) ?_); clear hO; intro n93 wv hO) | (go_at_call 13; (with_reducible refine (hI0 _ _ _ (hO.isC f92 z0 (by intro q hq; repeat (exact List.mem_append_left _ hq))) (lit_cells (own_chunkAt hO List.mem_cons_self))).mono ?_); rintro e wv ⟨rfl, hb9⟩; replace hO := hO.call hb9; clear hb9) | (go_at_call 16; (with_reducible refine (hsn _ (hO.nms hN (by simp))).mono ?_); rintro e wv ⟨rfl, hb⟩; replace hO := hO.call hb; clear hb))
    go_ret
    exact ⟨rfl, hO.keep.below⟩
end Go.Proofs.YtfhkmkbfgmbbaaaGreatDoor
