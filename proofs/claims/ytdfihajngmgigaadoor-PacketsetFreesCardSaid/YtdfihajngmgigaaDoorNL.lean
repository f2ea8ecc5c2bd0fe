/- The tape: SpoilSet. -/
import Derived.Deep.CutRange
import Derived.Deep.DeepCutAuto
import Derived.Test.YtdfihajngmgigaaDoorNC
import Derived.Test.YtdfihajngmgigaaDoorNB
import Derived.Test.YtdfihajngmgigaaDoorMP
import Derived.Test.YtdfihajngmgigaaDoorMR
import Derived.Test.YtdfihajngmgigaaDoorNK
import Derived.Test.YtdfihajngmgigaaDoorMW
import Derived.Test.YtdfihajngmgigaaDoorMB
namespace Go.Proofs.YtdfihajngmgigaaDoor
open Go.RowKit
set_option maxRecDepth 100000
theorem set_frontLo {b : Bx} {j : Nat} (h : j < 5) (lo : Int) (ys : List Value) : (bcs b ++ ys).set (j * 2) (.int .u32 lo) = bcs (b.set j ⟨lo, (b.at j).hi⟩) ++ ys := by
  rcases five h with rfl | rfl | rfl | rfl | rfl <;> rfl
theorem cellsB_setLo {l : List Bx} {k j : Nat} (h : k < l.length) (hj : j < 5) (lo : Int) : (cellsB l).set (k * 10 + j * 2) (.int .u32 lo) = cellsB (l.set k (l[k].set j ⟨lo, (l[k].at j).hi⟩)) := by
  induction l generalizing k with
  | nil => simp at h
  | cons c l ih =>
    cases k with
    | zero =>
      simp only [cellsB, List.set_cons_zero, List.getElem_cons_zero, Nat.zero_mul, Nat.zero_add]
      exact set_frontLo hj lo _
    | succ k =>
      simp only [cellsB, List.set_cons_succ, List.getElem_cons_succ]
      rw [← ih (by simpa using h), show (k + 1) * 10 + j * 2 = (bcs c).length + (k * 10 + j * 2) by rw [bcs_length]; omega, List.set_append_right _ _ (by omega), Nat.add_sub_cancel_left]
/-- a list that differs from another one in one box at most -/
def SpoilP (w : World) (s : List Bx) (v : Value) (w' : World) : Prop := ∃ (m : List Bx) (b' : Bx), okL m ∧ (∀ b ∈ m, b ∈ s ∨ b = b') ∧ m.length ≤ s.length + 1 ∧ IsBoxes w' v m ∧ NewFrom w v
set_option maxHeartbeats 16000000 in
theorem tspoilset_any {w : World} {n : Nat} {sl : Value} {zs : List Int} {i : Nat} (vs : Value) (s : List Bx) (hZ : ZsOk sl zs) (hT : TapeIn w n sl zs i) (hv : IsBoxes w vs s) (hn : vs.ownBlock ≠ some n) (ks : okL s) (hs : s.length ≤ 1000000) :
    Calls Tryd.prog 28 #[.pointer (some ⟨n, 0, none⟩), vs] w (TPost w n sl zs (SpoilP w s)) := by
  have hO : Own [n] w [⟨n, tcs sl i, 74⟩] [] (roS vs (cellsB s) ++ roS sl (ints zs)) w := by
    have h0 := own_tape hT
    rcases hv with ⟨rfl, rfl⟩ | ⟨g, o, c, rfl, _, hr⟩
    · exact h0
    · exact h0.addRo ⟨g, o, cellsB s⟩ hr (fun _ => by simp [excl]; intro e; exact hn (by simp [Value.ownBlock, e]))
  have hf := hv.form
  obtain ⟨a, c, rfl, ha⟩ := hv.view
  clear hv hn
  have hsrc := fun (wq : World) (h : IsBoxes wq (.slice a s.length c) s) => show SrcAt wq 10 a s.length (cellsB s) by
    have := src_boxes (m := s.length) h (Nat.le_refl _)
    rwa [List.take_length] at this
  go_enter Tryd.func28, Tryd.ntmps28
  go_upto_region 2 with (first | ((with_reducible refine is_load ?_); refine own_ld (h := ?_)) | ((with_reducible refine is_store ?_); (first | refine own_stR (hO := hO) (h := ?_) | refine own_st1 (hO := hO) (h := ?_)); clear hO; intro wv hO) | ((with_reducible refine is_build ?_); (first | (refine' own_build1 (o := ⟨some 18, _, _, _, _, _⟩) hO (by rfl) rfl rfl ?hu ?hf ?_; (case hu => (first | exact Tryd.underlying29 | exact und_Set | exact und_Groups | exact und_Ranges)); (case hf => kernel_rfl); clear hO; intro n18 wv hO) | (refine' own_build1 (o := ⟨some 56, _, _, _, _, _⟩) hO (by rfl) rfl rfl ?hu ?hf ?_; (case hu => (first | exact Tryd.underlying29 | exact und_Set | exact und_Groups | exact und_Ranges)); (case hf => kernel_rfl); clear hO; intro n56 wv hO) | (refine' own_build1 (o := ⟨some 77, _, _, _, _, _⟩) hO (by rfl) rfl rfl ?hu ?hf ?_; (case hu => (first | exact Tryd.underlying29 | exact und_Set | exact und_Groups | exact und_Ranges)); (case hf => kernel_rfl); clear hO; intro n77 wv hO))) | ((with_reducible refine is_append ?_); (first | (refine own_ap (o := ⟨some 9, _, _, _, _, _⟩) (hO := hO) (h := ?_); clear hO; intro g9 c9 wv hO) | (refine own_ap (o := ⟨some 19, _, _, _, _, _⟩) (hO := hO) (h := ?_); clear hO; intro g19 c19 wv hO) | (refine own_ap (o := ⟨some 57, _, _, _, _, _⟩) (hO := hO) (h := ?_); clear hO; intro g57 c57 wv hO) | (refine own_ap (o := ⟨some 78, _, _, _, _, _⟩) (hO := hO) (h := ?_); clear hO; intro g78 c78 wv hO))) | ((with_reducible refine is_build ?_); (refine own_build0 (o := ⟨some 7, _, _, _, _, _⟩) hO (by rfl) rfl slice_Set ?_); clear hO; intro n7 wv hO) | ((with_reducible refine is_append ?_); (refine own_appendA (o := ⟨some 9, _, _, _, _, _⟩) hO rfl rfl slice_Set rfl rfl (hsrc _ (hO.isB hf (by intro q hq; repeat (first | exact hq | exact List.mem_append_left _ hq | apply List.mem_append_right | apply List.mem_cons_of_mem)))) (cellsB_one' _) (fun _ => by repeat (first | exact UpdR.here | apply UpdR.there)) (by first | omega | (simp; omega)) (by unfold maxLen; first | omega | (simp; omega)) ?_); clear hO; intro A9 c9 wv hO))
  simp only [Nat.zero_add, List.nil_append] at hO
  have fin : ∀ (m : List Bx) (b' : Bx) (wq : World) (j : Nat) (vq : Value) (kq : Nat) (xs : List Value), okL m → (∀ b ∈ m, b ∈ s ∨ b = b') → m.length ≤ s.length + 1 → j ≤ zs.length → xs = cellsB m → Own [n] w [⟨n, tcs sl j, 74⟩] [⟨vq, kq, xs, 66, 10⟩] (roS (.slice a s.length c) (cellsB s) ++ roS sl (ints zs)) wq → TPost w n sl zs (SpoilP w s) (.returned vq) wq := fun m b' wq j vq kq xs h1 h2 h3 h4 h5 h6 => by
    subst h5
    exact tpost h6 List.mem_cons_self (fun q hq => List.mem_append_right _ hq) h4 ⟨m, b', h1, h2, h3, own_boxes h6 List.mem_cons_self, own_newT h6 List.mem_cons_self (nodup_cons_row h6.nd)⟩
  have FIN := Lib.hid fin
  clear fin
  by_cases hE : s = []
  · subst hE
    go_wp2_with (first | ((with_reducible refine is_load ?_); refine own_ld (h := ?_)) | ((with_reducible refine is_store ?_); (first | refine own_stR (hO := hO) (h := ?_) | refine own_st1 (hO := hO) (h := ?_)); clear hO; intro wv hO) | ((with_reducible refine is_build ?_); (first | (refine' own_build1 (o := ⟨some 18, _, _, _, _, _⟩) hO (by rfl) rfl rfl ?hu ?hf ?_; (case hu => (first | exact Tryd.underlying29 | exact und_Set | exact und_Groups | exact und_Ranges)); (case hf => kernel_rfl); clear hO; intro n18 wv hO) | (refine' own_build1 (o := ⟨some 56, _, _, _, _, _⟩) hO (by rfl) rfl rfl ?hu ?hf ?_; (case hu => (first | exact Tryd.underlying29 | exact und_Set | exact und_Groups | exact und_Ranges)); (case hf => kernel_rfl); clear hO; intro n56 wv hO) | (refine' own_build1 (o := ⟨some 77, _, _, _, _, _⟩) hO (by rfl) rfl rfl ?hu ?hf ?_; (case hu => (first | exact Tryd.underlying29 | exact und_Set | exact und_Groups | exact und_Ranges)); (case hf => kernel_rfl); clear hO; intro n77 wv hO))) | ((with_reducible refine is_append ?_); (first | (refine own_ap (o := ⟨some 9, _, _, _, _, _⟩) (hO := hO) (h := ?_); clear hO; intro g9 c9 wv hO) | (refine own_ap (o := ⟨some 19, _, _, _, _, _⟩) (hO := hO) (h := ?_); clear hO; intro g19 c19 wv hO) | (refine own_ap (o := ⟨some 57, _, _, _, _, _⟩) (hO := hO) (h := ?_); clear hO; intro g57 c57 wv hO) | (refine own_ap (o := ⟨some 78, _, _, _, _, _⟩) (hO := hO) (h := ?_); clear hO; intro g78 c78 wv hO))) | (go_at_call 57; (with_reducible refine (tbox_any hZ (hO.tapeIn (by (repeat (first | exact List.mem_cons_self | refine List.mem_cons_of_mem _ ?_))) (by (intro s hs; repeat (first | exact hs | exact List.mem_append_left _ hs | apply List.mem_append_right | apply List.mem_cons_of_mem))) hT.le)).mono ?_); rintro e wv ⟨v, i1, rfl, hv9, hk, hT1⟩; replace hO := hO.after (by (repeat (first | exact Upd.here | apply Upd.there))) hk hT1.blk; replace hT := hT1; clear hT1 hk; obtain ⟨bx, rfl, kbx⟩ := hv9) | (go_at_call 58; (with_reducible refine (spoil_any bx hZ (hO.tapeIn (by (repeat (first | exact List.mem_cons_self | refine List.mem_cons_of_mem _ ?_))) (by (intro s hs; repeat (first | exact hs | exact List.mem_append_left _ hs | apply List.mem_append_right | apply List.mem_cons_of_mem))) hT.le) kbx.ok).mono ?_); rintro e wv ⟨v, i1, rfl, hv9, hk, hT1⟩; replace hO := hO.after (by (repeat (first | exact Upd.here | apply Upd.there))) hk hT1.blk; replace hT := hT1; clear hT1 hk; obtain ⟨by9, rfl, kby⟩ := hv9))
    go_ret
    exact FIN.out [by9] by9 _ _ _ _ _ (fun b hb => by rw [List.mem_singleton.1 hb]; exact kby) (fun b hb => .inr (List.mem_singleton.1 hb)) (by simp) hT.le (by rw [cellsB_one]; rfl) (hO.sub (.cons _ (.refl _)) (.refl _) (fun _ h => h))
  · have h0 : 0 < s.length := List.length_pos_iff.2 hE
    have g1 : ((s.length : Int) == 0) = false := by simp; omega
    go_upto_region 7 with (first | ((with_reducible refine is_load ?_); refine own_ld (h := ?_)) | ((with_reducible refine is_store ?_); (first | refine own_stR (hO := hO) (h := ?_) | refine own_st1 (hO := hO) (h := ?_)); clear hO; intro wv hO) | ((with_reducible refine is_build ?_); (first | (refine' own_build1 (o := ⟨some 18, _, _, _, _, _⟩) hO (by rfl) rfl rfl ?hu ?hf ?_; (case hu => (first | exact Tryd.underlying29 | exact und_Set | exact und_Groups | exact und_Ranges)); (case hf => kernel_rfl); clear hO; intro n18 wv hO) | (refine' own_build1 (o := ⟨some 56, _, _, _, _, _⟩) hO (by rfl) rfl rfl ?hu ?hf ?_; (case hu => (first | exact Tryd.underlying29 | exact und_Set | exact und_Groups | exact und_Ranges)); (case hf => kernel_rfl); clear hO; intro n56 wv hO) | (refine' own_build1 (o := ⟨some 77, _, _, _, _, _⟩) hO (by rfl) rfl rfl ?hu ?hf ?_; (case hu => (first | exact Tryd.underlying29 | exact und_Set | exact und_Groups | exact und_Ranges)); (case hf => kernel_rfl); clear hO; intro n77 wv hO))) | ((with_reducible refine is_append ?_); (first | (refine own_ap (o := ⟨some 9, _, _, _, _, _⟩) (hO := hO) (h := ?_); clear hO; intro g9 c9 wv hO) | (refine own_ap (o := ⟨some 19, _, _, _, _, _⟩) (hO := hO) (h := ?_); clear hO; intro g19 c19 wv hO) | (refine own_ap (o := ⟨some 57, _, _, _, _, _⟩) (hO := hO) (h := ?_); clear hO; intro g57 c57 wv hO) | (refine own_ap (o := ⟨some 78, _, _, _, _, _⟩) (hO := hO) (h := ?_); clear hO; intro g78 c78 wv hO))) | (go_at_call 27; (with_reducible refine (next_pos (s.length : Int) hZ (hO.tapeIn (by (repeat (first | exact List.mem_cons_self | refine List.mem_cons_of_mem _ ?_))) (by (intro s hs; repeat (first | exact hs | exact List.mem_append_left _ hs | apply List.mem_append_right | apply List.mem_cons_of_mem))) hT.le) (by omega) (by omega)).mono ?_); rintro e wv ⟨v, i1, rfl, hv9, hk, hT1⟩; replace hO := hO.after (by (repeat (first | exact Upd.here | apply Upd.there))) hk hT1.blk; replace hT := hT1; clear hT1 hk; obtain ⟨r9, rfl, hr0, hr1⟩ := hv9) | (go_at_call 27; (with_reducible refine (next_pos 5 hZ (hO.tapeIn (by (repeat (first | exact List.mem_cons_self | refine List.mem_cons_of_mem _ ?_))) (by (intro s hs; repeat (first | exact hs | exact List.mem_append_left _ hs | apply List.mem_append_right | apply List.mem_cons_of_mem))) hT.le) (by omega) (by omega)).mono ?_); rintro e wv ⟨v, i1, rfl, hv9, hk, hT1⟩; replace hO := hO.after (by (repeat (first | exact Upd.here | apply Upd.there))) hk hT1.blk; replace hT := hT1; clear hT1 hk; obtain ⟨q9, rfl, hq0, hq1⟩ := hv9))
    obtain ⟨k, rfl⟩ : ∃ k : Nat, r9 = k := ⟨r9.toNat, by omega⟩
    have hlt : k < s.length := by omega
    obtain ⟨a9, c8, e9, hg9⟩ := row_view (hO.row _ List.mem_cons_self)
    dsimp only at e9 hg9
    cases e9
    obtain ⟨g9, rfl⟩ := hg9 h0
    have t1 := tk_box s hlt
    have hsz : k * 10 + 10 ≤ (cellsB s).length := by rw [cellsB_length]; omega
    have hksk := ks s[k] (List.getElem_mem hlt)
    have HMk := Lib.hid (List.getElem_mem hlt)
    have hsl := cellsB_set hlt
    have HSL := Lib.hid hsl
    clear hsl hsrc hf
    have hq5 : q9 = 0 ∨ q9 = 1 ∨ q9 = 2 ∨ q9 = 3 ∨ q9 = 4 := by omega
    clear hq0 hq1
    rcases hq5 with rfl | rfl | rfl | rfl | rfl
    · go_wp2_with (first | ((with_reducible refine is_load ?_); refine own_ld (h := ?_)) | ((with_reducible refine is_store ?_); (first | refine own_stR (hO := hO) (h := ?_) | refine own_st1 (hO := hO) (h := ?_)); clear hO; intro wv hO) | ((with_reducible refine is_build ?_); (first | (refine' own_build1 (o := ⟨some 18, _, _, _, _, _⟩) hO (by rfl) rfl rfl ?hu ?hf ?_; (case hu => (first | exact Tryd.underlying29 | exact und_Set | exact und_Groups | exact und_Ranges)); (case hf => kernel_rfl); clear hO; intro n18 wv hO) | (refine' own_build1 (o := ⟨some 56, _, _, _, _, _⟩) hO (by rfl) rfl rfl ?hu ?hf ?_; (case hu => (first | exact Tryd.underlying29 | exact und_Set | exact und_Groups | exact und_Ranges)); (case hf => kernel_rfl); clear hO; intro n56 wv hO) | (refine' own_build1 (o := ⟨some 77, _, _, _, _, _⟩) hO (by rfl) rfl rfl ?hu ?hf ?_; (case hu => (first | exact Tryd.underlying29 | exact und_Set | exact und_Groups | exact und_Ranges)); (case hf => kernel_rfl); clear hO; intro n77 wv hO))) | ((with_reducible refine is_append ?_); (first | (refine own_ap (o := ⟨some 9, _, _, _, _, _⟩) (hO := hO) (h := ?_); clear hO; intro g9 c9 wv hO) | (refine own_ap (o := ⟨some 19, _, _, _, _, _⟩) (hO := hO) (h := ?_); clear hO; intro g19 c19 wv hO) | (refine own_ap (o := ⟨some 57, _, _, _, _, _⟩) (hO := hO) (h := ?_); clear hO; intro g57 c57 wv hO) | (refine own_ap (o := ⟨some 78, _, _, _, _, _⟩) (hO := hO) (h := ?_); clear hO; intro g78 c78 wv hO))) | (go_at_call 58; (with_reducible refine (spoil_any s[k] hZ (hO.tapeIn (by (repeat (first | exact List.mem_cons_self | refine List.mem_cons_of_mem _ ?_))) (by (intro s hs; repeat (first | exact hs | exact List.mem_append_left _ hs | apply List.mem_append_right | apply List.mem_cons_of_mem))) hT.le) hksk).mono ?_); rintro e wv ⟨v, i1, rfl, hv9, hk, hT1⟩; replace hO := hO.after (by (repeat (first | exact Upd.here | apply Upd.there))) hk hT1.blk; replace hT := hT1; clear hT1 hk; obtain ⟨by9, rfl, kby⟩ := hv9) | ((with_reducible refine is_store ?_); (refine own_stRw hO (h := ?_); clear hO; intro wv hO)))
      go_ret
      exact FIN.out (s.set k by9) by9 _ _ _ _ _ (fun b hb => (List.mem_or_eq_of_mem_set hb).elim (fun h => ks b h) (fun h => by rw [h]; exact kby)) (fun b hb => List.mem_or_eq_of_mem_set hb) (by simp) hT.le (HSL.out by9) hO
    · go_wp2_with (first | ((with_reducible refine is_load ?_); refine own_ld (h := ?_)) | ((with_reducible refine is_store ?_); (first | refine own_stR (hO := hO) (h := ?_) | refine own_st1 (hO := hO) (h := ?_)); clear hO; intro wv hO) | ((with_reducible refine is_build ?_); (first | (refine' own_build1 (o := ⟨some 18, _, _, _, _, _⟩) hO (by rfl) rfl rfl ?hu ?hf ?_; (case hu => (first | exact Tryd.underlying29 | exact und_Set | exact und_Groups | exact und_Ranges)); (case hf => kernel_rfl); clear hO; intro n18 wv hO) | (refine' own_build1 (o := ⟨some 56, _, _, _, _, _⟩) hO (by rfl) rfl rfl ?hu ?hf ?_; (case hu => (first | exact Tryd.underlying29 | exact und_Set | exact und_Groups | exact und_Ranges)); (case hf => kernel_rfl); clear hO; intro n56 wv hO) | (refine' own_build1 (o := ⟨some 77, _, _, _, _, _⟩) hO (by rfl) rfl rfl ?hu ?hf ?_; (case hu => (first | exact Tryd.underlying29 | exact und_Set | exact und_Groups | exact und_Ranges)); (case hf => kernel_rfl); clear hO; intro n77 wv hO))) | ((with_reducible refine is_append ?_); (first | (refine own_ap (o := ⟨some 9, _, _, _, _, _⟩) (hO := hO) (h := ?_); clear hO; intro g9 c9 wv hO) | (refine own_ap (o := ⟨some 19, _, _, _, _, _⟩) (hO := hO) (h := ?_); clear hO; intro g19 c19 wv hO) | (refine own_ap (o := ⟨some 57, _, _, _, _, _⟩) (hO := hO) (h := ?_); clear hO; intro g57 c57 wv hO) | (refine own_ap (o := ⟨some 78, _, _, _, _, _⟩) (hO := hO) (h := ?_); clear hO; intro g78 c78 wv hO))))
      go_ret
      exact FIN.out (s ++ [s[k]]) s[k] _ _ _ _ _ (fun b hb => (List.mem_append.1 hb).elim (fun h => ks b h) (fun h => by rw [List.mem_singleton.1 h]; exact hksk)) (fun b hb => (List.mem_append.1 hb).imp id (fun h => List.mem_singleton.1 h)) (by simp) hT.le (by rw [cellsB_append, cellsB_one]) (hO.sub (.cons _ (.refl _)) (.refl _) (fun _ h => h))
    · have t0 := tk_box0 s h0
      have hn1 := HSL.out s[0]
      have hl1 : 0 < (s.set k s[0]).length := by simp; omega
      have hn2 := cellsB_set hl1 s[k]
      rw [Nat.zero_mul] at hn2
      have hs2 : 0 + 10 ≤ (cellsB (s.set k s[0])).length := by rw [cellsB_length]; omega
      have HM0 := Lib.hid (List.getElem_mem h0)
      clear hl1
      go_wp2_with (first | ((with_reducible refine is_load ?_); refine own_ld (h := ?_)) | ((with_reducible refine is_store ?_); (first | refine own_stR (hO := hO) (h := ?_) | refine own_st1 (hO := hO) (h := ?_)); clear hO; intro wv hO) | ((with_reducible refine is_build ?_); (first | (refine' own_build1 (o := ⟨some 18, _, _, _, _, _⟩) hO (by rfl) rfl rfl ?hu ?hf ?_; (case hu => (first | exact Tryd.underlying29 | exact und_Set | exact und_Groups | exact und_Ranges)); (case hf => kernel_rfl); clear hO; intro n18 wv hO) | (refine' own_build1 (o := ⟨some 56, _, _, _, _, _⟩) hO (by rfl) rfl rfl ?hu ?hf ?_; (case hu => (first | exact Tryd.underlying29 | exact und_Set | exact und_Groups | exact und_Ranges)); (case hf => kernel_rfl); clear hO; intro n56 wv hO) | (refine' own_build1 (o := ⟨some 77, _, _, _, _, _⟩) hO (by rfl) rfl rfl ?hu ?hf ?_; (case hu => (first | exact Tryd.underlying29 | exact und_Set | exact und_Groups | exact und_Ranges)); (case hf => kernel_rfl); clear hO; intro n77 wv hO))) | ((with_reducible refine is_append ?_); (first | (refine own_ap (o := ⟨some 9, _, _, _, _, _⟩) (hO := hO) (h := ?_); clear hO; intro g9 c9 wv hO) | (refine own_ap (o := ⟨some 19, _, _, _, _, _⟩) (hO := hO) (h := ?_); clear hO; intro g19 c19 wv hO) | (refine own_ap (o := ⟨some 57, _, _, _, _, _⟩) (hO := hO) (h := ?_); clear hO; intro g57 c57 wv hO) | (refine own_ap (o := ⟨some 78, _, _, _, _, _⟩) (hO := hO) (h := ?_); clear hO; intro g78 c78 wv hO))))
      (try simp only [Act.put]); (try simp only [List.setIfInBounds_toArray, List.set_cons_zero, List.set_cons_succ])
      refine wp_region_any (by kernel_rfl) ?_
      replace hO := hO.drew
      have ix9 := Ix.mk [0, 1, 2, 3, 4, 6, 7, 8]
      iterate 8 (refine wpAny_tk ix9 ?_; replace ix9 := ix9.tail; (first | go_big_quiet_skip | (go_big_quiet_want; (go_big_quiet_op; (first | go_big_quiet_on | ((refine ⟨_, fun _ _ => rfl, ?_⟩); go_big_quiet_on))))); (refine wpQuiet_nil ?_); (try simp only [Act.put]); (try simp only [List.setIfInBounds_toArray, List.set_cons_zero, List.set_cons_succ]))
      clear ix9
      refine wpAny_all (rs := [5, 9]) (by kernel_rfl) (by simp) (ord_cons ?_ (ord_cons ?_ ord_nil))
      rotate_left 2
      all_goals
        refine wpOp_of_listL rfl ?_
        (first | ((with_reducible refine is_load ?_); refine own_ld (h := ?_)) | ((with_reducible refine is_store ?_); (first | refine own_stR (hO := hO) (h := ?_) | refine own_st1 (hO := hO) (h := ?_)); clear hO; intro wv hO) | ((with_reducible refine is_store ?_); (refine own_stRw hO (h := ?_); clear hO; intro wv hO)) | ((refine wpList_step (fun K hK => ?_)); go_simp; (first | ((refine hK _ _ ?_); clear hK K)))); (try simp only [Act.put]); (try simp only [List.setIfInBounds_toArray, List.set_cons_zero, List.set_cons_succ])
        refine wpList_done (qk_intro ?_)
      refine wpAny_all (rs := [9]) (by kernel_rfl) (by simp) (ord_cons ?_ ord_nil)
      rotate_left 1
      refine wpAny_all (rs := [5]) (by kernel_rfl) (by simp) (ord_cons ?_ ord_nil)
      rotate_left 1
      all_goals
        refine wpOp_of_listL rfl ?_
        (first | ((with_reducible refine is_load ?_); refine own_ld (h := ?_)) | ((with_reducible refine is_store ?_); (first | refine own_stR (hO := hO) (h := ?_) | refine own_st1 (hO := hO) (h := ?_)); clear hO; intro wv hO) | ((with_reducible refine is_store ?_); (refine own_stRw hO (h := ?_); clear hO; intro wv hO)) | ((refine wpList_step (fun K hK => ?_)); go_simp; (first | ((refine hK _ _ ?_); clear hK K)))); (try simp only [Act.put]); (try simp only [List.setIfInBounds_toArray, List.set_cons_zero, List.set_cons_succ])
        refine wpList_done (qk_intro ?_)
      refine wpAny_tk (Ix.mk [10]) ?_
      (first | go_big_quiet_skip | (go_big_quiet_want; (go_big_quiet_op; (first | go_big_quiet_on | ((refine ⟨_, fun _ _ => rfl, ?_⟩); go_big_quiet_on))))); (refine wpQuiet_nil ?_); (try simp only [Act.put]); (try simp only [List.setIfInBounds_toArray, List.set_cons_zero, List.set_cons_succ])
      refine wpAny_all (rs := [11]) (by kernel_rfl) (by simp) (ord_cons ?_ ord_nil)
      rotate_left 1
      refine wpAny_tk (Ix.mk [10]) ?_
      (first | go_big_quiet_skip | (go_big_quiet_want; (go_big_quiet_op; (first | go_big_quiet_on | ((refine ⟨_, fun _ _ => rfl, ?_⟩); go_big_quiet_on))))); (refine wpQuiet_nil ?_); (try simp only [Act.put]); (try simp only [List.setIfInBounds_toArray, List.set_cons_zero, List.set_cons_succ])
      refine wpAny_all (rs := [11]) (by kernel_rfl) (by simp) (ord_cons ?_ ord_nil)
      rotate_left 1
      all_goals
        refine wpOp_of_listL rfl ?_
        (first | ((with_reducible refine is_load ?_); refine own_ld (h := ?_)) | ((with_reducible refine is_store ?_); (first | refine own_stR (hO := hO) (h := ?_) | refine own_st1 (hO := hO) (h := ?_)); clear hO; intro wv hO) | ((with_reducible refine is_store ?_); (refine own_stRw hO (h := ?_); clear hO; intro wv hO)) | ((refine wpList_step (fun K hK => ?_)); go_simp; (first | ((refine hK _ _ ?_); clear hK K)))); (try simp only [Act.put]); (try simp only [List.setIfInBounds_toArray, List.set_cons_zero, List.set_cons_succ])
        refine wpList_done (qk_intro ?_)
      refine wpAny_tk (Ix.mk [12]) ?_
      (first | go_big_quiet_skip | (go_big_quiet_want; (go_big_quiet_op; (first | go_big_quiet_on | ((refine ⟨_, fun _ _ => rfl, ?_⟩); go_big_quiet_on))))); (refine wpQuiet_nil ?_); (try simp only [Act.put]); (try simp only [List.setIfInBounds_toArray, List.set_cons_zero, List.set_cons_succ])
      refine wpAny_all (rs := [13]) (by kernel_rfl) (by simp) (ord_cons ?_ ord_nil)
      rotate_left 1
      refine wpAny_tk (Ix.mk [12]) ?_
      (first | go_big_quiet_skip | (go_big_quiet_want; (go_big_quiet_op; (first | go_big_quiet_on | ((refine ⟨_, fun _ _ => rfl, ?_⟩); go_big_quiet_on))))); (refine wpQuiet_nil ?_); (try simp only [Act.put]); (try simp only [List.setIfInBounds_toArray, List.set_cons_zero, List.set_cons_succ])
      refine wpAny_all (rs := [13]) (by kernel_rfl) (by simp) (ord_cons ?_ ord_nil)
      rotate_left 1
      all_goals
        refine wpOp_of_listL rfl ?_
        (first | ((with_reducible refine is_load ?_); refine own_ld (h := ?_)) | ((with_reducible refine is_store ?_); (first | refine own_stR (hO := hO) (h := ?_) | refine own_st1 (hO := hO) (h := ?_)); clear hO; intro wv hO) | ((with_reducible refine is_store ?_); (refine own_stRw hO (h := ?_); clear hO; intro wv hO)) | ((refine wpList_step (fun K hK => ?_)); go_simp; (first | ((refine hK _ _ ?_); clear hK K)))); (try simp only [Act.put]); (try simp only [List.setIfInBounds_toArray, List.set_cons_zero, List.set_cons_succ])
        refine wpList_done (qk_intro ?_)
      refine wpAny_done (by kernel_rfl) ?_ _
      rotate_left
      refine wpAny_done (by kernel_rfl) ?_ _
      rotate_left
      all_goals
        go_wp2_with (first | ((with_reducible refine is_load ?_); refine own_ld (h := ?_)) | ((with_reducible refine is_store ?_); (first | refine own_stR (hO := hO) (h := ?_) | refine own_st1 (hO := hO) (h := ?_)); clear hO; intro wv hO) | ((with_reducible refine is_build ?_); (first | (refine' own_build1 (o := ⟨some 18, _, _, _, _, _⟩) hO (by rfl) rfl rfl ?hu ?hf ?_; (case hu => (first | exact Tryd.underlying29 | exact und_Set | exact und_Groups | exact und_Ranges)); (case hf => kernel_rfl); clear hO; intro n18 wv hO) | (refine' own_build1 (o := ⟨some 56, _, _, _, _, _⟩) hO (by rfl) rfl rfl ?hu ?hf ?_; (case hu => (first | exact Tryd.underlying29 | exact und_Set | exact und_Groups | exact und_Ranges)); (case hf => kernel_rfl); clear hO; intro n56 wv hO) | (refine' own_build1 (o := ⟨some 77, _, _, _, _, _⟩) hO (by rfl) rfl rfl ?hu ?hf ?_; (case hu => (first | exact Tryd.underlying29 | exact und_Set | exact und_Groups | exact und_Ranges)); (case hf => kernel_rfl); clear hO; intro n77 wv hO))) | ((with_reducible refine is_append ?_); (first | (refine own_ap (o := ⟨some 9, _, _, _, _, _⟩) (hO := hO) (h := ?_); clear hO; intro g9 c9 wv hO) | (refine own_ap (o := ⟨some 19, _, _, _, _, _⟩) (hO := hO) (h := ?_); clear hO; intro g19 c19 wv hO) | (refine own_ap (o := ⟨some 57, _, _, _, _, _⟩) (hO := hO) (h := ?_); clear hO; intro g57 c57 wv hO) | (refine own_ap (o := ⟨some 78, _, _, _, _, _⟩) (hO := hO) (h := ?_); clear hO; intro g78 c78 wv hO))))
        go_ret
        exact FIN.out ((s.set k s[0]).set 0 s[k]) s[k] _ _ _ _ _ (fun b hb => (List.mem_or_eq_of_mem_set hb).elim (fun h => (List.mem_or_eq_of_mem_set h).elim (ks b) (fun h => by rw [h]; exact ks _ HM0.out)) (fun h => by rw [h]; exact hksk)) (fun b hb => (List.mem_or_eq_of_mem_set hb).elim (fun h => (List.mem_or_eq_of_mem_set h).elim .inl (fun h => .inl (by rw [h]; exact HM0.out))) .inr) (by simp) hT.le rfl hO
    · go_wp2_with (first | ((with_reducible refine is_load ?_); refine own_ld (h := ?_)) | ((with_reducible refine is_store ?_); (first | refine own_stR (hO := hO) (h := ?_) | refine own_st1 (hO := hO) (h := ?_)); clear hO; intro wv hO) | ((with_reducible refine is_build ?_); (first | (refine' own_build1 (o := ⟨some 18, _, _, _, _, _⟩) hO (by rfl) rfl rfl ?hu ?hf ?_; (case hu => (first | exact Tryd.underlying29 | exact und_Set | exact und_Groups | exact und_Ranges)); (case hf => kernel_rfl); clear hO; intro n18 wv hO) | (refine' own_build1 (o := ⟨some 56, _, _, _, _, _⟩) hO (by rfl) rfl rfl ?hu ?hf ?_; (case hu => (first | exact Tryd.underlying29 | exact und_Set | exact und_Groups | exact und_Ranges)); (case hf => kernel_rfl); clear hO; intro n56 wv hO) | (refine' own_build1 (o := ⟨some 77, _, _, _, _, _⟩) hO (by rfl) rfl rfl ?hu ?hf ?_; (case hu => (first | exact Tryd.underlying29 | exact und_Set | exact und_Groups | exact und_Ranges)); (case hf => kernel_rfl); clear hO; intro n77 wv hO))) | ((with_reducible refine is_append ?_); (first | (refine own_ap (o := ⟨some 9, _, _, _, _, _⟩) (hO := hO) (h := ?_); clear hO; intro g9 c9 wv hO) | (refine own_ap (o := ⟨some 19, _, _, _, _, _⟩) (hO := hO) (h := ?_); clear hO; intro g19 c19 wv hO) | (refine own_ap (o := ⟨some 57, _, _, _, _, _⟩) (hO := hO) (h := ?_); clear hO; intro g57 c57 wv hO) | (refine own_ap (o := ⟨some 78, _, _, _, _, _⟩) (hO := hO) (h := ?_); clear hO; intro g78 c78 wv hO))) | (go_at_call 57; (with_reducible refine (tbox_any hZ (hO.tapeIn (by (repeat (first | exact List.mem_cons_self | refine List.mem_cons_of_mem _ ?_))) (by (intro s hs; repeat (first | exact hs | exact List.mem_append_left _ hs | apply List.mem_append_right | apply List.mem_cons_of_mem))) hT.le)).mono ?_); rintro e wv ⟨v, i1, rfl, hv9, hk, hT1⟩; replace hO := hO.after (by (repeat (first | exact Upd.here | apply Upd.there))) hk hT1.blk; replace hT := hT1; clear hT1 hk; obtain ⟨bx, rfl, kbx⟩ := hv9))
      go_ret
      exact FIN.out (s ++ [bx]) bx _ _ _ _ _ (fun b hb => (List.mem_append.1 hb).elim (fun h => ks b h) (fun h => by rw [List.mem_singleton.1 h]; exact kbx.ok)) (fun b hb => (List.mem_append.1 hb).imp id (fun h => List.mem_singleton.1 h)) (by simp) hT.le (by rw [cellsB_append, cellsB_one]) (hO.sub (.cons _ (.refl _)) (.refl _) (fun _ h => h))
    · go_wp2_with (first | ((with_reducible refine is_load ?_); refine own_ld (h := ?_)) | ((with_reducible refine is_store ?_); (first | refine own_stR (hO := hO) (h := ?_) | refine own_st1 (hO := hO) (h := ?_)); clear hO; intro wv hO) | ((with_reducible refine is_build ?_); (first | (refine' own_build1 (o := ⟨some 18, _, _, _, _, _⟩) hO (by rfl) rfl rfl ?hu ?hf ?_; (case hu => (first | exact Tryd.underlying29 | exact und_Set | exact und_Groups | exact und_Ranges)); (case hf => kernel_rfl); clear hO; intro n18 wv hO) | (refine' own_build1 (o := ⟨some 56, _, _, _, _, _⟩) hO (by rfl) rfl rfl ?hu ?hf ?_; (case hu => (first | exact Tryd.underlying29 | exact und_Set | exact und_Groups | exact und_Ranges)); (case hf => kernel_rfl); clear hO; intro n56 wv hO) | (refine' own_build1 (o := ⟨some 77, _, _, _, _, _⟩) hO (by rfl) rfl rfl ?hu ?hf ?_; (case hu => (first | exact Tryd.underlying29 | exact und_Set | exact und_Groups | exact und_Ranges)); (case hf => kernel_rfl); clear hO; intro n77 wv hO))) | ((with_reducible refine is_append ?_); (first | (refine own_ap (o := ⟨some 9, _, _, _, _, _⟩) (hO := hO) (h := ?_); clear hO; intro g9 c9 wv hO) | (refine own_ap (o := ⟨some 19, _, _, _, _, _⟩) (hO := hO) (h := ?_); clear hO; intro g19 c19 wv hO) | (refine own_ap (o := ⟨some 57, _, _, _, _, _⟩) (hO := hO) (h := ?_); clear hO; intro g57 c57 wv hO) | (refine own_ap (o := ⟨some 78, _, _, _, _, _⟩) (hO := hO) (h := ?_); clear hO; intro g78 c78 wv hO))))
      (try simp only [Act.put]); (try simp only [List.setIfInBounds_toArray, List.set_cons_zero, List.set_cons_succ])
      refine wp_region_any (by kernel_rfl) ?_
      replace hO := hO.drew
      have ix9 := Ix.mk [0, 1, 2, 4, 9]
      iterate 5 (refine wpAny_tk ix9 ?_; replace ix9 := ix9.tail; (first | go_big_quiet_skip | (go_big_quiet_want; (go_big_quiet_op; (first | go_big_quiet_on | ((refine ⟨_, fun _ _ => rfl, ?_⟩); go_big_quiet_on))))); (refine wpQuiet_nil ?_); (try simp only [Act.put]); (try simp only [List.setIfInBounds_toArray, List.set_cons_zero, List.set_cons_succ]))
      clear ix9
      refine wpAny_all (rs := [3]) (by kernel_rfl) (by simp) (ord_cons ?_ ord_nil)
      rotate_left 1
      all_goals
        refine wpOp_of_listL rfl ?_
        (first | ((with_reducible refine is_load ?_); refine own_ld (h := ?_)) | ((with_reducible refine is_store ?_); (first | refine own_stR (hO := hO) (h := ?_) | refine own_st1 (hO := hO) (h := ?_)); clear hO; intro wv hO) | ((with_reducible refine is_store ?_); (refine own_stRo hO (h := ?_); clear hO; intro wv hO)) | ((refine wpList_step (fun K hK => ?_)); go_simp; (first | ((refine hK _ _ ?_); clear hK K) | ((first | (go_at_call 27; (with_reducible refine (next_pos 5 hZ (hO.tapeIn (by (repeat (first | exact List.mem_cons_self | refine List.mem_cons_of_mem _ ?_))) (by (intro s hs; repeat (first | exact hs | exact List.mem_append_left _ hs | apply List.mem_append_right | apply List.mem_cons_of_mem))) hT.le) (by omega) (by omega)).mono ?_); rintro e wv ⟨v, i1, rfl, hv9, hk, hT1⟩; replace hO := hO.after (by (repeat (first | exact Upd.here | apply Upd.there))) hk hT1.blk; replace hT := hT1; clear hT1 hk; obtain ⟨f9, rfl, hf0, hf1⟩ := hv9; obtain ⟨f5, rfl⟩ : ∃ f5 : Nat, f9 = f5 := ⟨f9.toNat, by omega⟩; have hf5 : f5 < 5 := (by omega); have c9 := cb_lo s hlt hf5; have hn9 := cellsB_setLo hlt hf5 (IntKind.u32.wrap ((s[k].at f5).lo + 1)); have hs9 : k * 10 + f5 * 2 < (cellsB s).length := (by rw [cellsB_length]; omega))); (try simp only []); (refine hK _ _ ?_); clear hK K)))); (try simp only [Act.put]); (try simp only [List.setIfInBounds_toArray, List.set_cons_zero, List.set_cons_succ])
        refine wpList_done (qk_intro ?_)
      have ix9 := Ix.mk [5, 6]
      iterate 2 (refine wpAny_tk ix9 ?_; replace ix9 := ix9.tail; (first | go_big_quiet_skip | (go_big_quiet_want; (go_big_quiet_op; (first | go_big_quiet_on | ((refine ⟨_, fun _ _ => rfl, ?_⟩); go_big_quiet_on))))); (refine wpQuiet_nil ?_); (try simp only [Act.put]); (try simp only [List.setIfInBounds_toArray, List.set_cons_zero, List.set_cons_succ]))
      clear ix9
      refine wpAny_all (rs := [7]) (by kernel_rfl) (by simp) (ord_cons ?_ ord_nil)
      rotate_left 1
      all_goals
        refine wpOp_of_listL rfl ?_
        (first | ((with_reducible refine is_load ?_); refine own_ld (h := ?_)) | ((with_reducible refine is_store ?_); (first | refine own_stR (hO := hO) (h := ?_) | refine own_st1 (hO := hO) (h := ?_)); clear hO; intro wv hO) | ((with_reducible refine is_store ?_); (refine own_stRo hO (h := ?_); clear hO; intro wv hO)) | ((refine wpList_step (fun K hK => ?_)); go_simp; (first | ((refine hK _ _ ?_); clear hK K) | ((first | (go_at_call 27; (with_reducible refine (next_pos 5 hZ (hO.tapeIn (by (repeat (first | exact List.mem_cons_self | refine List.mem_cons_of_mem _ ?_))) (by (intro s hs; repeat (first | exact hs | exact List.mem_append_left _ hs | apply List.mem_append_right | apply List.mem_cons_of_mem))) hT.le) (by omega) (by omega)).mono ?_); rintro e wv ⟨v, i1, rfl, hv9, hk, hT1⟩; replace hO := hO.after (by (repeat (first | exact Upd.here | apply Upd.there))) hk hT1.blk; replace hT := hT1; clear hT1 hk; obtain ⟨f9, rfl, hf0, hf1⟩ := hv9; obtain ⟨f5, rfl⟩ : ∃ f5 : Nat, f9 = f5 := ⟨f9.toNat, by omega⟩; have hf5 : f5 < 5 := (by omega); have c9 := cb_lo s hlt hf5; have hn9 := cellsB_setLo hlt hf5 (IntKind.u32.wrap ((s[k].at f5).lo + 1)); have hs9 : k * 10 + f5 * 2 < (cellsB s).length := (by rw [cellsB_length]; omega))); (try simp only []); (refine hK _ _ ?_); clear hK K)))); (try simp only [Act.put]); (try simp only [List.setIfInBounds_toArray, List.set_cons_zero, List.set_cons_succ])
        refine wpList_done (qk_intro ?_)
      have ix9 := Ix.mk [8, 10, 11]
      iterate 3 (refine wpAny_tk ix9 ?_; replace ix9 := ix9.tail; (first | go_big_quiet_skip | (go_big_quiet_want; (go_big_quiet_op; (first | go_big_quiet_on | ((refine ⟨_, fun _ _ => rfl, ?_⟩); go_big_quiet_on))))); (refine wpQuiet_nil ?_); (try simp only [Act.put]); (try simp only [List.setIfInBounds_toArray, List.set_cons_zero, List.set_cons_succ]))
      clear ix9
      refine wpAny_all (rs := [12]) (by kernel_rfl) (by simp) (ord_cons ?_ ord_nil)
      rotate_left 1
      all_goals
        refine wpOp_of_listL rfl ?_
        (first | ((with_reducible refine is_load ?_); refine own_ld (h := ?_)) | ((with_reducible refine is_store ?_); (first | refine own_stR (hO := hO) (h := ?_) | refine own_st1 (hO := hO) (h := ?_)); clear hO; intro wv hO) | ((with_reducible refine is_store ?_); (refine own_stRo hO (h := ?_); clear hO; intro wv hO)) | ((refine wpList_step (fun K hK => ?_)); go_simp; (first | ((refine hK _ _ ?_); clear hK K) | ((first | (go_at_call 27; (with_reducible refine (next_pos 5 hZ (hO.tapeIn (by (repeat (first | exact List.mem_cons_self | refine List.mem_cons_of_mem _ ?_))) (by (intro s hs; repeat (first | exact hs | exact List.mem_append_left _ hs | apply List.mem_append_right | apply List.mem_cons_of_mem))) hT.le) (by omega) (by omega)).mono ?_); rintro e wv ⟨v, i1, rfl, hv9, hk, hT1⟩; replace hO := hO.after (by (repeat (first | exact Upd.here | apply Upd.there))) hk hT1.blk; replace hT := hT1; clear hT1 hk; obtain ⟨f9, rfl, hf0, hf1⟩ := hv9; obtain ⟨f5, rfl⟩ : ∃ f5 : Nat, f9 = f5 := ⟨f9.toNat, by omega⟩; have hf5 : f5 < 5 := (by omega); have c9 := cb_lo s hlt hf5; have hn9 := cellsB_setLo hlt hf5 (IntKind.u32.wrap ((s[k].at f5).lo + 1)); have hs9 : k * 10 + f5 * 2 < (cellsB s).length := (by rw [cellsB_length]; omega))); (try simp only []); (refine hK _ _ ?_); clear hK K)))); (try simp only [Act.put]); (try simp only [List.setIfInBounds_toArray, List.set_cons_zero, List.set_cons_succ])
        refine wpList_done (qk_intro ?_)
      refine wpAny_done (by kernel_rfl) ?_ _
      rotate_left
      all_goals
        go_wp2_with (first | ((with_reducible refine is_load ?_); refine own_ld (h := ?_)) | ((with_reducible refine is_store ?_); (first | refine own_stR (hO := hO) (h := ?_) | refine own_st1 (hO := hO) (h := ?_)); clear hO; intro wv hO) | ((with_reducible refine is_build ?_); (first | (refine' own_build1 (o := ⟨some 18, _, _, _, _, _⟩) hO (by rfl) rfl rfl ?hu ?hf ?_; (case hu => (first | exact Tryd.underlying29 | exact und_Set | exact und_Groups | exact und_Ranges)); (case hf => kernel_rfl); clear hO; intro n18 wv hO) | (refine' own_build1 (o := ⟨some 56, _, _, _, _, _⟩) hO (by rfl) rfl rfl ?hu ?hf ?_; (case hu => (first | exact Tryd.underlying29 | exact und_Set | exact und_Groups | exact und_Ranges)); (case hf => kernel_rfl); clear hO; intro n56 wv hO) | (refine' own_build1 (o := ⟨some 77, _, _, _, _, _⟩) hO (by rfl) rfl rfl ?hu ?hf ?_; (case hu => (first | exact Tryd.underlying29 | exact und_Set | exact und_Groups | exact und_Ranges)); (case hf => kernel_rfl); clear hO; intro n77 wv hO))) | ((with_reducible refine is_append ?_); (first | (refine own_ap (o := ⟨some 9, _, _, _, _, _⟩) (hO := hO) (h := ?_); clear hO; intro g9 c9 wv hO) | (refine own_ap (o := ⟨some 19, _, _, _, _, _⟩) (hO := hO) (h := ?_); clear hO; intro g19 c19 wv hO) | (refine own_ap (o := ⟨some 57, _, _, _, _, _⟩) (hO := hO) (h := ?_); clear hO; intro g57 c57 wv hO) | (refine own_ap (o := ⟨some 78, _, _, _, _, _⟩) (hO := hO) (h := ?_); clear hO; intro g78 c78 wv hO))))
        go_ret
        exact FIN.out (s.set k (s[k].set f5 ⟨IntKind.u32.wrap ((s[k].at f5).lo + 1), (s[k].at f5).hi⟩)) (s[k].set f5 ⟨IntKind.u32.wrap ((s[k].at f5).lo + 1), (s[k].at f5).hi⟩) _ _ _ _ _ (fun b hb => (List.mem_or_eq_of_mem_set hb).elim (ks b) (fun h => by rw [h]; exact ok_set hksk f5 (by rw [IntKind.wrap_u32]; omega) (by rw [IntKind.wrap_u32]; omega) (hksk f5 hf5).2.1 (hksk f5 hf5).2.2)) (fun b hb => List.mem_or_eq_of_mem_set hb) (by simp) hT.le rfl hO
end Go.Proofs.YtdfihajngmgigaaDoor

/- PacketsetFrees: the walk. -/
namespace Go.Proofs.YtdfihajngmgigaaDoor
open Go.RowKit
set_option maxRecDepth 100000
theorem mk_facts {l : List Bx} (kl : okL l) (nl : l.length ≤ 4) : okL ((makeF l).getD []) ∧ ((makeF l).getD []).length ≤ 4096 ∧ Ends 8 ((makeF l).getD []) := by
  cases h : makeF l with
  | none => exact ⟨fun b hb => (by cases hb), by simp, (ends_len []).mono (by simp)⟩
  | some r =>
    obtain ⟨h1, _⟩ := make_set kl h
    obtain ⟨e, he⟩ := (ends_len (valF l)).at
    have h2 := (EndsAt.make he.nil he h).ends
    have h3 := valF_le l
    exact ⟨h1.ok, h1.2.1, h2.mono (by omega)⟩
theorem spoil_ends {N : Nat} {s m : List Bx} {b' : Bx} (h : Ends N s) (hm : ∀ b ∈ m, b ∈ s ∨ b = b') : Ends (N + 2) m := fun k hk => by
  obtain ⟨e, h1, h2⟩ := h k hk
  refine ⟨(b'.at k).lo :: ((b'.at k).hi + 1) :: e, by simp; omega, fun b hb => ?_⟩
  rcases hm b hb with h3 | rfl
  · obtain ⟨h4, h5⟩ := h2 b h3
    constructor
    · simp only [List.mem_cons] at h4 ⊢; rcases h4 with h | h | h <;> simp [h]
    · simp only [List.mem_cons] at h5 ⊢; rcases h5 with h | h | h <;> simp [h]
  · constructor <;> simp
set_option maxHeartbeats 32000000 in
theorem psfrees_law (sl : Value) (zs : List Int) (vl : Value) (l : List Bx) (f : Int) (w : World) (ht : Tops w) (hZ : ZsOk sl zs) (hr : ∀ s ∈ roS sl (ints zs), w.rangeAt s.g s.o s.xs) (hvl : IsBoxes w vl l) (kl : okL l) :
    Calls Tryd.prog 6 #[sl, vl, .int .i64 f] w fun e w' => e = .returned (.bool true) ∧ Below w.heap.size w w' := by
  have hO := (own_law hr).addBoxes hvl
  clear hr
  obtain ⟨sa, sc, rfl, -⟩ := hZ.view
  have hfl := hvl.form
  clear hvl
  go_enter Tryd.func6, Tryd.ntmps6
  go_wp2_with (first | ((with_reducible refine is_load ?_); refine own_ld (h := ?_)) | ((with_reducible refine is_store ?_); (first | refine own_stR (hO := hO) (h := ?_) | refine own_st1 (hO := hO) (h := ?_)); clear hO; intro wv hO) | (go_at_call 10; (with_reducible refine (new_any _ _ _).mono ?_); rintro e wv ⟨n, rfl, hB, hn, hb⟩; replace hO := hO.gain hb hB hn; have hT := hO.tapeIn List.mem_cons_self (by (intro s hs; repeat (first | exact hs | exact List.mem_append_left _ hs | apply List.mem_append_right | apply List.mem_cons_of_mem))) (Nat.zero_le _); clear hb hB hn))
  go_loopg [8] 4 (fun gk q wr => ∃ i i1 : Nat, i ≤ 3 ∧ 4 - i ≤ gk ∧ q = .int .i64 i ∧ i1 ≤ zs.length ∧ Own [] w [⟨n, tcs (.slice sa zs.length sc) i1, 74⟩] [] (roS vl (cellsB l) ++ roS (.slice sa zs.length sc) (ints zs)) wr)
  case atStart => exact ⟨0, _, by omega, by omega, rfl, hT.le, hO⟩
  case round =>
    clear hO hT
    obtain ⟨i, i1, hi, hgk, rfl, hi1, hO⟩ := hrel
    have hT := hO.tapeIn List.mem_cons_self (by intro s hs; repeat (first | exact hs | exact List.mem_append_left _ hs | apply List.mem_append_right | apply List.mem_cons_of_mem)) hi1
    have s1 : IntKind.i64.wrap ((i : Int) + 1) = (i : Int) + 1 := IntWalk.i64_in _ (by omega)
    by_cases hlt : i < 3
    · have g1 : decide ((i : Int) < 3) = true := decide_eq_true (by omega)
      go_wp2_with (first | ((with_reducible refine is_load ?_); refine own_ld (h := ?_)) | ((with_reducible refine is_store ?_); (first | refine own_stR (hO := hO) (h := ?_) | refine own_st1 (hO := hO) (h := ?_)); clear hO; intro wv hO) | (go_at_call 25; (with_reducible refine (tset_any 4 hZ (hO.tapeIn (by (repeat (first | exact List.mem_cons_self | refine List.mem_cons_of_mem _ ?_))) (by (intro s hs; repeat (first | exact hs | exact List.mem_append_left _ hs | apply List.mem_append_right | apply List.mem_cons_of_mem))) hT.le) (by omega) (by omega)).mono ?_); rintro e wv ⟨vx, i1, rfl, ⟨l9, k9, n9, hv9, hn9⟩, hk, hT1⟩; obtain ⟨kx, nx, ex⟩ := mk_facts k9 (by omega : l9.length ≤ 4); clear k9 n9; generalize (makeF l9).getD [] = lx at *; have hnnx : vx.ownBlock ≠ some n := fun e9 => absurd (hn9 _ e9) (Nat.not_le_of_lt hT.blk.lt); have hoff9 := off_of_new hO hn9; replace hO := hO.after (by (repeat (first | exact Upd.here | apply Upd.there))) hk hT1.blk; replace hT := hT1; clear hT1 hk; have hfx := hv9.form; obtain ⟨ax, cx, rfl, -, hO⟩ := own_offS hO ⟨hv9, hoff9⟩; clear hv9 hn9 hoff9) | (go_at_call 27; (with_reducible refine (next_pos 7 hZ (hO.tapeIn (by (repeat (first | exact List.mem_cons_self | refine List.mem_cons_of_mem _ ?_))) (by (intro s hs; repeat (first | exact hs | exact List.mem_append_left _ hs | apply List.mem_append_right | apply List.mem_cons_of_mem))) hT.le) (by omega) (by omega)).mono ?_); rintro e wv ⟨v, i1, rfl, ⟨r7, rfl, hr0, hr1⟩, hk, hT1⟩; replace hO := hO.after (by (repeat (first | exact Upd.here | apply Upd.there))) hk hT1.blk; replace hT := hT1; clear hT1 hk; have s9 : IntKind.i64.wrap (r7 - 1) = r7 - 1 := IntWalk.i64_in _ (by omega)) | (go_at_call 26; (with_reducible refine (frees_any _ _ (hO.tops ht (by simp)) (hO.isB hfx (by intro q hq; repeat (first | exact hq | exact List.mem_append_left _ hq | apply List.mem_append_right | apply List.mem_cons_of_mem))) kx (by omega) ex (by omega)).mono ?_); rintro e wv ⟨rfl, hb9⟩; replace hO := hO.call hb9; replace hT := (hO.tapeIn (by (repeat (first | exact List.mem_cons_self | refine List.mem_cons_of_mem _ ?_))) (by (intro s hs; repeat (first | exact hs | exact List.mem_append_left _ hs | apply List.mem_append_right | apply List.mem_cons_of_mem))) hT.le); clear hb9) | (go_at_call 28; (with_reducible refine (tspoilset_any _ lx hZ (hO.tapeIn (by (repeat (first | exact List.mem_cons_self | refine List.mem_cons_of_mem _ ?_))) (by (intro s hs; repeat (first | exact hs | exact List.mem_append_left _ hs | apply List.mem_append_right | apply List.mem_cons_of_mem))) hT.le) (hO.isB hfx (by intro q hq; repeat (first | exact hq | exact List.mem_append_left _ hq | apply List.mem_append_right | apply List.mem_cons_of_mem))) hnnx kx (by omega)).mono ?_); rintro e wv ⟨vm, i1, rfl, ⟨lm, bm, km, hmm, nm, hv9, hn9⟩, hk, hT1⟩; have em := spoil_ends ex hmm; have hoff9 := off_of_new hO hn9; replace hO := hO.after (by (repeat (first | exact Upd.here | apply Upd.there))) hk hT1.blk; replace hT := hT1; clear hT1 hk; have hfm := hv9.form; obtain ⟨am, cm, rfl, -, hO⟩ := own_offS hO ⟨hv9, hoff9⟩; clear hv9 hn9 hoff9) | (go_at_call 27; (with_reducible refine (next_pos 5 hZ (hO.tapeIn (by (repeat (first | exact List.mem_cons_self | refine List.mem_cons_of_mem _ ?_))) (by (intro s hs; repeat (first | exact hs | exact List.mem_append_left _ hs | apply List.mem_append_right | apply List.mem_cons_of_mem))) hT.le) (by omega) (by omega)).mono ?_); rintro e wv ⟨v, i1, rfl, ⟨r5, rfl, hr0, hr1⟩, hk, hT1⟩; replace hO := hO.after (by (repeat (first | exact Upd.here | apply Upd.there))) hk hT1.blk; replace hT := hT1; clear hT1 hk; have s9 : IntKind.i64.wrap (r5 - 1) = r5 - 1 := IntWalk.i64_in _ (by omega)) | (go_at_call 26; (with_reducible refine (frees_any _ _ (hO.tops ht (by simp)) (hO.isB hfm (by intro q hq; repeat (first | exact hq | exact List.mem_append_left _ hq | apply List.mem_append_right | apply List.mem_cons_of_mem))) km (by omega) em (by omega)).mono ?_); rintro e wv ⟨rfl, hb9⟩; replace hO := hO.call hb9; replace hT := (hO.tapeIn (by (repeat (first | exact List.mem_cons_self | refine List.mem_cons_of_mem _ ?_))) (by (intro s hs; repeat (first | exact hs | exact List.mem_append_left _ hs | apply List.mem_append_right | apply List.mem_cons_of_mem))) hT.le); clear hb9) | (go_at_call 20; (with_reducible refine (tboxes_any 3 true hZ (hO.tapeIn (by (repeat (first | exact List.mem_cons_self | refine List.mem_cons_of_mem _ ?_))) (by (intro s hs; repeat (first | exact hs | exact List.mem_append_left _ hs | apply List.mem_append_right | apply List.mem_cons_of_mem))) hT.le) (by omega) (by omega)).mono ?_); rintro e wv ⟨vb, i1, rfl, ⟨lb, hv9, hn9, kb9, nb, -⟩, hk, hT1⟩; have kb : okL lb := kb9; have eb := ends_len lb; have hoff9 := off_of_new hO hn9; replace hO := hO.after (by (repeat (first | exact Upd.here | apply Upd.there))) hk hT1.blk; replace hT := hT1; clear hT1 hk; have hfb := hv9.form; obtain ⟨ab, cb, rfl, -, hO⟩ := own_offS hO ⟨hv9, hoff9⟩; clear hv9 hn9 hoff9) | (go_at_call 26; (with_reducible refine (frees_any _ _ (hO.tops ht (by simp)) (hO.isB hfb (by intro q hq; repeat (first | exact hq | exact List.mem_append_left _ hq | apply List.mem_append_right | apply List.mem_cons_of_mem))) kb (by omega) eb (by omega)).mono ?_); rintro e wv ⟨rfl, hb9⟩; replace hO := hO.call hb9; replace hT := (hO.tapeIn (by (repeat (first | exact List.mem_cons_self | refine List.mem_cons_of_mem _ ?_))) (by (intro s hs; repeat (first | exact hs | exact List.mem_append_left _ hs | apply List.mem_append_right | apply List.mem_cons_of_mem))) hT.le); clear hb9))
      go_roundg (3 - i)
      case measure => omega
      case rel => exact ⟨i + 1, _, by omega, by omega, by go_num, hT.le, hO.sub (.refl _) (.refl _) (fun q hq => List.mem_append_right _ (List.mem_append_right _ (List.mem_append_right _ hq)))⟩
    · have g1 : decide ((i : Int) < 3) = false := decide_eq_false (by omega)
      have hh := fun w hv => huge_any (vl := vl) (l := l) w hv
      by_cases h6 : 6 < l.length
      · rw [decide_eq_true h6] at hh
        go_wp2_with (first | ((with_reducible refine is_load ?_); refine own_ld (h := ?_)) | ((with_reducible refine is_store ?_); (first | refine own_stR (hO := hO) (h := ?_) | refine own_st1 (hO := hO) (h := ?_)); clear hO; intro wv hO) | (go_at_call 29; refine (hh _ (hO.isB hfl (by intro q hq; repeat (first | exact hq | exact List.mem_append_left _ hq | apply List.mem_append_right | apply List.mem_cons_of_mem)))).mono ?_; rintro e _ ⟨rfl, rfl⟩))
        go_ret
        exact ⟨rfl, hO.keep.below⟩
      · rw [decide_eq_false h6] at hh
        have el := ends_len l
        go_wp2_with (first | ((with_reducible refine is_load ?_); refine own_ld (h := ?_)) | ((with_reducible refine is_store ?_); (first | refine own_stR (hO := hO) (h := ?_) | refine own_st1 (hO := hO) (h := ?_)); clear hO; intro wv hO) | (go_at_call 29; refine (hh _ (hO.isB hfl (by intro q hq; repeat (first | exact hq | exact List.mem_append_left _ hq | apply List.mem_append_right | apply List.mem_cons_of_mem)))).mono ?_; rintro e _ ⟨rfl, rfl⟩) | (go_at_call 26; (with_reducible refine (frees_any _ _ (hO.tops ht (by simp)) (hO.isB hfl (by intro q hq; repeat (first | exact hq | exact List.mem_append_left _ hq | apply List.mem_append_right | apply List.mem_cons_of_mem))) kl (by omega) el (by omega)).mono ?_); rintro e wv ⟨rfl, hb9⟩; replace hO := hO.call hb9; replace hT := (hO.tapeIn (by (repeat (first | exact List.mem_cons_self | refine List.mem_cons_of_mem _ ?_))) (by (intro s hs; repeat (first | exact hs | exact List.mem_append_left _ hs | apply List.mem_append_right | apply List.mem_cons_of_mem))) hT.le); clear hb9) | (go_at_call 19; refine (sane4_any _ (hO.tops ht (by simp))).mono ?_; rintro e wv ⟨rfl, hb⟩; replace hO := hO.call hb; clear hb))
        go_ret
        exact ⟨rfl, hO.keep.below⟩
end Go.Proofs.YtdfihajngmgigaaDoor
