/- Contracts of the package box (first part): Top, values, header, Full, Of, Value, With. -/
import Derived.Test.YtnhjcbmlplfpmaaDoorAuto
namespace Go.Proofs.YtnhjcbmlplfpmaaDoor
open Go.RowKit

def fullBx : Bx := Bx.of fun k => ⟨0, topOf k⟩
def ofHd (h : Hd) : Bx := Bx.of fun k => ⟨h.at k, h.at k⟩
def Hd.of (p : Nat → Int) : Hd := ⟨p 0, p 1, p 2, p 3, p 4⟩

theorem values_any (h : Hd) (w : World) (ho : h.ok) :
    Calls Tryd.prog 33 #[hv h] w fun e w' => e = .returned (pv h.at) ∧ Below w.heap.size w w' := by
  obtain ⟨⟨a0, a1⟩, ⟨b0, b1⟩, ⟨c0, c1⟩, ⟨d0, d1⟩, e0, e1⟩ := ho
  have hO := own_start [] w
  go_enter Tryd.func33, Tryd.ntmps33
  go_wp2_with (first | ((with_reducible refine is_load ?_); (first | (refine own_ld (h := ?_)))) | ((with_reducible refine is_store ?_); (first | (refine own_stR (hO := hO) (h := ?_); clear hO; intro wv hO) | (refine own_st1 (hO := hO) (h := ?_); clear hO; intro wv hO))) | ((with_reducible refine is_box ?_); (first | (refine own_bx (o := ⟨some 1, _, _, _, _, _⟩) (hO := hO) (h := ?_); clear hO; intro n1 wv hO))) | ((with_reducible refine is_alloc ?_); (first | (refine own_al (o := ⟨some 2, _, _, _, _, _⟩) (hO := hO) (h := ?_); clear hO; intro n2 wv hO))))
  exact bodyPost_ret (own_res_cell hO Tryd.results33 rfl (by (repeat (first | exact List.mem_cons_self | refine List.mem_cons_of_mem _ ?_))) (by (exact row_len (by (with_reducible (first | exact row_Box | exact row_Range | exact row_Header | exact row_Five | exact row_Tape | exact row_Prefix | exact row_Truths | exact row_Packet))) (by rfl))) rfl) rfl ⟨rfl, hO.keep.below⟩

theorem header_any (p : Nat → Int) (w : World) (ho : (Hd.of p).ok) :
    Calls Tryd.prog 47 #[pv p] w fun e w' => e = .returned (hv (Hd.of p)) ∧ Below w.heap.size w w' := by
  obtain ⟨⟨a0, a1⟩, ⟨b0, b1⟩, ⟨c0, c1⟩, ⟨d0, d1⟩, e0, e1⟩ := ho
  simp only [Hd.of] at a0 a1 b0 b1 c0 c1 d0 d1 e0 e1
  have hO := own_start [] w
  go_enter Tryd.func47, Tryd.ntmps47
  go_wp2_with (first | ((with_reducible refine is_load ?_); (first | (refine own_ld (h := ?_)))) | ((with_reducible refine is_store ?_); (first | (refine own_stR (hO := hO) (h := ?_); clear hO; intro wv hO) | (refine own_st1 (hO := hO) (h := ?_); clear hO; intro wv hO))) | ((with_reducible refine is_box ?_); (first | (refine own_bx (o := ⟨some 1, _, _, _, _, _⟩) (hO := hO) (h := ?_); clear hO; intro n1 wv hO))) | ((with_reducible refine is_alloc ?_); (first | (refine own_al (o := ⟨some 2, _, _, _, _, _⟩) (hO := hO) (h := ?_); clear hO; intro n2 wv hO))))
  exact bodyPost_ret (own_res_cell hO Tryd.results47 rfl (by (repeat (first | exact List.mem_cons_self | refine List.mem_cons_of_mem _ ?_))) (by (exact row_len (by (with_reducible (first | exact row_Box | exact row_Range | exact row_Header | exact row_Five | exact row_Tape | exact row_Prefix | exact row_Truths | exact row_Packet))) (by rfl))) rfl) rfl ⟨rfl, hO.keep.below⟩

def fullK (k : Nat) : Bx := Bx.of fun i => if i < k then ⟨0, topOf i⟩ else ⟨0, 0⟩
theorem bx_step {f : Nat → Nat → Rg} {z : Nat → Rg} {k : Nat} : (Bx.of fun i => if i < k then f k i else z i).set k (f k k) = Bx.of fun i => if i < k + 1 then f k i else z i := by
  refine Bx.of_congr fun i hi => ?_
  by_cases e : i = k
  · subst e; simp
  · rw [if_neg e, Bx.at_of _ hi]
    by_cases h1 : i < k
    · rw [if_pos h1, if_pos (by omega)]
    · rw [if_neg h1, if_neg (by omega)]
theorem fullK_succ (k : Nat) (h : k < 5) : (fullK k).set k ⟨((fullK k).at k).lo, topOf k⟩ = fullK (k + 1) := by
  rw [show ((fullK k).at k).lo = 0 by unfold fullK; rw [Bx.at_of _ h]; simp]
  exact bx_step (f := fun _ i => ⟨0, topOf i⟩) (z := fun _ => ⟨0, 0⟩)
theorem fullK_five : fullK 5 = fullBx := Bx.of_congr fun i hi => by rw [if_pos hi]

theorem full_any (w : World) (ht : Tops w) :
    Calls Tryd.prog 35 #[] w fun e w' => e = .returned (bv fullBx) ∧ Below w.heap.size w w' := by
  have hO := own_tops ht
  go_enter Tryd.func35, Tryd.ntmps35
  go_wp2_with (first | ((with_reducible refine is_load ?_); (first | (refine own_ld (h := ?_)))) | ((with_reducible refine is_store ?_); (first | (refine own_stR (hO := hO) (h := ?_); clear hO; intro wv hO) | (refine own_st1 (hO := hO) (h := ?_); clear hO; intro wv hO))) | ((with_reducible refine is_alloc ?_); (first | (refine own_al (o := ⟨some 0, _, _, _, _, _⟩) (hO := hO) (h := ?_); clear hO; intro n0 wv hO) | (refine own_al (o := ⟨some 1, _, _, _, _, _⟩) (hO := hO) (h := ?_); clear hO; intro n1 wv hO))))
  go_loopw [5] (fun i wr => ∃ k : Nat, k ≤ 5 ∧ i = .int .i64 k ∧ Own [] w [⟨n1, bcs (fullK k), 26⟩, ⟨n0, bcs zeroBx, 26⟩] [] [⟨0, 0, topsL⟩] wr) (fun i _ => 5 - (intOf i).toNat)
  case atStart => exact ⟨0, by omega, rfl, hO⟩
  case round =>
    clear hO
    obtain ⟨k, hk, rfl, hO⟩ := hrel
    by_cases hlt : k < 5
    · have hix := fun w => ix5_at w topOf hlt
      go_wp2_with (first | ((with_reducible refine is_load ?_); (first | (refine own_ld (h := ?_)))) | ((with_reducible refine is_store ?_); (first | (refine own_stR (hO := hO) (h := ?_); clear hO; intro wv hO) | (refine own_st1 (hO := hO) (h := ?_); clear hO; intro wv hO))))
      go_roundw
      case rel => exact ⟨k + 1, by omega, by go_num, by rw [← fullK_succ k hlt]; exact hO⟩
      case measure => simp [intOf]; omega
    · obtain rfl : k = 5 := by omega
      rw [fullK_five] at hO
      go_wp2_with (first | ((with_reducible refine is_load ?_); (first | (refine own_ld (h := ?_)))) | ((with_reducible refine is_store ?_); (first | (refine own_stR (hO := hO) (h := ?_); clear hO; intro wv hO) | (refine own_st1 (hO := hO) (h := ?_); clear hO; intro wv hO))))
      exact bodyPost_ret (own_res_cell hO Tryd.results35 rfl (by (repeat (first | exact List.mem_cons_self | refine List.mem_cons_of_mem _ ?_))) (by (exact row_len (by (with_reducible (first | exact row_Box | exact row_Range | exact row_Header | exact row_Five | exact row_Tape | exact row_Prefix | exact row_Truths | exact row_Packet))) (by rfl))) rfl) rfl ⟨rfl, hO.keep.below⟩

def ofK (h : Hd) (k : Nat) : Bx := Bx.of fun i => if i < k then ⟨h.at i, h.at i⟩ else ⟨0, 0⟩
theorem ofK_succ (h : Hd) (k : Nat) : (ofK h k).set k ⟨h.at k, h.at k⟩ = ofK h (k + 1) := bx_step (f := fun _ i => ⟨h.at i, h.at i⟩) (z := fun _ => ⟨0, 0⟩)
theorem ofK_five (h : Hd) : ofK h 5 = ofHd h := Bx.of_congr fun i hi => by rw [if_pos hi]
theorem of_any (h : Hd) (w : World) (ho : h.ok) :
    Calls Tryd.prog 34 #[hv h] w fun e w' => e = .returned (bv (ofHd h)) ∧ Below w.heap.size w w' := by
  have hO := own_start [] w
  go_enter Tryd.func34, Tryd.ntmps34
  go_wp2_with (first | ((with_reducible refine is_load ?_); (first | (refine own_ld (h := ?_)))) | ((with_reducible refine is_store ?_); (first | (refine own_stR (hO := hO) (h := ?_); clear hO; intro wv hO) | (refine own_st1 (hO := hO) (h := ?_); clear hO; intro wv hO))) | ((with_reducible refine is_box ?_); (first | (refine own_bx (o := ⟨some 1, _, _, _, _, _⟩) (hO := hO) (h := ?_); clear hO; intro n1 wv hO))) | ((with_reducible refine is_alloc ?_); (first | (refine own_al (o := ⟨some 2, _, _, _, _, _⟩) (hO := hO) (h := ?_); clear hO; intro n2 wv hO) | (refine own_al (o := ⟨some 3, _, _, _, _, _⟩) (hO := hO) (h := ?_); clear hO; intro n3 wv hO))) | (go_at_call 33; refine (values_any h _ ho).mono ?_; rintro e wv ⟨rfl, hb⟩; replace hO := hO.call hb; clear hb))
  go_loopw [8] (fun i wr => ∃ k : Nat, k ≤ 5 ∧ i = .int .i64 k ∧ Own [] w [⟨n3, bcs (ofK h k), 26⟩, ⟨n2, bcs zeroBx, 26⟩] [] [] wr) (fun i _ => 5 - (intOf i).toNat)
  case atStart => exact ⟨0, by omega, rfl, hO.sub (.cons_cons _ (.cons_cons _ (.cons _ .slnil))) (.refl _) (fun _ h => h)⟩
  case round =>
    clear hO
    obtain ⟨k, hk, rfl, hO⟩ := hrel
    by_cases hlt : k < 5
    · have hix := fun w => ix5_at w h.at hlt
      go_wp2_with (first | ((with_reducible refine is_load ?_); (first | (refine own_ld (h := ?_)))) | ((with_reducible refine is_store ?_); (first | (refine own_stR (hO := hO) (h := ?_); clear hO; intro wv hO) | (refine own_st1 (hO := hO) (h := ?_); clear hO; intro wv hO))))
      go_roundw
      case rel => exact ⟨k + 1, by omega, by go_num, by rw [← ofK_succ h k]; exact hO⟩
      case measure => simp [intOf]; omega
    · obtain rfl : k = 5 := by omega
      rw [ofK_five] at hO
      go_wp2_with (first | ((with_reducible refine is_load ?_); (first | (refine own_ld (h := ?_)))) | ((with_reducible refine is_store ?_); (first | (refine own_stR (hO := hO) (h := ?_); clear hO; intro wv hO) | (refine own_st1 (hO := hO) (h := ?_); clear hO; intro wv hO))))
      exact bodyPost_ret (own_res_cell hO Tryd.results34 rfl (by (repeat (first | exact List.mem_cons_self | refine List.mem_cons_of_mem _ ?_))) (by (exact row_len (by (with_reducible (first | exact row_Box | exact row_Range | exact row_Header | exact row_Five | exact row_Tape | exact row_Prefix | exact row_Truths | exact row_Packet))) (by rfl))) rfl) rfl ⟨rfl, hO.keep.below⟩

theorem top_any (f : Nat) (w : World) (ht : Tops w) (h5 : f < 5) :
    Calls Tryd.prog 26 #[.int .i64 f] w fun e w' => e = .returned (.int .u32 (topOf f)) ∧ w = w' := by
  have g' := ht f h5
  clear ht
  go_enter Tryd.func26, Tryd.ntmps26
  go_wp2
  go_ret
  exact ⟨rfl, rfl⟩
theorem top_out (f : Int) (w : World) (h : f < 0 ∨ 5 ≤ f) :
    Calls Tryd.prog 26 #[.int .i64 f] w fun e w' => e = .returned (.int .u32 0) ∧ w = w' := by
  rcases h with h | h
  · go_enter Tryd.func26, Tryd.ntmps26
    go_wp2
    go_ret
    exact ⟨rfl, rfl⟩
  · have h' : ¬ f < 0 := by omega
    go_enter Tryd.func26, Tryd.ntmps26
    go_wp2
    go_ret
    exact ⟨rfl, rfl⟩

theorem value_any (h : Hd) (f : Nat) (w : World) (ho : h.ok) (h5 : f < 5) :
    Calls Tryd.prog 25 #[hv h, .int .i64 f] w fun e w' => e = .returned (.int .u32 (h.at f)) ∧ Below w.heap.size w w' := by
  have hO := own_start [] w
  have hix := fun w => ix5_at w h.at h5
  go_enter Tryd.func25, Tryd.ntmps25
  go_wp2_with (first | ((with_reducible refine is_load ?_); (first | (refine own_ld (h := ?_)))) | ((with_reducible refine is_store ?_); (first | (refine own_stR (hO := hO) (h := ?_); clear hO; intro wv hO) | (refine own_st1 (hO := hO) (h := ?_); clear hO; intro wv hO))) | ((with_reducible refine is_box ?_); (first | (refine own_bx (o := ⟨some 2, _, _, _, _, _⟩) (hO := hO) (h := ?_); clear hO; intro n2 wv hO))) | (go_at_call 33; refine (values_any h _ ho).mono ?_; rintro e wv ⟨rfl, hb⟩; replace hO := hO.call hb; clear hb))
  go_ret
  exact ⟨rfl, hO.keep.below⟩
theorem value_out (h : Hd) (f : Int) (w : World) (hf : f < 0 ∨ 5 ≤ f) :
    Calls Tryd.prog 25 #[hv h, .int .i64 f] w fun e w' => e = .returned (.int .u32 0) ∧ Below w.heap.size w w' := by
  rcases hf with hf | hf
  · have hO := own_start [] w
    go_enter Tryd.func25, Tryd.ntmps25
    go_wp2_with (first | ((with_reducible refine is_load ?_); (first | (refine own_ld (h := ?_)))) | ((with_reducible refine is_store ?_); (first | (refine own_stR (hO := hO) (h := ?_); clear hO; intro wv hO) | (refine own_st1 (hO := hO) (h := ?_); clear hO; intro wv hO))) | ((with_reducible refine is_box ?_); (first | (refine own_bx (o := ⟨some 2, _, _, _, _, _⟩) (hO := hO) (h := ?_); clear hO; intro n2 wv hO))))
    go_ret
    exact ⟨rfl, hO.keep.below⟩
  · have hO := own_start [] w
    have h' : ¬ f < 0 := by omega
    go_enter Tryd.func25, Tryd.ntmps25
    go_wp2_with (first | ((with_reducible refine is_load ?_); (first | (refine own_ld (h := ?_)))) | ((with_reducible refine is_store ?_); (first | (refine own_stR (hO := hO) (h := ?_); clear hO; intro wv hO) | (refine own_st1 (hO := hO) (h := ?_); clear hO; intro wv hO))) | ((with_reducible refine is_box ?_); (first | (refine own_bx (o := ⟨some 2, _, _, _, _, _⟩) (hO := hO) (h := ?_); clear hO; intro n2 wv hO))))
    go_ret
    exact ⟨rfl, hO.keep.below⟩

def Hd.set (h : Hd) (k : Nat) (v : Int) : Hd := Hd.of fun i => if i = k then v else h.at i
theorem Hd.set_ok {h : Hd} (ho : h.ok) {k : Nat} {v : Int} (h0 : 0 ≤ v) (h1 : v ≤ topOf k) (hk : k < 5) : (h.set k v).ok := by
  obtain ⟨⟨a0, a1⟩, ⟨b0, b1⟩, ⟨c0, c1⟩, ⟨d0, d1⟩, e0, e1⟩ := ho
  rcases five hk with rfl | rfl | rfl | rfl | rfl <;> simp [topOf] at h1 <;> refine ⟨⟨?_, ?_⟩, ⟨?_, ?_⟩, ⟨?_, ?_⟩, ⟨?_, ?_⟩, ?_, ?_⟩ <;> simp [Hd.set, Hd.of, Hd.at] <;> omega
def withHd (h : Hd) (f : Int) (v : Int) : Hd := if 0 ≤ f ∧ f < 5 ∧ v ≤ topOf f.toNat then h.set f.toNat v else h
theorem with_out (h : Hd) (f v : Int) (w : World) (hf : f < 0 ∨ 5 ≤ f) :
    Calls Tryd.prog 24 #[hv h, .int .i64 f, .int .u32 v] w fun e w' => e = .returned (hv h) ∧ Below w.heap.size w w' := by
  have hO := own_start [] w
  rcases hf with hf | hf
  · go_enter Tryd.func24, Tryd.ntmps24
    go_wp2_with (first | ((with_reducible refine is_load ?_); (first | (refine own_ld (h := ?_)))) | ((with_reducible refine is_store ?_); (first | (refine own_stR (hO := hO) (h := ?_); clear hO; intro wv hO) | (refine own_st1 (hO := hO) (h := ?_); clear hO; intro wv hO))) | ((with_reducible refine is_box ?_); (first | (refine own_bx (o := ⟨some 3, _, _, _, _, _⟩) (hO := hO) (h := ?_); clear hO; intro n3 wv hO))) | ((with_reducible refine is_alloc ?_); (first | (refine own_al (o := ⟨some 6, _, _, _, _, _⟩) (hO := hO) (h := ?_); clear hO; intro n6 wv hO))))
    exact bodyPost_ret (own_res_cell hO Tryd.results24 rfl (by (repeat (first | exact List.mem_cons_self | refine List.mem_cons_of_mem _ ?_))) (by (exact row_len (by (with_reducible (first | exact row_Box | exact row_Range | exact row_Header | exact row_Five | exact row_Tape | exact row_Prefix | exact row_Truths | exact row_Packet))) (by rfl))) rfl) rfl ⟨rfl, hO.keep.below⟩
  · have h' : ¬ f < 0 := by omega
    go_enter Tryd.func24, Tryd.ntmps24
    go_wp2_with (first | ((with_reducible refine is_load ?_); (first | (refine own_ld (h := ?_)))) | ((with_reducible refine is_store ?_); (first | (refine own_stR (hO := hO) (h := ?_); clear hO; intro wv hO) | (refine own_st1 (hO := hO) (h := ?_); clear hO; intro wv hO))) | ((with_reducible refine is_box ?_); (first | (refine own_bx (o := ⟨some 3, _, _, _, _, _⟩) (hO := hO) (h := ?_); clear hO; intro n3 wv hO))) | ((with_reducible refine is_alloc ?_); (first | (refine own_al (o := ⟨some 6, _, _, _, _, _⟩) (hO := hO) (h := ?_); clear hO; intro n6 wv hO))))
    exact bodyPost_ret (own_res_cell hO Tryd.results24 rfl (by (repeat (first | exact List.mem_cons_self | refine List.mem_cons_of_mem _ ?_))) (by (exact row_len (by (with_reducible (first | exact row_Box | exact row_Range | exact row_Header | exact row_Five | exact row_Tape | exact row_Prefix | exact row_Truths | exact row_Packet))) (by rfl))) rfl) rfl ⟨rfl, hO.keep.below⟩
theorem with_in (h : Hd) (f : Nat) (v : Int) (w : World) (ht : Tops w) (hf : f < 5) (ho : h.ok) (h0 : 0 ≤ v) :
    Calls Tryd.prog 24 #[hv h, .int .i64 f, .int .u32 v] w fun e w' => e = .returned (hv (withHd h f v)) ∧ Below w.heap.size w w' := by
  have hO := own_tops ht
  have q0 : decide ((f : Int) < 0) = false := by simp
  have q5 : decide ((5 : Int) ≤ f) = false := by simp; omega
  by_cases h1 : v ≤ topOf f
  · have h1' : decide (topOf f < v) = false := by simp; omega
    have E := Lib.hid (show withHd h f v = h.set f v by unfold withHd; rw [if_pos ⟨by omega, by omega, by simpa using h1⟩]; simp)
    have hs := Hd.set_ok ho h0 h1 hf
    have hp : fcs (fupd h.at f v) = fcs (h.set f v).at := rfl
    go_enter Tryd.func24, Tryd.ntmps24
    go_wp2_with (first | ((with_reducible refine is_load ?_); (first | (refine own_ld (h := ?_)))) | ((with_reducible refine is_store ?_); (first | (refine own_stR (hO := hO) (h := ?_); clear hO; intro wv hO) | (refine own_st1 (hO := hO) (h := ?_); clear hO; intro wv hO))) | ((with_reducible refine is_box ?_); (first | (refine own_bx (o := ⟨some 3, _, _, _, _, _⟩) (hO := hO) (h := ?_); clear hO; intro n3 wv hO))) | ((with_reducible refine is_alloc ?_); (first | (refine own_al (o := ⟨some 6, _, _, _, _, _⟩) (hO := hO) (h := ?_); clear hO; intro n6 wv hO) | (refine own_al (o := ⟨some 7, _, _, _, _, _⟩) (hO := hO) (h := ?_); clear hO; intro n7 wv hO))) | (go_at_call 33; refine (values_any h _ ho).mono ?_; rintro e wv ⟨rfl, hb⟩; replace hO := hO.call hb; clear hb) | (go_at_call 47; refine (header_any (fupd h.at f v) _ hs).mono ?_; rintro e wv ⟨rfl, hb⟩; replace hO := hO.call hb; clear hb))
    refine bodyPost_ret (own_res_cell hO Tryd.results24 rfl (by (repeat (first | exact List.mem_cons_self | refine List.mem_cons_of_mem _ ?_))) (by (exact row_len (by (with_reducible (first | exact row_Box | exact row_Range | exact row_Header | exact row_Five | exact row_Tape | exact row_Prefix | exact row_Truths | exact row_Packet))) (by rfl))) rfl) rfl ⟨?_, hO.keep.below⟩
    rw [E.out]
    rfl
  · have h1' : decide (topOf f < v) = true := by simp; omega
    have E := Lib.hid (show withHd h f v = h by unfold withHd; rw [if_neg]; rintro ⟨_, _, h2⟩; simp at h2; omega)
    go_enter Tryd.func24, Tryd.ntmps24
    go_wp2_with (first | ((with_reducible refine is_load ?_); (first | (refine own_ld (h := ?_)))) | ((with_reducible refine is_store ?_); (first | (refine own_stR (hO := hO) (h := ?_); clear hO; intro wv hO) | (refine own_st1 (hO := hO) (h := ?_); clear hO; intro wv hO))) | ((with_reducible refine is_box ?_); (first | (refine own_bx (o := ⟨some 3, _, _, _, _, _⟩) (hO := hO) (h := ?_); clear hO; intro n3 wv hO))) | ((with_reducible refine is_alloc ?_); (first | (refine own_al (o := ⟨some 6, _, _, _, _, _⟩) (hO := hO) (h := ?_); clear hO; intro n6 wv hO))))
    refine bodyPost_ret (own_res_cell hO Tryd.results24 rfl (by (repeat (first | exact List.mem_cons_self | refine List.mem_cons_of_mem _ ?_))) (by (exact row_len (by (with_reducible (first | exact row_Box | exact row_Range | exact row_Header | exact row_Five | exact row_Tape | exact row_Prefix | exact row_Truths | exact row_Packet))) (by rfl))) rfl) rfl ⟨?_, hO.keep.below⟩
    rw [E.out]
end Go.Proofs.YtnhjcbmlplfpmaaDoor
