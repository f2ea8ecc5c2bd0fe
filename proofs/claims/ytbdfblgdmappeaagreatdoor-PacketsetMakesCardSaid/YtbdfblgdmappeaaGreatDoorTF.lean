/- PacketsetMakes: the walk. -/
import Derived.Deep.CutRange
import Derived.Deep.DeepCutAuto
import Derived.Test.YtbdfblgdmappeaaGreatDoorTE
import Derived.Test.YtbdfblgdmappeaaGreatDoorRA
import Derived.Test.YtbdfblgdmappeaaGreatDoorMB
namespace Go.Proofs.YtbdfblgdmappeaaGreatDoor
open Go.RowKit
set_option maxRecDepth 100000
set_option maxHeartbeats 32000000 in
theorem psmakes_law (sl : Value) (zs : List Int) (vl : Value) (l : List Bx) (h : Hd) (f : Int) (w : World) (ht : Tops w) (hZ : ZsOk sl zs) (hr : ∀ s ∈ roS sl (ints zs), w.rangeAt s.g s.o s.xs) (hvl : IsBoxes w vl l) (kl : okL l) (ho : h.ok) :
  Calls Tryz.prog 10 #[sl, vl, hv h, .int .i64 f] w fun e w' => e = .returned (.bool true) ∧ Below w.heap.size w w' := by
 have hO := (own_law hr).addBoxes hvl
 clear hr
 obtain ⟨sa, sc, rfl, -⟩ := hZ.view
 have hfl := hvl.form
 clear hvl
 have HO : Hid h.ok := Lib.hid ho
 clear ho
 go_enter Tryz.func10, Tryz.ntmps10
 go_wp2_with (first | (refine bx9 6 hO ?_; clear hO; intro n6 wv hO) | (go_at_call 11; (with_reducible refine (new_any _ _ _).mono ?_); rintro e wv ⟨n, rfl, hB, hn, hb⟩; replace hO := hO.gain hb hB hn; have hT := hO.tapeIn List.mem_cons_self (by (intro s hs; repeat (first | exact hs | apply List.mem_append_right))) (Nat.zero_le _); clear hb hB hn))
 go_loopg [10] 4 (fun gk q wr => ∃ i i1 : Nat, i ≤ 3 ∧ 4 - i ≤ gk ∧ q = .int .i64 i ∧ i1 ≤ zs.length ∧ Own [] w [⟨n, tcs (.slice sa zs.length sc) i1, 93⟩, ⟨n6, hcs h, 48⟩] [] (roS vl (cellsB l) ++ roS (.slice sa zs.length sc) (ints zs)) wr)
 case atStart => exact ⟨0, _, by omega, by omega, rfl, hT.le, hO⟩
 case round =>
  clear hO hT
  obtain ⟨i, i1, hi, hgk, rfl, hi1, hO⟩ := hrel
  have hT := hO.tapeIn List.mem_cons_self (by intro s hs; repeat (first | exact hs | apply List.mem_append_right)) hi1
  have s1 : IntKind.i64.wrap ((i : Int) + 1) = (i : Int) + 1 := IntWalk.i64_in _ (by omega)
  by_cases hlt : i < 3
  ·have g1 : decide ((i : Int) < 3) = true := decide_eq_true (by omega)
   go_wp2_with (first | (go_at_call 35; (with_reducible refine (tboxes_any 5 true hZ (hO.tapeIn List.mem_cons_self (by (intro s hs; repeat (first | exact hs | apply List.mem_append_right))) hT.le) (by omega) (by omega)).mono ?_); rintro e wv ⟨vb, i1, rfl, ⟨lb, hv9, hn9, kb9, nb, -⟩, hk, hT1⟩; have kb : okL lb := kb9; have eb := ends_len lb; have hnnb : vb.ownBlock ≠ some n := fun e9 => absurd (hn9 _ e9) (Nat.not_le_of_lt hT.blk.lt); have hoff9 := off_of_new hO hn9; replace hO := hO.after (by (repeat (exact Upd.here))) hk hT1.blk; replace hT := hT1; clear hT1 hk; have hfb := hv9.form; obtain ⟨ab, cb, rfl, -, hO⟩ := own_offS hO ⟨hv9, hoff9⟩; clear hv9 hn9 hoff9) | (go_at_call 33; (with_reducible refine (tset_any 4 hZ (hO.tapeIn List.mem_cons_self (by (intro s hs; repeat (first | exact hs | apply List.mem_append_right))) hT.le) (by omega) (by omega)).mono ?_); rintro e wv ⟨vx, i1, rfl, ⟨l9, k9, n9, hv9, hn9⟩, hk, hT1⟩; obtain ⟨kx, nx, ex⟩ := mk_facts k9 (by omega : l9.length ≤ 4); clear k9 n9; generalize (makeF l9).getD [] = lx at *; have kx9 : ∀ b ∈ lx, b.ok := kx; have hnnx : vx.ownBlock ≠ some n := fun e9 => absurd (hn9 _ e9) (Nat.not_le_of_lt hT.blk.lt); have hoff9 := off_of_new hO hn9; replace hO := hO.after (by (repeat (exact Upd.here))) hk hT1.blk; replace hT := hT1; clear hT1 hk; have hfx := hv9.form; obtain ⟨ax, cx, rfl, -, hO⟩ := own_offS hO ⟨hv9, hoff9⟩; clear hv9 hn9 hoff9) | (go_at_call 40; (with_reducible refine (near_any _ lb hZ (hO.tapeIn List.mem_cons_self (by (intro s hs; repeat (first | exact hs | apply List.mem_append_right))) hT.le) (hO.isB hfb (by intro q hq; repeat (first | exact List.mem_append_left _ hq | apply List.mem_append_right))) hnnb kb9 (by omega)).mono ?_); rintro e wv ⟨v, i1, rfl, ⟨h9, rfl, ho9⟩, hk, hT1⟩; replace hO := hO.after (by (repeat (exact Upd.here))) hk hT1.blk; replace hT := hT1; clear hT1 hk) | (go_at_call 21; (with_reducible refine (next_pos 7 hZ (hO.tapeIn List.mem_cons_self (by (intro s hs; repeat (first | exact hs | apply List.mem_append_right))) hT.le) (by omega) (by omega)).mono ?_); rintro e wv ⟨v, i1, rfl, ⟨r7, rfl, hr0, hr1⟩, hk, hT1⟩; replace hO := hO.after (by (repeat (exact Upd.here))) hk hT1.blk; replace hT := hT1; clear hT1 hk; have s9 : IntKind.i64.wrap (r7 - 1) = r7 - 1 := IntWalk.i64_in _ (by omega)) | (go_at_call 39; (with_reducible refine (makes_any _ _ _ (hO.tops ht (by simp)) (hO.isB hfb (by intro q hq; repeat (first | exact List.mem_append_left _ hq | apply List.mem_append_right))) kb (by omega) ho9 eb (by omega)).mono ?_); rintro e wv ⟨rfl, hb9⟩; replace hO := hO.call hb9; replace hT := (hO.tapeIn List.mem_cons_self (by (intro s hs; repeat (first | exact hs | apply List.mem_append_right))) hT.le); clear hb9 ho9) | (go_at_call 40; (with_reducible refine (near_any _ lx hZ (hO.tapeIn List.mem_cons_self (by (intro s hs; repeat (first | exact hs | apply List.mem_append_right))) hT.le) (hO.isB hfx (by intro q hq; repeat (first | exact List.mem_append_left _ hq | apply List.mem_append_right))) hnnx kx9 (by omega)).mono ?_); rintro e wv ⟨v, i1, rfl, ⟨h9, rfl, ho9⟩, hk, hT1⟩; replace hO := hO.after (by (repeat (exact Upd.here))) hk hT1.blk; replace hT := hT1; clear hT1 hk) | (go_at_call 21; (with_reducible refine (next_pos 5 hZ (hO.tapeIn List.mem_cons_self (by (intro s hs; repeat (first | exact hs | apply List.mem_append_right))) hT.le) (by omega) (by omega)).mono ?_); rintro e wv ⟨v, i1, rfl, ⟨r7, rfl, hr0, hr1⟩, hk, hT1⟩; replace hO := hO.after (by (repeat (exact Upd.here))) hk hT1.blk; replace hT := hT1; clear hT1 hk; have s9 : IntKind.i64.wrap (r7 - 1) = r7 - 1 := IntWalk.i64_in _ (by omega)) | (go_at_call 39; (with_reducible refine (makes_any _ _ _ (hO.tops ht (by simp)) (hO.isB hfx (by intro q hq; repeat (first | exact List.mem_append_left _ hq | apply List.mem_append_right))) kx (by omega) ho9 ex (by omega)).mono ?_); rintro e wv ⟨rfl, hb9⟩; replace hO := hO.call hb9; replace hT := (hO.tapeIn List.mem_cons_self (by (intro s hs; repeat (first | exact hs | apply List.mem_append_right))) hT.le); clear hb9 ho9) | (go_at_call 36; (with_reducible refine (tspoilset_any _ lx hZ (hO.tapeIn List.mem_cons_self (by (intro s hs; repeat (first | exact hs | apply List.mem_append_right))) hT.le) (hO.isB hfx (by intro q hq; repeat (exact List.mem_append_left _ hq))) hnnx kx (by omega)).mono ?_); rintro e wv ⟨vm, i1, rfl, ⟨lm, bm, km, hmm, nm, hv9, hn9⟩, hk, hT1⟩; have em := spoil_ends ex hmm; have hoff9 := off_of_new hO hn9; replace hO := hO.after (by (repeat (exact Upd.here))) hk hT1.blk; replace hT := hT1; clear hT1 hk; have hfm := hv9.form; obtain ⟨am, cm, rfl, -, hO⟩ := own_offS hO ⟨hv9, hoff9⟩; clear hv9 hn9 hoff9) | (go_at_call 39; (with_reducible refine (makes_any _ _ _ (hO.tops ht (by simp)) (hO.isB hfm (by intro q hq; repeat (exact List.mem_append_left _ hq))) km (by omega) ho9 em (by omega)).mono ?_); rintro e wv ⟨rfl, hb9⟩; replace hO := hO.call hb9; replace hT := (hO.tapeIn List.mem_cons_self (by (intro s hs; repeat (first | exact hs | apply List.mem_append_right))) hT.le); clear hb9 ho9))
   go_roundg (3 - i)
   case measure => omega
   case rel => exact ⟨i + 1, _, by omega, by omega, by go_num, hT.le, hO.sub (.refl _) (.refl _) (fun q hq => List.mem_append_right _ (List.mem_append_right _ (List.mem_append_right _ hq)))⟩
  ·have g1 : decide ((i : Int) < 3) = false := decide_eq_false (by omega)
   have hh := fun w hv => huge_any (vl := vl) (l := l) w hv
   have ho9 := HO.out
   by_cases h6 : 6 < l.length
   ·rw [decide_eq_true h6] at hh
    go_wp2_with (go_at_call 37; refine (hh _ (hO.isB hfl (by intro q hq; repeat (exact List.mem_append_left _ hq)))).mono ?_; rintro e _ ⟨rfl, rfl⟩)
    go_ret
    exact ⟨rfl, hO.keep.below⟩
   ·rw [decide_eq_false h6] at hh
    have el := ends_len l
    go_wp2_with (first | refine ldN ?_ | (go_at_call 37; refine (hh _ (hO.isB hfl (by intro q hq; repeat (exact List.mem_append_left _ hq)))).mono ?_; rintro e _ ⟨rfl, rfl⟩) | (go_at_call 39; (with_reducible refine (makes_any _ _ _ (hO.tops ht (by simp)) (hO.isB hfl (by intro q hq; repeat (exact List.mem_append_left _ hq))) kl (by omega) ho9 el (by omega)).mono ?_); rintro e wv ⟨rfl, hb9⟩; replace hO := hO.call hb9; replace hT := (hO.tapeIn List.mem_cons_self (by (intro s hs; repeat (first | exact hs | apply List.mem_append_right))) hT.le); clear hb9 ho9) | (go_at_call 38; refine (sane4_any _ (hO.tops ht (by simp))).mono ?_; rintro e wv ⟨rfl, hb⟩; replace hO := hO.call hb; clear hb))
    go_ret
    exact ⟨rfl, hO.keep.below⟩
end Go.Proofs.YtbdfblgdmappeaaGreatDoor
