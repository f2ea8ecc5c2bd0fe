/- Proved here: nsglaw4.PacketsetMakes: the row and its card. The call returns true for every input, and the arguments read as before; the table of the greatest values holds what the program's text lays. -/
import Derived.Test.YtbdfblgdmappeaaGreatDoorCards
import Derived.Test.YtbdfblgdmappeaaGreatDoorTie
import Derived.Test.YtbdfblgdmappeaaGreatDoorMB
import Derived.Test.YtbdfblgdmappeaaGreatDoorMV
import Derived.Test.YtbdfblgdmappeaaGreatDoorTF
namespace Go.Proofs.YtbdfblgdmappeaaGreatDoor.fnPacketsetMakes
open Go.ChangeShapes Go.WideShapes Go.ChangeAt Go.RowKit
set_option maxRecDepth 100000
theorem contract (H : Type) (enc : TypeId × Value → H) (W : World) (base : Nat) (args : Array Value) (ds gs : List (DataW H)) (before : List MemPlace)
  (hval : ∀ (j : Nat) t v, Tryz.f10.params[j]? = some t → args[j]? = some v → Value.okWide Tryz.prog W .any base t v)
  (hW : DataW.Whole enc Tryz.prog Tryz.f10.params.toList Rows.packetsetMakesSpec.vars false W args.toList ds gs before) (hL : laidMetH Tryz.prog Rows.packetsetMakesRow.laid W) :
  Calls Tryz.prog 10 args W fun e W' => ∃ v, e = .returned v ∧ Rows.packetsetMakesSpec.post enc Tryz.prog Tryz.f10 false true false false W args v W' := by
 have hW' := hW
 obtain ⟨p, q, hA, -, -, -, -⟩ := hW
 rw [Tryz.params10] at hA hval
 obtain ⟨v0, vs0, d0, ds0, p0, q0, e0, rfl, -, h0, r0⟩ := trodAll_cons hA
 obtain ⟨v1, vs1, d1, ds1, p1, q1, e1, rfl, -, h1, r1⟩ := trodAll_cons r0
 obtain ⟨v2, vs2, d2, ds2, p2, q2, e2, rfl, -, h2, r2⟩ := trodAll_cons r1
 obtain ⟨v3, vs3, d3, ds3, p3, q3, e3, rfl, -, h3, r3⟩ := trodAll_cons r2
 obtain ⟨rfl, rfl, -⟩ := trodAll_nil r3
 obtain rfl : args = #[v0, v1, v2, v3] := by cases args; simp_all
 obtain ⟨zt, Zt, rt⟩ := isInts_of (hval 0 22 v0 rfl rfl) h0
 obtain ⟨ll, Bl, bl, nl⟩ := isBoxes_of (hval 1 81 v1 rfl rfl) h1
 obtain ⟨h, rfl, kh⟩ := open_header (hval 2 48 v2 rfl rfl) h2
 obtain ⟨f, rfl, -, -, wf⟩ := open_int Tryz.underlying3 (hval 3 3 v3 rfl rfl) h3
 have kf := bounds_i64 wf
 refine (psmakes_law v0 zt v1 ll h f W (tops_of hL) Zt rt Bl bl kh).mono fun e W' ⟨he, hb⟩ => ?_
 subst he
 exact ⟨_, rfl, law_post kids full (by rw [Tryz.params10]; decide) rfl (by kernel_rfl) Tryz.underlying4 hW' hb rfl rfl rfl⟩
noncomputable def laidWorld (os : Os) : World :=
 { World.holding Tryz.prog os ⟨#[], #[], []⟩ with heap := (World.holding Tryz.prog os ⟨#[], #[], []⟩).heap.modify 0 fun
   | .cells _ t frozen => .cells #[.int .u32 4294967295, .int .u32 4294967295, .int .u32 255, .int .u32 65535, .int .u32 65535] t frozen
   | o => o }
def zeros : Array Value := #[.slice none 0 0, .slice none 0 0, .agg #[.int .u32 0, .int .u32 0, .int .u8 0, .int .u16 0, .int .u16 0], .int .i64 0]
theorem laid_met (os : Os) : laidMet Tryz.prog Rows.packetsetMakesRow.laid ((laidWorld os).forCall (fun _ _ => 0) ⟨#[], zeros, []⟩).memory := laidMet_of_run' 8 (by kernel_rfl) (by kernel_rfl)
theorem reads (os : Os) {H : Type} (enc : TypeId × Value → H) : ∃ places, DataW.whole enc Tryz.prog ((laidWorld os).forCall (fun _ _ => 0) ⟨#[], zeros, []⟩).memory Tryz.f10.params.toList Rows.packetsetMakesSpec.vars false zeros.toList 8 = some ([.nil, .nil, .agg [.lit (.int .u32 0), .lit (.int .u32 0), .lit (.int .u8 0), .lit (.int .u16 0), .lit (.int .u16 0)], .lit (.int .i64 0)], [], places) := ⟨[], by kernel_rfl⟩
theorem lifted (os : Os) (started : os.Started) (H : Type) (enc : TypeId × Value → H) (F : Stop.Interp) :
  ReturnsInHanded {} Tryz.checked os 10 .any ((OpenSpec.ofChange Rows.packetsetMakesSpec).preRow enc Tryz.prog Tryz.f10 Rows.packetsetMakesRow.domain false Rows.packetsetMakesRow.laid) (((OpenSpec.ofChange Rows.packetsetMakesSpec).at F).post enc Tryz.prog Tryz.f10 false true false false) := by
 obtain ⟨places, hx⟩ := reads os enc
 refine returnsInHanded_of_row (C := Tryz.checked) (s := OpenSpec.ofChange Rows.packetsetMakesSpec) own started (by kernel_rfl) Tryz.func10
  (witness_row_at (enc := enc) (C := Tryz.checked) false (laidWorld os) zeros rfl (by kernel_rfl) (by kernel_rfl) (by kernel_rfl)
   (OpenSpec.preRow_of_cond 8 hx (by kernel_rfl) (fun k hk => by cases hk) (by kernel_rfl) (laid_met os))) ?_
 intro W base args ds gs before hval hW _ _ _ hL _ _
 exact contract H enc W base args ds gs before hval hW hL
theorem said : Rows.PacketsetMakesSaid :=
 OpenClaim.holds_of_cond 10 Tryz.f10 rfl rfl rfl rfl rfl rfl rfl ⟨rfl, rfl, rfl, rfl, rfl⟩ rfl rfl rfl rfl rfl (by kernel_rfl) Tryz.func10 (by kernel_rfl)
  (of_decide_eq_true (by kernel_rfl)) (by unfold Func.isWrapper; first | (rw [if_pos (by decide +kernel)]; kernel_rfl) | (rw [if_neg (by decide +kernel)]; exact ⟨rfl, rfl⟩))
  (fun os started H enc _ F => by rw [OpenClaim.pre_eq_preRow]; exact lifted os started H enc F)
theorem plain (f : FuncId) (fn : Func) (hf : Tryz.pinned.checked.prog.funcNamed "netsegment/nsglaw4.PacketsetMakes" = some f) (hfn : Tryz.pinned.checked.prog.funcs[f]? = some fn) :
  false = Tryz.pinned.checked.prog.looks [] ∧ ∀ (j : Nat) t, fn.params[j]? = some t → Tryz.pinned.checked.prog.wantsStandIn t = false := by
 obtain rfl : f = 10 := Option.some.inj ((show Tryz.prog.funcNamed "netsegment/nsglaw4.PacketsetMakes" = some 10 by kernel_rfl).symm.trans hf) |>.symm
 obtain rfl : fn = Tryz.f10 := (Option.some.inj (Tryz.func10.symm.trans hfn)).symm
 refine ⟨by kernel_rfl, fun j t ht => ?_⟩
 rw [Tryz.params10] at ht
 have hm := Array.mem_of_getElem? ht
 have all : ∀ t ∈ [22, 81, 48, 3], Tryz.prog.wantsStandIn t = false := by intro t ht; simp only [List.mem_cons, List.not_mem_nil, or_false] at ht; rcases ht with rfl | rfl | rfl | rfl <;> kernel_rfl
 exact all t (by simpa using hm)
theorem card : Rows.PacketsetMakesCardSaid :=
 Claim7.holds_tied_plain_at .later [] _ _ _ _ said (fun _ h => by cases h) (by kernel_rfl) (fun _ h => by cases h) packetsetMakes_row_tie rfl ⟨rfl, rfl⟩ (by kernel_rfl) rfl plain (by kernel_rfl)
end Go.Proofs.YtbdfblgdmappeaaGreatDoor.fnPacketsetMakes
