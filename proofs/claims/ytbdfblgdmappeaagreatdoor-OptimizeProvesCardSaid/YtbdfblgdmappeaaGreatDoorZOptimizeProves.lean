/- Proved here: nsglaw36.OptimizeProves: the row and its card. The call returns true for every input, and the arguments read as before; the table of the greatest values holds what the program's text lays. -/
import Derived.Test.YtbdfblgdmappeaaGreatDoorCards
import Derived.Test.YtbdfblgdmappeaaGreatDoorTie
import Derived.Test.YtbdfblgdmappeaaGreatDoorMB
import Derived.Test.YtbdfblgdmappeaaGreatDoorQS
import Derived.Test.YtbdfblgdmappeaaGreatDoorQW
namespace Go.Proofs.YtbdfblgdmappeaaGreatDoor.fnOptimizeProves
open Go.ChangeShapes Go.WideShapes Go.ChangeAt Go.RowKit
set_option maxRecDepth 100000
theorem contract (H : Type) (enc : TypeId × Value → H) (W : World) (base : Nat) (args : Array Value) (ds gs : List (DataW H)) (before : List MemPlace)
  (hval : ∀ (j : Nat) t v, Tryz.f7.params[j]? = some t → args[j]? = some v → Value.okWide Tryz.prog W .any base t v)
  (hW : DataW.Whole enc Tryz.prog Tryz.f7.params.toList Rows.optimizeProvesSpec.vars false W args.toList ds gs before) (hL : laidMetH Tryz.prog Rows.optimizeProvesRow.laid W) :
  Calls Tryz.prog 7 args W fun e W' => ∃ v, e = .returned v ∧ Rows.optimizeProvesSpec.post enc Tryz.prog Tryz.f7 false true false false W args v W' := by
 have hW' := hW
 obtain ⟨p, q, hA, -, -, -, -⟩ := hW
 rw [Tryz.params7] at hA hval
 obtain ⟨v0, vs0, d0, ds0, p0, q0, e0, rfl, -, h0, r0⟩ := trodAll_cons hA
 obtain ⟨v1, vs1, d1, ds1, p1, q1, e1, rfl, -, h1, r1⟩ := trodAll_cons r0
 obtain ⟨rfl, rfl, -⟩ := trodAll_nil r1
 obtain rfl : args = #[v0, v1] := by cases args; simp_all
 obtain ⟨zt, Zt, rt⟩ := isInts_of (hval 0 22 v0 rfl rfl) h0
 obtain ⟨r, rfl, -, -⟩ := open_bool Tryz.underlying4 (hval 1 4 v1 rfl rfl) h1
 refine (opproves_law v0 zt r W (wids_of hL).1 (wids_of hL).2 Zt rt).mono fun e W' ⟨he, hb⟩ => ?_
 subst he
 exact ⟨_, rfl, law_post kids full (by rw [Tryz.params7]; decide) rfl (by kernel_rfl) Tryz.underlying4 hW' hb rfl rfl rfl⟩
noncomputable def laidWorld (os : Os) : World :=
 { World.holding Tryz.prog os ⟨#[], #[], []⟩ with heap := ((World.holding Tryz.prog os ⟨#[], #[], []⟩).heap.modify 0 (fun | .cells _ t frozen => .cells #[.int .u32 4294967295, .int .u32 4294967295, .int .u32 255, .int .u32 65535, .int .u32 65535] t frozen | o => o)).modify 1 (fun | .cells _ t frozen => .cells #[.int .i64 32, .int .i64 32, .int .i64 8, .int .i64 16, .int .i64 16] t frozen | o => o) }
def zeros : Array Value := #[.slice none 0 0, .bool false]
theorem laid_met (os : Os) : laidMet Tryz.prog Rows.optimizeProvesRow.laid ((laidWorld os).forCall (fun _ _ => 0) ⟨#[], zeros, []⟩).memory := laidMet_of_run' 8 (by kernel_rfl) (by kernel_rfl)
theorem reads (os : Os) {H : Type} (enc : TypeId × Value → H) : ∃ places, DataW.whole enc Tryz.prog ((laidWorld os).forCall (fun _ _ => 0) ⟨#[], zeros, []⟩).memory Tryz.f7.params.toList Rows.optimizeProvesSpec.vars false zeros.toList 8 = some ([.nil, .lit (.bool false)], [], places) := ⟨[], by kernel_rfl⟩
theorem lifted (os : Os) (started : os.Started) (H : Type) (enc : TypeId × Value → H) (F : Stop.Interp) :
  ReturnsInHanded {} Tryz.checked os 7 .any ((OpenSpec.ofChange Rows.optimizeProvesSpec).preRow enc Tryz.prog Tryz.f7 Rows.optimizeProvesRow.domain false Rows.optimizeProvesRow.laid) (((OpenSpec.ofChange Rows.optimizeProvesSpec).at F).post enc Tryz.prog Tryz.f7 false true false false) := by
 obtain ⟨places, hx⟩ := reads os enc
 refine returnsInHanded_of_row (C := Tryz.checked) (s := OpenSpec.ofChange Rows.optimizeProvesSpec) own started (by kernel_rfl) Tryz.func7
  (witness_row_at (enc := enc) (C := Tryz.checked) false (laidWorld os) zeros rfl (by kernel_rfl) (by kernel_rfl) (by kernel_rfl)
   (OpenSpec.preRow_of_cond 8 hx (by kernel_rfl) (fun k hk => by cases hk) (by kernel_rfl) (laid_met os))) ?_
 intro W base args ds gs before hval hW _ _ _ hL _ _
 exact contract H enc W base args ds gs before hval hW hL
theorem said : Rows.OptimizeProvesSaid :=
 OpenClaim.holds_of_cond 7 Tryz.f7 rfl rfl rfl rfl rfl rfl rfl ⟨rfl, rfl, rfl, rfl, rfl⟩ rfl rfl rfl rfl rfl (by kernel_rfl) Tryz.func7 (by kernel_rfl)
  (of_decide_eq_true (by kernel_rfl)) (by unfold Func.isWrapper; first | (rw [if_pos (by decide +kernel)]; kernel_rfl) | (rw [if_neg (by decide +kernel)]; exact ⟨rfl, rfl⟩))
  (fun os started H enc _ F => by rw [OpenClaim.pre_eq_preRow]; exact lifted os started H enc F)
theorem plain (f : FuncId) (fn : Func) (hf : Tryz.pinned.checked.prog.funcNamed "netsegment/nsglaw36.OptimizeProves" = some f) (hfn : Tryz.pinned.checked.prog.funcs[f]? = some fn) :
  false = Tryz.pinned.checked.prog.looks [] ∧ ∀ (j : Nat) t, fn.params[j]? = some t → Tryz.pinned.checked.prog.wantsStandIn t = false := by
 obtain rfl : f = 7 := Option.some.inj ((show Tryz.prog.funcNamed "netsegment/nsglaw36.OptimizeProves" = some 7 by kernel_rfl).symm.trans hf) |>.symm
 obtain rfl : fn = Tryz.f7 := (Option.some.inj (Tryz.func7.symm.trans hfn)).symm
 refine ⟨by kernel_rfl, fun j t ht => ?_⟩
 rw [Tryz.params7] at ht
 have hm := Array.mem_of_getElem? ht
 have all : ∀ t ∈ [22, 4], Tryz.prog.wantsStandIn t = false := by intro t ht; simp only [List.mem_cons, List.not_mem_nil, or_false] at ht; rcases ht with rfl | rfl <;> kernel_rfl
 exact all t (by simpa using hm)
theorem card : Rows.OptimizeProvesCardSaid :=
 Claim7.holds_tied_plain_at .later [] _ _ _ _ said (fun _ h => by cases h) (by kernel_rfl) (fun _ h => by cases h) optimizeProves_row_tie rfl ⟨rfl, rfl⟩ (by kernel_rfl) rfl plain (by kernel_rfl)
end Go.Proofs.YtbdfblgdmappeaaGreatDoor.fnOptimizeProves
