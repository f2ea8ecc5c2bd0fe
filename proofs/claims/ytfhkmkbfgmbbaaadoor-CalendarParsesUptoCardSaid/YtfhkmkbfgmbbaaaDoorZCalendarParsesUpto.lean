/- Proved here: nsglaw9.CalendarParses, the second form: the row and its card. The call returns true for every input of bulk at most 1048576, and the arguments read as before; the names of the days are what the program's text lays. -/
import Derived.Test.YtfhkmkbfgmbbaaaDoorCards
import Derived.Test.YtfhkmkbfgmbbaaaDoorTie
import Derived.Test.YtfhkmkbfgmbbaaaDoorMB
import Derived.Test.YtfhkmkbfgmbbaaaDoorMS
import Derived.Test.YtfhkmkbfgmbbaaaDoorMT
namespace Go.Proofs.YtfhkmkbfgmbbaaaDoor.fnCalendarParsesUpto
open Go.ChangeShapes Go.WideShapes Go.ChangeAt Go.RowKit
set_option maxRecDepth 100000

/-- what the walk gives, for every argument and every world that holds the table -/
theorem contract (H : Type) (enc : TypeId × Value → H) (W : World) (base : Nat) (args : Array Value) (ds gs : List (DataW H)) (before : List MemPlace)
    (hval : ∀ (j : Nat) t v, Tryd.f4.params[j]? = some t → args[j]? = some v → Value.okWide Tryd.prog W .any base t v)
    (hW : DataW.Whole enc Tryd.prog Tryd.f4.params.toList Rows.calendarParsesSpec.vars false W args.toList ds gs before) (hL : laidMetH Tryd.prog Rows.calendarParsesUptoRow.laid W) (hk : Rows.uptoBulkAll (ds ++ gs) ≤ 1048576) :
    Calls Tryd.prog 4 args W fun e W' => ∃ v, e = .returned v ∧ Rows.calendarParsesSpec.post enc Tryd.prog Tryd.f4 false true false false W args v W' := by
  have hW' := hW
  obtain ⟨p, q, hA, -, -, -, -⟩ := hW
  rw [Tryd.params4] at hA hval
  obtain ⟨v0, vs0, d0, ds0, p0, q0, e0, rfl, -, h0, r0⟩ := trodAll_cons hA
  obtain ⟨v1, vs1, d1, ds1, p1, q1, e1, rfl, -, h1, r1⟩ := trodAll_cons r0
  obtain ⟨rfl, rfl, -⟩ := trodAll_nil r1
  obtain rfl : args = #[v0, v1] := by cases args; simp_all
  obtain ⟨zt, Zt, rt⟩ := isInts_of (hval 0 22 v0 rfl rfl) h0
  obtain ⟨lw, Bw, bw, nw⟩ := isTexts_of (hval 1 28 v1 rfl rfl) h1
  simp only [List.cons_append, List.nil_append, Rows.uptoBulkAll] at hk
  refine (parses_law (us := lw) W (nms_of hL) Zt rt Bw bw (fun x hx => by have := nw x hx; omega)).mono fun e W' ⟨he, hb⟩ => ?_
  subst he
  exact ⟨_, rfl, law_post kids full (by rw [Tryd.params4]; decide) rfl (by kernel_rfl) Tryd.underlying4 hW' hb rfl rfl rfl⟩

/-- a world for the witness: the names hold what their initialiser lays -/
noncomputable def laidWorld (os : Os) : World :=
  { World.holding Tryd.prog os ⟨#[], #[], []⟩ with heap := (World.holding Tryd.prog os ⟨#[], #[], []⟩).heap.modify 0 fun
      | .cells _ t frozen => .cells #[.string ⟨#[109, 111, 110]⟩, .string ⟨#[116, 117, 101]⟩, .string ⟨#[119, 101, 100]⟩, .string ⟨#[116, 104, 117]⟩, .string ⟨#[102, 114, 105]⟩, .string ⟨#[115, 97, 116]⟩, .string ⟨#[115, 117, 110]⟩] t frozen
      | o => o }
def zeros : Array Value := #[.slice none 0 0, .slice none 0 0]
theorem laid_met (os : Os) : laidMet Tryd.prog Rows.calendarParsesUptoRow.laid ((laidWorld os).forCall (fun _ _ => 0) ⟨#[], zeros, []⟩).memory := laidMet_of_run' 8 (by kernel_rfl) (by kernel_rfl)
theorem reads (os : Os) {H : Type} (enc : TypeId × Value → H) : ∃ places, DataW.whole enc Tryd.prog ((laidWorld os).forCall (fun _ _ => 0) ⟨#[], zeros, []⟩).memory Tryd.f4.params.toList Rows.calendarParsesSpec.vars false zeros.toList 8 = some ([.nil, .nil], [], places) := ⟨[], by kernel_rfl⟩

theorem lifted (os : Os) (started : os.Started) (H : Type) (enc : TypeId × Value → H) (F : Stop.Interp) :
    ReturnsInHanded {} Tryd.checked os 4 .any ((Rows.OpenSpec.upto Rows.calendarParsesSpec).preRow enc Tryd.prog Tryd.f4 Rows.calendarParsesUptoRow.domain false Rows.calendarParsesUptoRow.laid) (((Rows.OpenSpec.upto Rows.calendarParsesSpec).at F).post enc Tryd.prog Tryd.f4 false true false false) := by
  obtain ⟨places, hx⟩ := reads os enc
  refine returnsInHanded_of_row (C := Tryd.checked) (s := Rows.OpenSpec.upto Rows.calendarParsesSpec) own started (by kernel_rfl) Tryd.func4
    (witness_row_at (enc := enc) (C := Tryd.checked) false (laidWorld os) zeros rfl (by kernel_rfl) (by kernel_rfl) (by kernel_rfl)
      (OpenSpec.preRow_of_cond 8 hx (by kernel_rfl) (fun k hk => by cases hk; kernel_rfl) (by kernel_rfl) (laid_met os))) ?_
  intro W base args ds gs before hval hW _ hcond _ hL _ _
  exact contract H enc W base args ds gs before hval hW hL (of_decide_eq_true (hcond _ rfl))

theorem said : Rows.CalendarParsesUptoSaid :=
  OpenClaim.holds_of_cond 4 Tryd.f4 rfl rfl rfl rfl rfl rfl rfl ⟨rfl, rfl, rfl, rfl, rfl⟩ rfl rfl rfl rfl rfl (by kernel_rfl) Tryd.func4 (by kernel_rfl)
    (of_decide_eq_true (by kernel_rfl)) (by unfold Func.isWrapper; first | (rw [if_pos (by decide +kernel)]; kernel_rfl) | (rw [if_neg (by decide +kernel)]; exact ⟨rfl, rfl⟩))
    (fun os started H enc _ F => by rw [OpenClaim.pre_eq_preRow]; exact lifted os started H enc F)

theorem plain (f : FuncId) (fn : Func) (hf : Tryd.pinned.checked.prog.funcNamed "netsegment/nsglaw9.CalendarParses" = some f) (hfn : Tryd.pinned.checked.prog.funcs[f]? = some fn) :
    false = Tryd.pinned.checked.prog.looks [] ∧ ∀ (j : Nat) t, fn.params[j]? = some t → Tryd.pinned.checked.prog.wantsStandIn t = false := by
  obtain rfl : f = 4 := Option.some.inj ((show Tryd.prog.funcNamed "netsegment/nsglaw9.CalendarParses" = some 4 by kernel_rfl).symm.trans hf) |>.symm
  obtain rfl : fn = Tryd.f4 := (Option.some.inj (Tryd.func4.symm.trans hfn)).symm
  refine ⟨by kernel_rfl, fun j t ht => ?_⟩
  rw [Tryd.params4] at ht
  have hm := Array.mem_of_getElem? ht
  have all : ∀ t ∈ [22, 28], Tryd.prog.wantsStandIn t = false := by intro t ht; simp only [List.mem_cons, List.not_mem_nil, or_false] at ht; rcases ht with rfl | rfl <;> kernel_rfl
  exact all t (by simpa using hm)

theorem card : Rows.CalendarParsesUptoCardSaid :=
  Claim7.holds_tied_plain_at .later [] _ _ _ _ said (fun _ h => by cases h) (by kernel_rfl) (fun _ h => by cases h) calendarParsesUpto_row_tie rfl ⟨rfl, rfl⟩ (by kernel_rfl) rfl plain (by kernel_rfl)
end Go.Proofs.YtfhkmkbfgmbbaaaDoor.fnCalendarParsesUpto
