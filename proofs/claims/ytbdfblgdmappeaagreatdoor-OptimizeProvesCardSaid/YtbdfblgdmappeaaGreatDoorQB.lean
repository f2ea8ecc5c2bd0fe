/- Steps of an optimization in memory; slices.Clone and slices.Delete of tables. -/
import Derived.ChangeArms
import Derived.Test.YtbdfblgdmappeaaGreatDoorPC
import Derived.Test.YtbdfblgdmappeaaGreatDoorPA
import Derived.Test.YtbdfblgdmappeaaGreatDoorPI
import Derived.Test.YtbdfblgdmappeaaGreatDoorQA
import Derived.Test.YtbdfblgdmappeaaGreatDoorOF
namespace Go.Proofs.YtbdfblgdmappeaaGreatDoor
open Go.RowKit
set_option maxRecDepth 100000
def stcs (s : Stp) : List Value := [.int .i64 s.1, .int .i64 s.2.1, .int .i64 s.2.2]
theorem stcs_length (s : Stp) : (stcs s).length = 3 := rfl
def cellsQ : List Stp → List Value
 | [] => []
 | b :: l => stcs b ++ cellsQ l
theorem cellsQ_append (l m : List Stp) : cellsQ (l ++ m) = cellsQ l ++ cellsQ m := by
 induction l with
 | nil => rfl
 | cons b l ih => simp [cellsQ, ih]
theorem cellsQ_one (b : Stp) : cellsQ [b] = stcs b := by simp [cellsQ]
theorem tk_step (l : List Stp) {k : Nat} (h : k < l.length) : List.take (stcs l[k]).length (List.drop (k * 3) (cellsQ l)) = stcs l[k] := by
 induction l generalizing k with
 | nil => simp at h
 | cons b l ih =>
  cases k with
  | zero =>
   simp only [List.getElem_cons_zero, Nat.zero_mul, List.drop_zero, cellsQ]
   exact List.take_left' rfl
  | succ k =>
   have := ih (k := k) (by simpa using h)
   simp only [List.getElem_cons_succ, cellsQ]
   rw [show (k + 1) * 3 = (stcs b).length + k * 3 by rw [stcs_length]; omega, List.drop_append, List.drop_of_length_le (by omega), List.nil_append, Nat.add_sub_cancel_left]
   exact this
theorem cellsQ_nil {l : List Stp} (h : l.length = 0) : cellsQ l = [] := by rw [List.length_eq_zero_iff.1 h]; rfl
def IsSteps (w : World) (v : Value) (l : List Stp) : Prop := IsCells w v l.length (cellsQ l)
theorem row_Step : RowT Tryz.prog 26 3 := ⟨_, Tryz.underlying26, rfl, by kernel_rfl⟩
theorem zero_Step : ZeroT Tryz.prog 26 [.int .i64 0, .int .i64 0, .int .i64 0] := by unfold ZeroT; kernel_rfl
theorem slice_Steps : SliceT Tryz.prog 37 26 3 24 := ⟨Tryz.underlying37, by omega, by
 obtain ⟨i, h1, h2, h3, h4⟩ := info_parts (show (Tryz.prog.info? 26).map (fun i => (i.zero, i.size, i.bytes)) = some (some (.agg #[.int .i64 0, .int .i64 0, .int .i64 0]), 3, 24) by kernel_rfl)
 exact ⟨i, _, h1, h2, h3, h4, rfl⟩⟩
theorem one_rgs : OneT Tryz.prog 155 := ⟨_, Tryz.underlying155, rfl, by kernel_rfl⟩
theorem row_Rgs5 : RowT Tryz.prog 201 5 := ⟨_, Tryz.underlying201, rfl, by kernel_rfl⟩
theorem zero_Rgs5 : ZeroT Tryz.prog 201 [.slice none 0 0, .slice none 0 0, .slice none 0 0, .slice none 0 0, .slice none 0 0] := by unfold ZeroT; kernel_rfl
theorem row_Int5 : RowT Tryz.prog 207 5 := ⟨_, Tryz.underlying207, rfl, by kernel_rfl⟩
theorem zero_Int5 : ZeroT Tryz.prog 207 [.int .i64 0, .int .i64 0, .int .i64 0, .int .i64 0, .int .i64 0] := by unfold ZeroT; kernel_rfl
theorem run_step2 (a b : Int) (w : World) : (Instr.build 26 #[(0, .int .i64 a), (1, .int .i64 b)]).run Tryz.prog w = .ok (.agg #[.int .i64 a, .int .i64 b, .int .i64 0]) w := run_build w _ _ _ (by kernel_rfl)
theorem run_step3 (a b c : Int) (w : World) : (Instr.build 26 #[(0, .int .i64 a), (1, .int .i64 b), (2, .int .i64 c)]).run Tryz.prog w = .ok (.agg #[.int .i64 a, .int .i64 b, .int .i64 c]) w := run_build w _ _ _ (by kernel_rfl)
theorem run_step02 (a c : Int) (w : World) : (Instr.build 26 #[(0, .int .i64 a), (2, .int .i64 c)]).run Tryz.prog w = .ok (.agg #[.int .i64 a, .int .i64 0, .int .i64 c]) w := run_build w _ _ _ (by kernel_rfl)
theorem run_step1 (a : Int) (w : World) : (Instr.build 26 #[(0, .int .i64 a)]).run Tryz.prog w = .ok (.agg #[.int .i64 a, .int .i64 0, .int .i64 0]) w := run_build w _ _ _ (by kernel_rfl)
attribute [go_sem high] run_step2 run_step3 run_step02 run_step1
section
variable {P : Program} {ops : Array Oper} {rest : List Oper} {o : Oper} {a : Act} {w w0 w' : World} {Q : Exit → Act → World → Prop} {M : List Nat} {X X' : List Chunk} {R : List Row} {S : List Ro}
theorem own_ldQ (hw : Region.wanted o (yielded ops a.tmps) = true := by rfl) {t : TypeId} {x : Operand} (ho : o.op = .load t x := by rfl) {n off : Nat} (hx : a.eval x = .pointer (some ⟨n, off, none⟩) := by rfl) {v : Value}
  (hl : LoadsAt P w t n off v := by (first | (refine' ld_row ?ht (hO.range ?hm ?hv) ?hs; (case ht => (with_reducible (first | exact row_Box | exact row_Range | exact row_Header | exact row_Five | exact row_Tape | exact row_Prefix | exact row_Truths | exact row_Packet | exact row_Group | exact row_Rule | exact row_Step | exact row_Rgs5 | exact row_Int5))); (case hm => (repeat (first | exact List.mem_cons_self | refine List.mem_cons_of_mem _ ?_))); (case hv => (first | assumption | exact tk_rg _ (by assumption) | exact tk_box _ (by assumption) | exact tk_rule _ (by assumption) | exact tk_step _ (by assumption) | exact tk_all _)); (case hs => rfl)) | (refine' ld_one ?ht (hO.cellAt ?hm ?hv); (case ht => (with_reducible (first | exact one_u32 | exact one_int | exact one_u16 | exact one_u8 | exact one_ints | exact one_bool | exact one_bytes | exact one_u64 | exact one_set | exact one_boxes | exact one_table | exact one_boolT | exact one_rgs))); (case hm => (repeat (first | exact List.mem_cons_self | refine List.mem_cons_of_mem _ ?_))); (case hv => (first | assumption | exact cr_permit _ (by assumption) | exact tcs5_at _ (by assumption) | exact ints_at (by assumption) | exact cb_lo _ (by assumption) (by assumption) | exact cb_hi _ (by assumption) (by assumption) | exact fcs_at _ (by assumption) | exact tops_get (by assumption) | exact bcs_lo _ (by assumption) | exact bcs_hi _ (by assumption) | rfl))) | (refine' ld_row ?ht (hO.roRange ?hm ?hv) ?hs; (case ht => (with_reducible (first | exact row_Box | exact row_Range | exact row_Header | exact row_Five | exact row_Tape | exact row_Prefix | exact row_Truths | exact row_Packet | exact row_Group | exact row_Rule | exact row_Step | exact row_Rgs5 | exact row_Int5))); (case hm => (repeat (first | exact List.mem_cons_self | refine List.mem_cons_of_mem _ ?_))); (case hv => (first | assumption | exact tk_rg _ (by assumption) | exact tk_box _ (by assumption) | exact tk_rule _ (by assumption) | exact tk_step _ (by assumption) | exact tk_all _)); (case hs => rfl)) | (refine' ld_one ?ht (hO.roCell ?hm ?hv); (case ht => (with_reducible (first | exact one_u32 | exact one_int | exact one_u16 | exact one_u8 | exact one_ints | exact one_bool | exact one_bytes | exact one_u64 | exact one_set | exact one_boxes | exact one_table | exact one_boolT | exact one_rgs))); (case hm => (repeat (first | exact List.mem_cons_self | refine List.mem_cons_of_mem _ ?_))); (case hv => (first | assumption | exact cr_permit _ (by assumption) | exact tcs5_at _ (by assumption) | exact ints_at (by assumption) | exact cb_lo _ (by assumption) (by assumption) | exact cb_hi _ (by assumption) (by assumption) | exact fcs_at _ (by assumption) | exact tops_get (by assumption) | exact bcs_lo _ (by assumption) | exact bcs_hi _ (by assumption) | rfl))) | (refine' ld_row ?ht (hO.roRangeG ?hm ?hv) ?hs; (case ht => (with_reducible (first | exact row_Box | exact row_Range | exact row_Header | exact row_Five | exact row_Tape | exact row_Prefix | exact row_Truths | exact row_Packet | exact row_Group | exact row_Rule | exact row_Step | exact row_Rgs5 | exact row_Int5))); (case hm => (repeat (first | exact List.mem_cons_self | refine List.mem_cons_of_mem _ ?_))); (case hv => (first | assumption | exact tk_rg _ (by assumption) | exact tk_box _ (by assumption) | exact tk_rule _ (by assumption) | exact tk_step _ (by assumption) | exact tk_all _)); (case hs => rfl)) | (refine' ld_one ?ht (hO.roCellG ?hm ?hv); (case ht => (with_reducible (first | exact one_u32 | exact one_int | exact one_u16 | exact one_u8 | exact one_ints | exact one_bool | exact one_bytes | exact one_u64 | exact one_set | exact one_boxes | exact one_table | exact one_boolT | exact one_rgs))); (case hm => (repeat (first | exact List.mem_cons_self | refine List.mem_cons_of_mem _ ?_))); (case hv => (first | assumption | exact cr_permit _ (by assumption) | exact tcs5_at _ (by assumption) | exact ints_at (by assumption) | exact cb_lo _ (by assumption) (by assumption) | exact cb_hi _ (by assumption) (by assumption) | exact fcs_at _ (by assumption) | exact tops_get (by assumption) | exact bcs_lo _ (by assumption) | exact bcs_hi _ (by assumption) | rfl))) | (refine' ld_row ?ht (hO.roRange3 ?hm ?hv) ?hs; (case ht => (with_reducible (first | exact row_Box | exact row_Range | exact row_Header | exact row_Five | exact row_Tape | exact row_Prefix | exact row_Truths | exact row_Packet | exact row_Group | exact row_Rule | exact row_Step | exact row_Rgs5 | exact row_Int5))); (case hm => (repeat (first | exact List.mem_cons_self | refine List.mem_cons_of_mem _ ?_))); (case hv => (first | assumption | exact tk_rg _ (by assumption) | exact tk_box _ (by assumption) | exact tk_rule _ (by assumption) | exact tk_step _ (by assumption) | exact tk_all _)); (case hs => rfl)) | (refine' ld_row ?ht (hO.roRange0 ?hm ?hv) ?hs; (case ht => (with_reducible (first | exact row_Box | exact row_Range | exact row_Header | exact row_Five | exact row_Tape | exact row_Prefix | exact row_Truths | exact row_Packet | exact row_Group | exact row_Rule | exact row_Step | exact row_Rgs5 | exact row_Int5))); (case hm => (repeat (first | exact List.mem_cons_self | refine List.mem_cons_of_mem _ ?_))); (case hv => (first | exact tk_boxOne _ | exact tk_box0 _ (by assumption))); (case hs => rfl)) | (refine' ld_one ?ht (hO.roCell3 ?hm ?hv); (case ht => (with_reducible (first | exact one_u32 | exact one_int | exact one_u16 | exact one_u8 | exact one_ints | exact one_bool | exact one_bytes | exact one_u64 | exact one_set | exact one_boxes | exact one_table | exact one_boolT | exact one_rgs))); (case hm => (repeat (first | exact List.mem_cons_self | refine List.mem_cons_of_mem _ ?_))); (case hv => (first | assumption | exact cr_permit _ (by assumption) | exact tcs5_at _ (by assumption) | exact ints_at (by assumption) | exact cb_lo _ (by assumption) (by assumption) | exact cb_hi _ (by assumption) (by assumption) | exact fcs_at _ (by assumption) | exact tops_get (by assumption) | exact bcs_lo _ (by assumption) | exact bcs_hi _ (by assumption) | rfl))) | (refine' ld_one ?ht (hO.roCell4 ?hm ?hv); (case ht => (with_reducible (first | exact one_u32 | exact one_int | exact one_u16 | exact one_u8 | exact one_ints | exact one_bool | exact one_bytes | exact one_u64 | exact one_set | exact one_boxes | exact one_table | exact one_boolT | exact one_rgs))); (case hm => (repeat (first | exact List.mem_cons_self | refine List.mem_cons_of_mem _ ?_))); (case hv => (first | assumption | exact cr_permit _ (by assumption) | exact tcs5_at _ (by assumption) | exact ints_at (by assumption) | exact cb_lo _ (by assumption) (by assumption) | exact cb_hi _ (by assumption) (by assumption) | exact fcs_at _ (by assumption) | exact tops_get (by assumption) | exact bcs_lo _ (by assumption) | exact bcs_hi _ (by assumption) | rfl))) | (refine' ld_row ?ht (hO.rowRange ?hm ?hv) ?hs; (case ht => (with_reducible (first | exact row_Box | exact row_Range | exact row_Header | exact row_Five | exact row_Tape | exact row_Prefix | exact row_Truths | exact row_Packet | exact row_Group | exact row_Rule | exact row_Step | exact row_Rgs5 | exact row_Int5))); (case hm => (repeat (first | exact List.mem_cons_self | refine List.mem_cons_of_mem _ ?_))); (case hv => (first | assumption | exact tk_rg _ (by assumption) | exact tk_box _ (by assumption) | exact tk_rule _ (by assumption) | exact tk_step _ (by assumption) | exact tk_all _)); (case hs => rfl)) | (refine' ld_one ?ht (hO.rowCell ?hm ?hv); (case ht => (with_reducible (first | exact one_u32 | exact one_int | exact one_u16 | exact one_u8 | exact one_ints | exact one_bool | exact one_bytes | exact one_u64 | exact one_set | exact one_boxes | exact one_table | exact one_boolT | exact one_rgs))); (case hm => (repeat (first | exact List.mem_cons_self | refine List.mem_cons_of_mem _ ?_))); (case hv => (first | assumption | exact cr_permit _ (by assumption) | exact tcs5_at _ (by assumption) | exact ints_at (by assumption) | exact cb_lo _ (by assumption) (by assumption) | exact cb_hi _ (by assumption) (by assumption) | exact fcs_at _ (by assumption) | exact tops_get (by assumption) | exact bcs_lo _ (by assumption) | exact bcs_hi _ (by assumption) | rfl))) | (refine' ld_row ?ht (hO.range ?hm ?hv) ?hs; (case ht => (with_reducible (first | exact row_Box | exact row_Range | exact row_Header | exact row_Five | exact row_Tape | exact row_Prefix | exact row_Truths | exact row_Packet | exact row_Group | exact row_Rule | exact row_Step | exact row_Rgs5 | exact row_Int5))); (case hm => (repeat (first | exact List.mem_cons_self | refine List.mem_cons_of_mem _ ?_))); (case hv => (exact tk_front _)); (case hs => rfl)) | (refine' ld_row ?ht (hO.roRange ?hm ?hv) ?hs; (case ht => (with_reducible (first | exact row_Box | exact row_Range | exact row_Header | exact row_Five | exact row_Tape | exact row_Prefix | exact row_Truths | exact row_Packet | exact row_Group | exact row_Rule | exact row_Step | exact row_Rgs5 | exact row_Int5))); (case hm => (repeat (first | exact List.mem_cons_self | refine List.mem_cons_of_mem _ ?_))); (case hv => (exact tk_match _ (by assumption))); (case hs => rfl)) | (refine' ld_row ?ht (hO.roRangeG ?hm ?hv) ?hs; (case ht => (with_reducible (first | exact row_Box | exact row_Range | exact row_Header | exact row_Five | exact row_Tape | exact row_Prefix | exact row_Truths | exact row_Packet | exact row_Group | exact row_Rule | exact row_Step | exact row_Rgs5 | exact row_Int5))); (case hm => (repeat (first | exact List.mem_cons_self | refine List.mem_cons_of_mem _ ?_))); (case hv => (exact tk_match _ (by assumption))); (case hs => rfl)) | (refine' ld_row ?ht (hO.rowRange ?hm ?hv) ?hs; (case ht => (with_reducible (first | exact row_Box | exact row_Range | exact row_Header | exact row_Five | exact row_Tape | exact row_Prefix | exact row_Truths | exact row_Packet | exact row_Group | exact row_Rule | exact row_Step | exact row_Rgs5 | exact row_Int5))); (case hm => (repeat (first | exact List.mem_cons_self | refine List.mem_cons_of_mem _ ?_))); (case hv => (exact tk_match _ (by assumption))); (case hs => rfl))))
  (h : wpList P ops Q rest (a.put o.dst v) w) : wpList P ops Q (o :: rest) a w :=
 wpList_val hw _ _ (rx_ld ho hx hl) h
theorem q_ldQ {K : Act → Prop} {t : TypeId} {x : Operand} (ho : o.op = .load t x := by rfl) {n off : Nat} (hx : a.eval x = .pointer (some ⟨n, off, none⟩) := by rfl) {v : Value}
  (hl : ∀ wq, Own M w0 X R S wq → LoadsAt P wq t n off v := by (intro wq hO; (first | (refine' ld_row ?ht (hO.range ?hm ?hv) ?hs; (case ht => (with_reducible (first | exact row_Box | exact row_Range | exact row_Header | exact row_Five | exact row_Tape | exact row_Prefix | exact row_Truths | exact row_Packet | exact row_Group | exact row_Rule | exact row_Step | exact row_Rgs5 | exact row_Int5))); (case hm => (repeat (first | exact List.mem_cons_self | refine List.mem_cons_of_mem _ ?_))); (case hv => (first | assumption | exact tk_rg _ (by assumption) | exact tk_box _ (by assumption) | exact tk_rule _ (by assumption) | exact tk_step _ (by assumption) | exact tk_all _)); (case hs => rfl)) | (refine' ld_one ?ht (hO.cellAt ?hm ?hv); (case ht => (with_reducible (first | exact one_u32 | exact one_int | exact one_u16 | exact one_u8 | exact one_ints | exact one_bool | exact one_bytes | exact one_u64 | exact one_set | exact one_boxes | exact one_table | exact one_boolT | exact one_rgs))); (case hm => (repeat (first | exact List.mem_cons_self | refine List.mem_cons_of_mem _ ?_))); (case hv => (first | assumption | exact cr_permit _ (by assumption) | exact tcs5_at _ (by assumption) | exact ints_at (by assumption) | exact cb_lo _ (by assumption) (by assumption) | exact cb_hi _ (by assumption) (by assumption) | exact fcs_at _ (by assumption) | exact tops_get (by assumption) | exact bcs_lo _ (by assumption) | exact bcs_hi _ (by assumption) | rfl))) | (refine' ld_row ?ht (hO.roRange ?hm ?hv) ?hs; (case ht => (with_reducible (first | exact row_Box | exact row_Range | exact row_Header | exact row_Five | exact row_Tape | exact row_Prefix | exact row_Truths | exact row_Packet | exact row_Group | exact row_Rule | exact row_Step | exact row_Rgs5 | exact row_Int5))); (case hm => (repeat (first | exact List.mem_cons_self | refine List.mem_cons_of_mem _ ?_))); (case hv => (first | assumption | exact tk_rg _ (by assumption) | exact tk_box _ (by assumption) | exact tk_rule _ (by assumption) | exact tk_step _ (by assumption) | exact tk_all _)); (case hs => rfl)) | (refine' ld_one ?ht (hO.roCell ?hm ?hv); (case ht => (with_reducible (first | exact one_u32 | exact one_int | exact one_u16 | exact one_u8 | exact one_ints | exact one_bool | exact one_bytes | exact one_u64 | exact one_set | exact one_boxes | exact one_table | exact one_boolT | exact one_rgs))); (case hm => (repeat (first | exact List.mem_cons_self | refine List.mem_cons_of_mem _ ?_))); (case hv => (first | assumption | exact cr_permit _ (by assumption) | exact tcs5_at _ (by assumption) | exact ints_at (by assumption) | exact cb_lo _ (by assumption) (by assumption) | exact cb_hi _ (by assumption) (by assumption) | exact fcs_at _ (by assumption) | exact tops_get (by assumption) | exact bcs_lo _ (by assumption) | exact bcs_hi _ (by assumption) | rfl))) | (refine' ld_row ?ht (hO.roRangeG ?hm ?hv) ?hs; (case ht => (with_reducible (first | exact row_Box | exact row_Range | exact row_Header | exact row_Five | exact row_Tape | exact row_Prefix | exact row_Truths | exact row_Packet | exact row_Group | exact row_Rule | exact row_Step | exact row_Rgs5 | exact row_Int5))); (case hm => (repeat (first | exact List.mem_cons_self | refine List.mem_cons_of_mem _ ?_))); (case hv => (first | assumption | exact tk_rg _ (by assumption) | exact tk_box _ (by assumption) | exact tk_rule _ (by assumption) | exact tk_step _ (by assumption) | exact tk_all _)); (case hs => rfl)) | (refine' ld_one ?ht (hO.roCellG ?hm ?hv); (case ht => (with_reducible (first | exact one_u32 | exact one_int | exact one_u16 | exact one_u8 | exact one_ints | exact one_bool | exact one_bytes | exact one_u64 | exact one_set | exact one_boxes | exact one_table | exact one_boolT | exact one_rgs))); (case hm => (repeat (first | exact List.mem_cons_self | refine List.mem_cons_of_mem _ ?_))); (case hv => (first | assumption | exact cr_permit _ (by assumption) | exact tcs5_at _ (by assumption) | exact ints_at (by assumption) | exact cb_lo _ (by assumption) (by assumption) | exact cb_hi _ (by assumption) (by assumption) | exact fcs_at _ (by assumption) | exact tops_get (by assumption) | exact bcs_lo _ (by assumption) | exact bcs_hi _ (by assumption) | rfl))) | (refine' ld_row ?ht (hO.roRange3 ?hm ?hv) ?hs; (case ht => (with_reducible (first | exact row_Box | exact row_Range | exact row_Header | exact row_Five | exact row_Tape | exact row_Prefix | exact row_Truths | exact row_Packet | exact row_Group | exact row_Rule | exact row_Step | exact row_Rgs5 | exact row_Int5))); (case hm => (repeat (first | exact List.mem_cons_self | refine List.mem_cons_of_mem _ ?_))); (case hv => (first | assumption | exact tk_rg _ (by assumption) | exact tk_box _ (by assumption) | exact tk_rule _ (by assumption) | exact tk_step _ (by assumption) | exact tk_all _)); (case hs => rfl)) | (refine' ld_row ?ht (hO.roRange0 ?hm ?hv) ?hs; (case ht => (with_reducible (first | exact row_Box | exact row_Range | exact row_Header | exact row_Five | exact row_Tape | exact row_Prefix | exact row_Truths | exact row_Packet | exact row_Group | exact row_Rule | exact row_Step | exact row_Rgs5 | exact row_Int5))); (case hm => (repeat (first | exact List.mem_cons_self | refine List.mem_cons_of_mem _ ?_))); (case hv => (first | exact tk_boxOne _ | exact tk_box0 _ (by assumption))); (case hs => rfl)) | (refine' ld_one ?ht (hO.roCell3 ?hm ?hv); (case ht => (with_reducible (first | exact one_u32 | exact one_int | exact one_u16 | exact one_u8 | exact one_ints | exact one_bool | exact one_bytes | exact one_u64 | exact one_set | exact one_boxes | exact one_table | exact one_boolT | exact one_rgs))); (case hm => (repeat (first | exact List.mem_cons_self | refine List.mem_cons_of_mem _ ?_))); (case hv => (first | assumption | exact cr_permit _ (by assumption) | exact tcs5_at _ (by assumption) | exact ints_at (by assumption) | exact cb_lo _ (by assumption) (by assumption) | exact cb_hi _ (by assumption) (by assumption) | exact fcs_at _ (by assumption) | exact tops_get (by assumption) | exact bcs_lo _ (by assumption) | exact bcs_hi _ (by assumption) | rfl))) | (refine' ld_one ?ht (hO.roCell4 ?hm ?hv); (case ht => (with_reducible (first | exact one_u32 | exact one_int | exact one_u16 | exact one_u8 | exact one_ints | exact one_bool | exact one_bytes | exact one_u64 | exact one_set | exact one_boxes | exact one_table | exact one_boolT | exact one_rgs))); (case hm => (repeat (first | exact List.mem_cons_self | refine List.mem_cons_of_mem _ ?_))); (case hv => (first | assumption | exact cr_permit _ (by assumption) | exact tcs5_at _ (by assumption) | exact ints_at (by assumption) | exact cb_lo _ (by assumption) (by assumption) | exact cb_hi _ (by assumption) (by assumption) | exact fcs_at _ (by assumption) | exact tops_get (by assumption) | exact bcs_lo _ (by assumption) | exact bcs_hi _ (by assumption) | rfl))) | (refine' ld_row ?ht (hO.rowRange ?hm ?hv) ?hs; (case ht => (with_reducible (first | exact row_Box | exact row_Range | exact row_Header | exact row_Five | exact row_Tape | exact row_Prefix | exact row_Truths | exact row_Packet | exact row_Group | exact row_Rule | exact row_Step | exact row_Rgs5 | exact row_Int5))); (case hm => (repeat (first | exact List.mem_cons_self | refine List.mem_cons_of_mem _ ?_))); (case hv => (first | assumption | exact tk_rg _ (by assumption) | exact tk_box _ (by assumption) | exact tk_rule _ (by assumption) | exact tk_step _ (by assumption) | exact tk_all _)); (case hs => rfl)) | (refine' ld_one ?ht (hO.rowCell ?hm ?hv); (case ht => (with_reducible (first | exact one_u32 | exact one_int | exact one_u16 | exact one_u8 | exact one_ints | exact one_bool | exact one_bytes | exact one_u64 | exact one_set | exact one_boxes | exact one_table | exact one_boolT | exact one_rgs))); (case hm => (repeat (first | exact List.mem_cons_self | refine List.mem_cons_of_mem _ ?_))); (case hv => (first | assumption | exact cr_permit _ (by assumption) | exact tcs5_at _ (by assumption) | exact ints_at (by assumption) | exact cb_lo _ (by assumption) (by assumption) | exact cb_hi _ (by assumption) (by assumption) | exact fcs_at _ (by assumption) | exact tops_get (by assumption) | exact bcs_lo _ (by assumption) | exact bcs_hi _ (by assumption) | rfl))) | (refine' ld_row ?ht (hO.range ?hm ?hv) ?hs; (case ht => (with_reducible (first | exact row_Box | exact row_Range | exact row_Header | exact row_Five | exact row_Tape | exact row_Prefix | exact row_Truths | exact row_Packet | exact row_Group | exact row_Rule | exact row_Step | exact row_Rgs5 | exact row_Int5))); (case hm => (repeat (first | exact List.mem_cons_self | refine List.mem_cons_of_mem _ ?_))); (case hv => (exact tk_front _)); (case hs => rfl)) | (refine' ld_row ?ht (hO.roRange ?hm ?hv) ?hs; (case ht => (with_reducible (first | exact row_Box | exact row_Range | exact row_Header | exact row_Five | exact row_Tape | exact row_Prefix | exact row_Truths | exact row_Packet | exact row_Group | exact row_Rule | exact row_Step | exact row_Rgs5 | exact row_Int5))); (case hm => (repeat (first | exact List.mem_cons_self | refine List.mem_cons_of_mem _ ?_))); (case hv => (exact tk_match _ (by assumption))); (case hs => rfl)) | (refine' ld_row ?ht (hO.roRangeG ?hm ?hv) ?hs; (case ht => (with_reducible (first | exact row_Box | exact row_Range | exact row_Header | exact row_Five | exact row_Tape | exact row_Prefix | exact row_Truths | exact row_Packet | exact row_Group | exact row_Rule | exact row_Step | exact row_Rgs5 | exact row_Int5))); (case hm => (repeat (first | exact List.mem_cons_self | refine List.mem_cons_of_mem _ ?_))); (case hv => (exact tk_match _ (by assumption))); (case hs => rfl)) | (refine' ld_row ?ht (hO.rowRange ?hm ?hv) ?hs; (case ht => (with_reducible (first | exact row_Box | exact row_Range | exact row_Header | exact row_Five | exact row_Tape | exact row_Prefix | exact row_Truths | exact row_Packet | exact row_Group | exact row_Rule | exact row_Step | exact row_Rgs5 | exact row_Int5))); (case hm => (repeat (first | exact List.mem_cons_self | refine List.mem_cons_of_mem _ ?_))); (case hv => (exact tk_match _ (by assumption))); (case hs => rfl)))))
  (h : K (a.put o.dst v)) : o.quiet P a (Own M w0 X R S) K := q_val _ (fun _ hO => rx_ld ho hx (hl _ hO)) h
theorem own_stRQ (hO : Own M w0 X R S w) (hw : Region.wanted o (yielded ops a.tmps) = true := by rfl) {t : TypeId} {x y : Operand} (ho : o.op = .store t x y := by rfl) {n off s : Nat} (hx : a.eval x = .pointer (some ⟨n, off, none⟩) := by rfl)
  {vs : List Value} (hy : a.eval y = .agg vs.toArray := by rfl) (ht : RowT P t s := by (with_reducible (first | exact row_Box | exact row_Range | exact row_Header | exact row_Five | exact row_Tape | exact row_Prefix | exact row_Truths | exact row_Packet | exact row_Group | exact row_Rule | exact row_Step | exact row_Rgs5 | exact row_Int5))) (hs : vs.length = s := by rfl) {cs cs2 : List Value} {t' : TypeId} (hu : Upd X ⟨n, cs, t'⟩ ⟨n, cs2, t'⟩ X' := by (repeat (first | exact Upd.here | apply Upd.there))) (hn : putAt cs off vs = cs2 := by (first | exact bput_rg (by assumption) | exact putAt_all _ _ rfl | rfl)) (hl : off + s ≤ cs.length := by (first | (simp; done) | (show _ < 10; omega) | (show _ < 5; omega) | (show _ ≤ 10; omega) | (show _ ≤ 11; omega) | omega)) (h1 : vs.all (·.oneCell') = true := by rfl)
  (h : ∀ w', Own M w0 X' R S w' → wpList P ops Q rest (a.put o.dst undef) w') : wpList P ops Q (o :: rest) a w := by
 subst hn
 exact own_store hO hw ho hx hy ht hs hu hl h1 h
theorem own_st1Q (hO : Own M w0 X R S w) (hw : Region.wanted o (yielded ops a.tmps) = true := by rfl) {t : TypeId} {x y : Operand} (ho : o.op = .store t x y := by rfl) {n off : Nat} (hx : a.eval x = .pointer (some ⟨n, off, none⟩) := by rfl)
  {v : Value} (hy : a.eval y = v := by (first | exact (rfl : _ = Value.int _ _) | exact (rfl : _ = Value.bool _) | exact (rfl : _ = Value.slice _ _ _) | exact (rfl : _ = Value.pointer _) | exact (rfl : _ = Value.string _))) (ht : OneT P t := by (with_reducible (first | exact one_u32 | exact one_int | exact one_u16 | exact one_u8 | exact one_ints | exact one_bool | exact one_bytes | exact one_u64 | exact one_set | exact one_boxes | exact one_table | exact one_boolT | exact one_rgs))) {cs cs2 : List Value} {t' : TypeId} (hu : Upd X ⟨n, cs, t'⟩ ⟨n, cs2, t'⟩ X' := by (repeat (first | exact Upd.here | apply Upd.there))) (hn : cs.set off v = cs2 := by (first | exact bset_lo (by assumption) | exact bset_hi (by assumption) | exact fset (by assumption) | exact tset (by assumption) | (simp only [List.set_cons_zero, List.set_cons_succ]; done) | rfl)) (hl : off < cs.length := by (first | (simp; done) | (show _ < 10; omega) | (show _ < 5; omega) | (show _ ≤ 10; omega) | (show _ ≤ 11; omega) | omega)) (h1 : v.oneCell' = true := by rfl)
  (h : ∀ w', Own M w0 X' R S w' → wpList P ops Q rest (a.put o.dst undef) w') : wpList P ops Q (o :: rest) a w := by
 subst hn
 exact own_store1 hO hw ho hx hy ht hu hl h1 h
theorem own_alQ (hO : Own M w0 X R S w) (hw : Region.wanted o (yielded ops a.tmps) = true := by rfl) {t : TypeId} (ho : o.op = .alloc t := by rfl) {cs : List Value} (hz : ZeroT P t cs := by (with_reducible (first | exact zero_Step | exact zero_Rgs5 | exact zero_Int5 | exact zero_Rule | exact zero_Group | exact zero_Truths | exact zero_Packet | exact zero_Set | exact zero_Prefix | exact zero_Box | exact zero_Range | exact zero_Five | exact zero_Header)))
  (h : ∀ n w', Own M w0 (⟨n, cs, t⟩ :: X) R S w' → wpList P ops Q rest (a.put o.dst (.pointer (some ⟨n, 0, none⟩))) w') : wpList P ops Q (o :: rest) a w := own_alloc hO hw ho hz h
theorem own_apQ (hO : Own M w0 X R S w) (hgd : o.guard = none := by rfl) {s x : Operand} {t e : TypeId} (ho : o.op = .call { callee := .builtin .append, args := #[s, x], argTypes := #[t, t] } := by rfl) {size bytes : Nat} (ht : SliceT P t e size bytes := by (with_reducible (first | exact slice_Boxes | exact slice_Set | exact slice_u8 | exact slice_u64 | exact slice_Groups | exact slice_Ranges | exact slice_Table | exact slice_Steps)))
  {v : Value} (hs : a.eval s = v := by rfl) {b m c : Nat} (hx : a.eval x = .slice (some ⟨b, 0, none⟩) m c := by rfl) {news : List Value} {t' : TypeId} (hm : (⟨b, news, t'⟩ : Chunk) ∈ X := by (repeat (first | exact List.mem_cons_self | refine List.mem_cons_of_mem _ ?_))) (hl : news.length = m * size := by rfl) (hm0 : 0 < m := by omega) (h1 : news.all (·.oneCell') = true := by rfl)
  {k : Nat} {xs : List Value} {R1 : Nat → Nat → List Row} (hu : ∀ g cap, UpdR R ⟨v, k, xs, e, size⟩ ⟨.slice (some ⟨g, 0, none⟩) (k + m) cap, k + m, xs ++ news, e, size⟩ (R1 g cap) := by (intro _ _; (repeat (first | exact UpdR.here | apply UpdR.there)))) (hbytes : (k + m) * bytes ≤ 140737488355328 := by (first | omega | (simp; omega))) (hk : k + m ≤ maxLen := by (unfold maxLen; (first | omega | (simp; omega))))
  (h : ∀ g cap w', Own M w0 X (R1 g cap) S w' → wpList P ops Q rest (a.put o.dst (.slice (some ⟨g, 0, none⟩) (k + m) cap)) w') : wpList P ops Q (o :: rest) a w :=
 own_append hO hgd ho ht hs hx hm hl hm0 h1 hu hbytes hk h
end
theorem cellsR_setR {l : List Rul} {k : Nat} (h : k < l.length) (b : Rul) : putAt (cellsR l) (k * 11) (rlcs b) = cellsR (l.set k b) := by
 induction l generalizing k with
 | nil => simp at h
 | cons c l ih =>
  cases k with
  | zero =>
   simp only [cellsR, List.set_cons_zero, Nat.zero_mul]
   rfl
  | succ k =>
   simp only [cellsR, List.set_cons_succ]
   rw [← ih (by simpa using h)]
   have h11 : (k + 1) * 11 = (rlcs c).length + k * 11 := by rw [rlcs_length]; omega
   rw [h11]
   generalize rlcs c = xs
   generalize cellsR l = ys
   generalize rlcs b = vs
   generalize k * 11 = q
   clear h11 ih h
   induction xs with
   | nil => simp
   | cons x xs ih => rw [List.cons_append, List.cons_append, ← ih, List.length_cons, show xs.length + 1 + q = (xs.length + q) + 1 by omega, putAt_cons]
def MkTable (w : World) (l : List Rul) (e : Ending) (w' : World) : Prop := ∃ v, e = .returned v ∧ w'.ownsRow w.heap.size 100 11 v l.length (cellsR l) ∧ Below w.heap.size w w'
theorem zone_Rule : ZOne Tryz.prog 100 := by unfold ZOne; kernel_rfl
theorem woF_cells (l : List Rul) (i : Nat) : cellsR (woF l i) = (cellsR l).take (i * 11) ++ (cellsR l).drop ((i + 1) * 11) := by
 unfold woF; rw [cellsR_append, cellsR_take, cellsR_drop]
def widOf : Nat → Int
 | 0 => 32 | 1 => 32 | 2 => 8 | 3 => 16 | _ => 16
abbrev widL : List Value := [.int .i64 32, .int .i64 32, .int .i64 8, .int .i64 16, .int .i64 16]
theorem wid_get {k : Nat} (h : k < 5) : widL[k]? = some (.int .i64 (widOf k)) := by
 rcases five h with rfl | rfl | rfl | rfl | rfl <;> rfl
def Wid (w : World) : Prop := ∀ k, k < 5 → w.cell? ⟨1, k, none⟩ = some (.int .i64 (widOf k))
theorem Wid.lt {w : World} (h : Wid w) : 1 < w.heap.size := World.block_lt_of_cell? w _ (h 0 (by omega))
theorem Own.wid {w0 w : World} {X : List Chunk} {R : List Row} {S : List Ro} {M : List Nat} (hO : Own M w0 X R S w) (hw : Wid w0) (hM : 1 ∉ M) : Wid w := fun k hk => by
 rw [World.cell?_of_block (w := w0) (hO.keep.block _ hw.lt hM)]; exact hw k hk
theorem own_wid {w : World} (hw : Wid w) : Own [] w [] [] [⟨1, 0, widL⟩] w :=
 (own_start [] w).addRo ⟨1, 0, widL⟩ (fun j v hj => by
  have hl := (List.getElem?_eq_some_iff.1 hj).1
  have hl' : j < 5 := hl
  have := hw j hl'
  rw [wid_get hl'] at hj
  cases hj
  simpa using this) (by simp [excl])
set_option maxHeartbeats 8000000 in
theorem cloneT_any {vl : Value} {l : List Rul} (w : World) (hv : IsTable w vl l) (hl : l.length ≤ 1000000000000) :
  Calls Tryz.prog 52 #[vl] w (MkTable w l) := by
 have hO := own_argR hv
 have hv0 := hv
 obtain ⟨a, c, rfl, ha⟩ := hv.view
 clear hv
 cases a with
 | none =>
  have hl0 : l = [] ∧ c = 0 := by
   rcases hv0 with ⟨h', h⟩ | ⟨_, _, _, h, _⟩
   ·exact ⟨h, by simpa [h] using h'⟩
   ·cases h
  obtain ⟨rfl, rfl⟩ := hl0
  have hn : ∀ w, (binOp .eql 24 (.slice none 0 0) (.slice none 0 0)).run Tryz.prog w = .ok (.bool true) w := fun w => Lib.run_eql_slice_nil w _ 100 _ _ _ _ _ Tryz.underlying24
  replace hO := hO.nilRow 100 11
  go_enter Tryz.func52, Tryz.ntmps52
  go_wp2_with fail
  go_ret
  exact ⟨_, rfl, hO.newRow List.mem_cons_self, hO.keep.below⟩
 | some ad =>
  have hsrc := fun (wq : World) (h : Keep [] w wq) => src_table (m := l.length) (hv0.keep h) (Nat.le_refl _)
  rw [List.take_length] at hsrc
  have hn : ∀ w, (binOp .eql 24 (.slice (some ad) l.length c) (.slice none 0 0)).run Tryz.prog w = .ok (.bool false) w := fun w => Lib.run_eql_slice_nil w _ 100 _ _ _ _ _ Tryz.underlying24
  go_enter Tryz.func52, Tryz.ntmps52
  go_wp2_with (first | ((with_reducible refine is_build ?_); (refine own_build0 (o := ⟨some 5, _, _, _, _, _⟩) hO (by rfl) rfl slice_Table ?_); clear hO; intro n5 wv hO) | ((with_reducible refine is_append ?_); (refine own_appendA (o := ⟨some 7, _, _, _, _, _⟩) hO rfl rfl slice_Table rfl rfl (hsrc _ hO.keep) (cellsR_one' _) (fun _ => by repeat (exact UpdR.here)) (by (omega)) (by unfold maxLen; (omega)) ?_); clear hO; intro A7 c7 wv hO))
  go_ret
  simp only [Nat.zero_add, List.nil_append] at hO
  exact ⟨_, rfl, hO.newRow List.mem_cons_self, hO.keep.below⟩
set_option maxHeartbeats 8000000 in
theorem tdelete_any {g c i : Nat} {l : List Rul} (w : World) (hr : w.ownsRow 0 100 11 (.slice (some ⟨g, 0, none⟩) l.length c) l.length (cellsR l)) (hi : i < l.length) (hl : l.length ≤ 1000000000000) :
  Calls Tryz.prog 103 #[.slice (some ⟨g, 0, none⟩) l.length c, .int .i64 i, .int .i64 ((i : Int) + 1)] w fun e w' => e = .returned (.slice (some ⟨g, 0, none⟩) (l.length - 1) c) ∧ Keep [g] w w' ∧ w'.ownsRow 0 100 11 (.slice (some ⟨g, 0, none⟩) (l.length - 1) c) (l.length - 1) (cellsR (woF l i)) := by
 have hO := own_takeRow hr [] (by simp)
 change Own [g] w [] _ [] w at hO
 have hlc : l.length ≤ c := by
  rcases row_form hr with ⟨h, _⟩ | ⟨g', c', h, h2, _⟩
  ·cases h
  ·cases h; exact h2
 clear hr
 have g1 : ((i : Int) == (i : Int) + 1) = false := beq_eq_false_iff_ne.2 (by omega)
 have E := Lib.hid (woF_cells l i)
 have hn := cellsR_length l
 have hone := cellsR_one' l
 obtain ⟨m, hm⟩ : ∃ m, i + 1 + m = l.length := ⟨l.length - (i + 1), by omega⟩
 go_enter Tryz.func103, Tryz.ntmps103
 go_wp2_with fail
 refine wp_region_any (by kernel_rfl) ?_
 replace hO := hO.drew
 have ix9 := Ix.mk [0, 1, 2, 3, 4, 5]
 iterate 6 (refine wpAny_tk ix9 ?_; replace ix9 := ix9.tail; (first | go_big_quiet_skip | (go_big_quiet_want; (go_big_quiet_op; (first | go_big_quiet_on | ((refine ⟨_, fun _ _ => rfl, ?_⟩); go_big_quiet_on))))); (refine wpQuiet_nil ?_); (try simp only [Act.put]); (try simp only [sI9, sZ9, sS9]))
 clear ix9
 refine wpAny_1 6 ?_
 rotate_left 1
 all_goals
  refine wpOp_of_listL rfl ?_
  ((with_reducible refine is_append ?_); (refine own_appendF (o := ⟨some 26, _, _, _, _, _⟩) (xs := cellsR l) (j := i + 1) (n := l.length) hO rfl rfl slice_Table rfl rfl (by split; exact ⟨_, rfl, fun h => absurd h (by omega)⟩; exact ⟨_, rfl, fun _ => rfl⟩) (by omega) (by omega) hone (fun _ => by repeat (exact UpdR.here)) ?_); clear hO; intro zs wv hzs hO); (try simp only [Act.put]); (try simp only [sI9, sZ9, sS9])
  refine wpList_done (qk_intro ?_)
 refine wpAny_1 7 ?_
 rotate_left 1
 all_goals
  refine wpOp_of_listL rfl ?_
  ((refine wpList_step (fun K hK => ?_)); go_simp; ((refine hK _ _ ?_); clear hK K))
  refine wpList_done (qk_intro ?_)
 refine wpAny_done (by kernel_rfl) ?_ _
 rotate_left
 have hW : (cellsR (woF l i)).length = (l.length - 1) * 11 := by rw [cellsR_length, woF_length hi]
 have hm1 : i + (l.length - (i + 1)) = l.length - 1 := by omega
 rw [← E.out] at hO
 have hL : (cellsR (woF l i) ++ zs).length = l.length * 11 := by rw [List.length_append, hW, hzs]; omega
 have HT : (cellsR (woF l i) ++ zs).take ((l.length - 1) * 11) = cellsR (woF l i) := by rw [← hW]; exact List.take_left
 generalize hVz : cellsR (woF l i) ++ zs = Z at *
 all_goals go_wp2_with ((with_reducible refine is_clear ?_); (refine own_clear (xs := Z) hO rfl rfl slice_Table zone_Rule rfl (fun _ => by repeat (exact UpdR.here)) (by omega) (by rw [hL]; omega) ?_); clear hO; intro ys wv hy1 hy2 hO)
 all_goals
  go_ret
  have h5 := row_front (hO.row _ List.mem_cons_self) (m := l.length - 1) (by omega)
  dsimp only at h5
  try rw [hm1] at hy2
  rw [hy2, HT] at h5
  exact ⟨by rw [← hm1]; rfl, hO.keep, by first | exact h5 | (subst_vars; exact h5)⟩
end Go.Proofs.YtbdfblgdmappeaaGreatDoor
namespace Go.Proofs.YtbdfblgdmappeaaGreatDoor
open Go.ChangeShapes Go.WideShapes Go.ChangeAt Go.RowKit
set_option maxRecDepth 100000
section
variable {H : Type} {enc : TypeId × Value → H} {w : World} {base : Nat} {spare : Nat → Bool} {held : Bool}
end
end Go.Proofs.YtbdfblgdmappeaaGreatDoor
