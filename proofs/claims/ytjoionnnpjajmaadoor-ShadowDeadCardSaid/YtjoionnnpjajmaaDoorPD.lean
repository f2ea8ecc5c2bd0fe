/- The reference of findings: Without, Removable, meet, overlap, dead, redundant. -/
import Derived.Test.YtjoionnnpjajmaaDoorPB
import Derived.Test.YtjoionnnpjajmaaDoorOE
import Derived.Test.YtjoionnnpjajmaaDoorMV
import Derived.Test.YtjoionnnpjajmaaDoorMB
namespace Go.Proofs.YtjoionnnpjajmaaDoor
open Go.RowKit
set_option maxRecDepth 100000
set_option maxHeartbeats 4000000 in
theorem rWithout_any {vt : Value} {t : List Rul} {i : Nat} (w : World) (hv : IsTable w vt t) (hi : i < t.length) (hl : t.length ≤ 1000000000000) :
  Calls Tryd.prog 18 #[vt, .int .i64 i] w (RetTable w (woF t i)) := by
 have hO := own_argR hv
 obtain ⟨a, c, rfl, ha⟩ := hv.view
 have hcap := hv.cap
 obtain ⟨g, o, rfl⟩ := ha (by omega)
 have s1 : IntKind.i64.wrap ((i : Int) + 1) = (i : Int) + 1 := IntWalk.i64_in _ (by omega)
 clear ha
 have E := Lib.hid (wo_cells t i (t.length - (i + 1)) (by omega))
 go_enter Tryd.func18, Tryd.ntmps18
 go_wp2_with (first | refine ldNT ?_ | ((first | refine stNT hO ?_ | refine st1NT hO ?_); clear hO; intro wv hO) | (refine ap9T 9 hO ?_; clear hO; intro g9 c9 wv hO) | (refine ap9T 14 hO ?_; clear hO; intro g14 c14 wv hO))
 (try simp only [Act.put]); (try simp only [sI9, sZ9, sS9])
 refine wp_region_any (by kernel_rfl) ?_
 replace hO := hO.drew
 have ix9 := Ix.mk [1, 2, 3, 5, 6, 7, 8]
 iterate 7 (refine wpAny_tk ix9 ?_; replace ix9 := ix9.tail; (first | go_big_quiet_skip | (go_big_quiet_want; (go_big_quiet_op; (first | go_big_quiet_on | ((refine ⟨_, fun _ _ => rfl, ?_⟩); go_big_quiet_on))))); (refine wpQuiet_nil ?_); (try simp only [Act.put]); (try simp only [sI9, sZ9, sS9]))
 clear ix9
 refine wpAny_1 0 ?_
 rotate_left 1
 all_goals
  refine wpOp_of_listL rfl ?_
  (first | refine ldNT ?_ | ((first | refine stNT hO ?_ | refine st1NT hO ?_); clear hO; intro wv hO) | (refine ap9T 9 hO ?_; clear hO; intro g9 c9 wv hO) | (refine ap9T 14 hO ?_; clear hO; intro g14 c14 wv hO) | ((with_reducible refine is_build ?_); (refine own_build0 (o := ⟨some 5, _, _, _, _, _⟩) hO (by rfl) rfl slice_Table ?_); clear hO; intro n5 wv hO) | ((with_reducible refine is_append ?_); (refine own_appendA (o := ⟨some 9, _, _, _, _, _⟩) hO rfl rfl slice_Table rfl rfl (src_table (hv.keep0 hO) (m := i) (by omega)) (cellsR_one' _) (fun _ => by repeat (first | exact UpdR.here | apply UpdR.there)) (by first | omega | (simp; omega)) (by unfold maxLen; first | omega | (simp; omega)) ?_); clear hO; intro g9 c9 wv hO) | ((with_reducible refine is_append ?_); (refine own_appendA (o := ⟨some 14, _, _, _, _, _⟩) hO rfl rfl slice_Table rfl rfl (src_part (hv.keep0 hO) (i := i + 1) (n := t.length - (i + 1)) (by omega)) (cellsR_one' _) (fun _ => by repeat (first | exact UpdR.here | apply UpdR.there)) (by first | omega | (simp; omega)) (by unfold maxLen; first | omega | (simp; omega)) ?_); clear hO; intro g14 c14 wv hO) | ((refine wpList_step (fun K hK => ?_)); go_simp; (first | ((refine hK _ _ ?_); clear hK K)))); (try simp only [Act.put]); (try simp only [sI9, sZ9, sS9])
  refine wpList_done (qk_intro ?_)
 refine wpAny_1 4 ?_
 rotate_left 1
 all_goals
  refine wpOp_of_listL rfl ?_
  (first | refine ldNT ?_ | ((first | refine stNT hO ?_ | refine st1NT hO ?_); clear hO; intro wv hO) | (refine ap9T 9 hO ?_; clear hO; intro g9 c9 wv hO) | (refine ap9T 14 hO ?_; clear hO; intro g14 c14 wv hO) | ((with_reducible refine is_build ?_); (refine own_build0 (o := ⟨some 5, _, _, _, _, _⟩) hO (by rfl) rfl slice_Table ?_); clear hO; intro n5 wv hO) | ((with_reducible refine is_append ?_); (refine own_appendA (o := ⟨some 9, _, _, _, _, _⟩) hO rfl rfl slice_Table rfl rfl (src_table (hv.keep0 hO) (m := i) (by omega)) (cellsR_one' _) (fun _ => by repeat (first | exact UpdR.here | apply UpdR.there)) (by first | omega | (simp; omega)) (by unfold maxLen; first | omega | (simp; omega)) ?_); clear hO; intro g9 c9 wv hO) | ((with_reducible refine is_append ?_); (refine own_appendA (o := ⟨some 14, _, _, _, _, _⟩) hO rfl rfl slice_Table rfl rfl (src_part (hv.keep0 hO) (i := i + 1) (n := t.length - (i + 1)) (by omega)) (cellsR_one' _) (fun _ => by repeat (first | exact UpdR.here | apply UpdR.there)) (by first | omega | (simp; omega)) (by unfold maxLen; first | omega | (simp; omega)) ?_); clear hO; intro g14 c14 wv hO) | ((refine wpList_step (fun K hK => ?_)); go_simp; (first | ((refine hK _ _ ?_); clear hK K)))); (try simp only [Act.put]); (try simp only [sI9, sZ9, sS9])
  refine wpList_done (qk_intro ?_)
 refine wpAny_1 9 ?_
 rotate_left 1
 all_goals
  refine wpOp_of_listL rfl ?_
  (first | refine ldNT ?_ | ((first | refine stNT hO ?_ | refine st1NT hO ?_); clear hO; intro wv hO) | (refine ap9T 9 hO ?_; clear hO; intro g9 c9 wv hO) | (refine ap9T 14 hO ?_; clear hO; intro g14 c14 wv hO) | ((with_reducible refine is_build ?_); (refine own_build0 (o := ⟨some 5, _, _, _, _, _⟩) hO (by rfl) rfl slice_Table ?_); clear hO; intro n5 wv hO) | ((with_reducible refine is_append ?_); (refine own_appendA (o := ⟨some 9, _, _, _, _, _⟩) hO rfl rfl slice_Table rfl rfl (src_table (hv.keep0 hO) (m := i) (by omega)) (cellsR_one' _) (fun _ => by repeat (first | exact UpdR.here | apply UpdR.there)) (by first | omega | (simp; omega)) (by unfold maxLen; first | omega | (simp; omega)) ?_); clear hO; intro g9 c9 wv hO) | ((with_reducible refine is_append ?_); (refine own_appendA (o := ⟨some 14, _, _, _, _, _⟩) hO rfl rfl slice_Table rfl rfl (src_part (hv.keep0 hO) (i := i + 1) (n := t.length - (i + 1)) (by omega)) (cellsR_one' _) (fun _ => by repeat (first | exact UpdR.here | apply UpdR.there)) (by first | omega | (simp; omega)) (by unfold maxLen; first | omega | (simp; omega)) ?_); clear hO; intro g14 c14 wv hO) | ((refine wpList_step (fun K hK => ?_)); go_simp; (first | ((refine hK _ _ ?_); clear hK K)))); (try simp only [Act.put]); (try simp only [sI9, sZ9, sS9])
  refine wpList_done (qk_intro ?_)
 refine wpAny_1 10 ?_
 rotate_left 1
 all_goals
  refine wpOp_of_listL rfl ?_
  (first | refine ldNT ?_ | ((first | refine stNT hO ?_ | refine st1NT hO ?_); clear hO; intro wv hO) | (refine ap9T 9 hO ?_; clear hO; intro g9 c9 wv hO) | (refine ap9T 14 hO ?_; clear hO; intro g14 c14 wv hO) | ((with_reducible refine is_build ?_); (refine own_build0 (o := ⟨some 5, _, _, _, _, _⟩) hO (by rfl) rfl slice_Table ?_); clear hO; intro n5 wv hO) | ((with_reducible refine is_append ?_); (refine own_appendA (o := ⟨some 9, _, _, _, _, _⟩) hO rfl rfl slice_Table rfl rfl (src_table (hv.keep0 hO) (m := i) (by omega)) (cellsR_one' _) (fun _ => by repeat (first | exact UpdR.here | apply UpdR.there)) (by first | omega | (simp; omega)) (by unfold maxLen; first | omega | (simp; omega)) ?_); clear hO; intro g9 c9 wv hO) | ((with_reducible refine is_append ?_); (refine own_appendA (o := ⟨some 14, _, _, _, _, _⟩) hO rfl rfl slice_Table rfl rfl (src_part (hv.keep0 hO) (i := i + 1) (n := t.length - (i + 1)) (by omega)) (cellsR_one' _) (fun _ => by repeat (first | exact UpdR.here | apply UpdR.there)) (by first | omega | (simp; omega)) (by unfold maxLen; first | omega | (simp; omega)) ?_); clear hO; intro g14 c14 wv hO) | ((refine wpList_step (fun K hK => ?_)); go_simp; (first | ((refine hK _ _ ?_); clear hK K)))); (try simp only [Act.put]); (try simp only [sI9, sZ9, sS9])
  refine wpList_done (qk_intro ?_)
 refine wpAny_done (by kernel_rfl) ?_ _
 rotate_left
 all_goals go_wp2_with fail
 all_goals
  go_ret
  simp only [Nat.zero_add, List.nil_append] at hO
  rw [E.out] at hO
  exact ⟨_, rfl, ⟨own_table hO List.mem_cons_self, own_new hO List.mem_cons_self⟩, hO.keep.below⟩
end Go.Proofs.YtjoionnnpjajmaaDoor
