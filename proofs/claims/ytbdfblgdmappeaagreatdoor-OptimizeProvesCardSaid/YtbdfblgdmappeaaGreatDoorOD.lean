/- Package filter: Prune, Differ. -/
import Derived.Test.YtbdfblgdmappeaaGreatDoorOC
import Derived.Test.YtbdfblgdmappeaaGreatDoorNC
namespace Go.Proofs.YtbdfblgdmappeaaGreatDoor
open Go.RowKit
set_option maxRecDepth 100000
def TabPost (w : World) (r : Option (List Rul)) (e : Ending) (w' : World) : Prop := ∃ v, Below w.heap.size w w' ∧ ((∃ l, r = some l ∧ e = .returned (.tuple #[v, .int .i64 0]) ∧ IsTable w' v l ∧ NewFrom w v) ∨ (r = none ∧ e = .returned (.tuple #[.slice none 0 0, .int .i64 3])))
theorem TabPost.yes {w w' : World} {l : List Rul} {e : Ending} (h : TabPost w (some l) e w') : ∃ v, e = .returned (.tuple #[v, .int .i64 0]) ∧ IsTable w' v l ∧ NewFrom w v ∧ Below w.heap.size w w' := by
 obtain ⟨v, hb, ⟨l', h1, h2, h3, h4⟩ | ⟨h1, _⟩⟩ := h
 ·cases h1; exact ⟨v, h2, h3, h4, hb⟩
 ·cases h1
theorem TabPost.no {w w' : World} {e : Ending} (h : TabPost w none e w') : e = .returned (.tuple #[.slice none 0 0, .int .i64 3]) ∧ Below w.heap.size w w' := by
 obtain ⟨v, hb, ⟨l', h1, h2, h3, h4⟩ | ⟨_, h1⟩⟩ := h
 ·cases h1
 ·exact ⟨h1, hb⟩
def ecdT (r : Option (List Rul)) : Int := match r with
 | none => 3
 | some _ => 0
theorem TabPost.uni {w w' : World} {r : Option (List Rul)} {e : Ending} (h : TabPost w r e w') : ∃ v, e = .returned (.tuple #[v, .int .i64 (ecdT r)]) ∧ IsTable w' v (r.getD []) ∧ NewFrom w v ∧ Below w.heap.size w w' := by
 obtain ⟨v, hb, ⟨l, rfl, h2, h3, h4⟩ | ⟨rfl, h2⟩⟩ := h
 ·exact ⟨v, h2, h3, h4, hb⟩
 ·exact ⟨_, h2, .inl ⟨rfl, rfl⟩, fun g hg => (by cases hg), hb⟩
theorem results_cell_tmp2 {fn : Func} {p u x : Tmp} {ty : TypeId} (h : fn.results = #[.cell p ty, .tmp u, .tmp x]) (tmps : Array Value) (P : Program) (w : World) :
  (results fn tmps).run P w = ((asAddr (tmps.getD p undef)).run P w).andThen fun a w1 => ((loadVar ty a).run P w1).andThen fun v w2 => .ok (.tuple #[v, tmps.getD u undef, tmps.getD x undef]) w2 := by
 simp only [results, h]
 simp [Sem.run_bind, Result.andThen]
theorem own_res_cell_tmp2 {P : Program} {M : List Nat} {w0 w : World} {X : List Chunk} {R : List Row} {S : List Ro} {fn : Func} {p u x n : Nat} {ty : TypeId} (hO : Own M w0 X R S w) (h : fn.results = #[.cell p ty, .tmp u, .tmp x]) {tmps : Array Value} (hp : tmps.getD p undef = .pointer (some ⟨n, 0, none⟩)) {cs : List Value} {t' : TypeId}
  (hm : (⟨n, cs, t'⟩ : Chunk) ∈ X) {s : Nat} (ht : RowT P ty s) (hs : cs.length = s) {v v2 : Value} (hv : tmps.getD u undef = v) (hv2 : tmps.getD x undef = v2) : (results fn tmps).run P w = .ok (.tuple #[.agg cs.toArray, v, v2]) w := by
 obtain ⟨d, hu, hd, hi⟩ := ht
 rw [results_cell_tmp2 h, hp]
 simp only [asAddr, Sem.run_pure, Result.andThen_ok]
 rw [run_loadVar_row w n t' ty cs.toArray (0, 0) d (hO.chunk _ hm) hu (by cases d <;> simp_all) (by simpa [hs] using hi), hv, hv2]
 rfl
def difF (t u : List Rul) : Hd × Bool × Int := match permF t with
 | none => (⟨0, 0, 0, 0, 0⟩, false, 3)
 | some a => match permF u with
  | none => (⟨0, 0, 0, 0, 0⟩, false, 3)
  | some b => (firstH (canonF xorB 0 5 (valF a) (valF b)), !(canonF xorB 0 5 (valF a) (valF b)).isEmpty, 0)
set_option maxHeartbeats 8000000 in
theorem fDiffer_any {vt vu : Value} {t u : List Rul} (w : World) (ht : Tops w) (hvt : IsTable w vt t) (hvu : IsTable w vu u) (kt : okT t) (ku : okT u) (nt : t.length ≤ 1000000000000) (nu : u.length ≤ 1000000000000) :
  Calls Tryz.prog 24 #[vt, vu] w fun e w' => e = .returned (.tuple #[hv (difF t u).1, .bool (difF t u).2.1, .int .i64 (difF t u).2.2]) ∧ Below w.heap.size w w' := by
 have hO := own_start [] w
 have h1 := fun w ht hv => fPermitted_any (vt := vt) (t := t) w ht hv kt nt
 have h2 := fun w ht hv => fPermitted_any (vt := vu) (t := u) w ht hv ku nu
 unfold difF
 cases hp : permF t with
 | none =>
  rw [hp] at h1
  clear hp h2
  go_enter Tryz.func24, Tryz.ntmps24
  go_wp2_with (first | (refine stNT hO ?_; clear hO; intro wv hO) | (refine al9T 4 hO ?_; clear hO; intro n4 wv hO) | (go_at_call 56; (with_reducible refine (h1 _ (hO.tops ht (by simp)) (hvt.keep0 hO)).mono ?_); rintro e wv hpo; obtain ⟨rfl, hb9⟩ := hpo.no; replace hO := hO.call hb9; clear hb9 hpo))
  exact bodyPost_ret (own_res_cell_tmp2 hO Tryz.results24 rfl List.mem_cons_self (by (exact row_len (by (with_reducible (exact row_Header))) (by rfl))) rfl rfl rfl) rfl ⟨rfl, hO.keep.below⟩
 | some a =>
  rw [hp] at h1
  have hsa := (permF_spec kt hp).1
  clear hp
  dsimp only
  cases hq : permF u with
  | none =>
   rw [hq] at h2
   clear hq
   go_enter Tryz.func24, Tryz.ntmps24
   go_wp2_with (first | (refine stNT hO ?_; clear hO; intro wv hO) | (refine al9T 4 hO ?_; clear hO; intro n4 wv hO) | (go_at_call 56; (with_reducible refine (h1 _ (hO.tops ht (by simp)) (hvt.keep0 hO)).mono ?_); rintro e wv hpo; obtain ⟨v8, rfl, hv9, hn9, hb9⟩ := hpo.yes; have hf8 := hv9.form; replace hO := hO.gainB hb9 hv9 hn9; clear hb9 hv9 hpo hn9) | (go_at_call 56; (with_reducible refine (h2 _ (hO.tops ht (by simp)) (hvu.keep0 hO)).mono ?_); rintro e wv hpo; obtain ⟨rfl, hb9⟩ := hpo.no; replace hO := hO.call hb9; clear hb9 hpo))
   exact bodyPost_ret (own_res_cell_tmp2 hO Tryz.results24 rfl List.mem_cons_self (by (exact row_len (by (with_reducible (exact row_Header))) (by rfl))) rfl rfl rfl) rfl ⟨rfl, hO.keep.below⟩
  | some b =>
   rw [hq] at h2
   have hsb := (permF_spec ku hq).1
   clear hq
   dsimp only
   have h3 := fun v1 v2 w ht h1 h2 => psDiffer_any (va := v1) (vb := v2) (la := a) (lb := b) w ht h1 h2 hsa.ok hsb.ok hsa.le hsb.le
   generalize firstH (canonF xorB 0 5 (valF a) (valF b)) = fh at *
   generalize (!(canonF xorB 0 5 (valF a) (valF b)).isEmpty) = fb at *
   go_enter Tryz.func24, Tryz.ntmps24
   go_wp2_with (first | refine ldNT ?_ | (refine stNT hO ?_; clear hO; intro wv hO) | (refine al9T 4 hO ?_; clear hO; intro n4 wv hO) | (refine al9T 10 hO ?_; clear hO; intro n10 wv hO) | (go_at_call 56; (with_reducible refine (h1 _ (hO.tops ht (by simp)) (hvt.keep0 hO)).mono ?_); rintro e wv hpo; obtain ⟨v8, rfl, hv9, hn9, hb9⟩ := hpo.yes; have hf8 := hv9.form; replace hO := hO.gainB hb9 hv9 hn9; clear hb9 hv9 hpo hn9) | (go_at_call 56; (with_reducible refine (h2 _ (hO.tops ht (by simp)) (hvu.keep0 hO)).mono ?_); rintro e wv hpo; obtain ⟨v7, rfl, hv9, hn9, hb9⟩ := hpo.yes; have hf7 := hv9.form; replace hO := hO.gainB hb9 hv9 hn9; clear hb9 hv9 hpo hn9) | (go_at_call 57; (with_reducible refine (h3 _ _ _ (hO.tops ht (by simp)) (hO.isB hf8 (fun q hq => List.mem_append_right _ (List.mem_append_left _ hq))) (hO.isB hf7 (fun q hq => List.mem_append_left _ hq))).mono ?_); rintro e wv ⟨rfl, hb9⟩; replace hO := hO.call hb9; clear hb9))
   exact bodyPost_ret (own_res_cell_tmp2 hO Tryz.results24 rfl (by (repeat (first | exact List.mem_cons_self | refine List.mem_cons_of_mem _ ?_))) (by (exact row_len (by (with_reducible (exact row_Header))) (by rfl))) rfl rfl rfl) rfl ⟨rfl, hO.keep.below⟩
end Go.Proofs.YtbdfblgdmappeaaGreatDoor
