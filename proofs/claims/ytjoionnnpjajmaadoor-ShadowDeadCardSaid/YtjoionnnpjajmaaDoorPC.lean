/- An append in place, of a slice's own end; slices.Delete of numbers. -/
import Derived.Test.YtjoionnnpjajmaaDoorPA
import Derived.Test.YtjoionnnpjajmaaDoorMC
import Derived.Test.YtjoionnnpjajmaaDoorPB
import Derived.Test.YtjoionnnpjajmaaDoorOC
import Derived.Test.YtjoionnnpjajmaaDoorMA
namespace Go.Proofs.YtjoionnnpjajmaaDoor
open Go.RowKit
set_option maxRecDepth 100000
section
variable {P : Program} {ops : Array Oper} {rest : List Oper} {o : Oper} {a : Act} {w w0 w' : World} {Q : Exit → Act → World → Prop} {M : List Nat} {X X' : List Chunk} {R R' : List Row} {S : List Ro}
theorem row_front {base size n m g c : Nat} {e : TypeId} {xs : List Value} (h : w.ownsRow base e size (.slice (some ⟨g, 0, none⟩) n c) n xs) (hm : m ≤ n) : w.ownsRow base e size (.slice (some ⟨g, 0, none⟩) m c) m (xs.take (m * size)) := by
 have hle : m * size ≤ n * size := Nat.mul_le_mul_right _ hm
 rcases h.2 with ⟨h1, _⟩ | ⟨g', c', cur, h1, hb, hg, hnc, hcm, hcs, ht⟩
 ·cases h1
 ·cases h1
  refine ⟨by rw [List.length_take, h.1]; omega, .inr ⟨g, c, cur, rfl, hb, hg, by omega, hcm, hcs, ?_⟩⟩
  rw [← ht, List.take_take, Nat.min_eq_left hle]
theorem row_more {base size n m g c : Nat} {e : TypeId} {xs : List Value} (h : w.ownsRow base e size (.slice (some ⟨g, 0, none⟩) n c) n xs) (hm : n ≤ m) (hc : m ≤ c) : ∃ zs, zs.length = (m - n) * size ∧ w.ownsRow base e size (.slice (some ⟨g, 0, none⟩) m c) m (xs ++ zs) := by
 have hle : n * size ≤ m * size := Nat.mul_le_mul_right _ hm
 have hlc : m * size ≤ c * size := Nat.mul_le_mul_right _ hc
 have hs : (m - n) * size = m * size - n * size := Nat.sub_mul ..
 rcases h.2 with ⟨h1, _⟩ | ⟨g', c', cur, h1, hb, hg, hnc, hcm, hcs, ht⟩
 ·cases h1
 ·cases h1
  have hcl : cur.toList.length = c * size := by simpa using hcs
  refine ⟨(cur.toList.take (m * size)).drop (n * size), by rw [List.length_drop, List.length_take, hcl]; omega, ?_, .inr ⟨g, c, cur, rfl, hb, hg, hc, hcm, hcs, ?_⟩⟩
  ·rw [List.length_append, h.1, List.length_drop, List.length_take, hcl]; omega
  ·have h9 := List.take_append_drop (n * size) (cur.toList.take (m * size))
   rw [List.take_take, Nat.min_eq_left hle, ht] at h9
   exact h9.symm
theorem own_appendF (hO : Own M w0 X R S w) (hgd : o.guard = none) {s x : Operand} {t e : TypeId} (ho : o.op = .call { callee := .builtin .append, args := #[s, x], argTypes := #[t, t] }) {size bytes : Nat} (ht : SliceT P t e size bytes)
  {g n c i j m c' : Nat} {A : Option Addr} {xs : List Value} (hs : a.eval s = .slice (some ⟨g, 0, none⟩) i c) (hx : a.eval x = .slice A m c') (hA : ∃ ad, A = some ad ∧ (0 < m → ad = ⟨g, j * size, none⟩)) (hjm : j + m = n) (him : i + m ≤ n) (h1 : xs.all (·.oneCell') = true)
  {R1 : List Value → List Row} (hu : ∀ ys, UpdR R ⟨.slice (some ⟨g, 0, none⟩) n c, n, xs, e, size⟩ ⟨.slice (some ⟨g, 0, none⟩) n c, n, ys, e, size⟩ (R1 ys))
  (h : ∀ zs w', zs.length = (n - (i + m)) * size → Own M w0 X (R1 ((xs.take (i * size) ++ xs.drop (j * size)) ++ zs)) S w' → wpList P ops Q rest (a.put o.dst (.slice (some ⟨g, 0, none⟩) (i + m) c)) w') : wpList P ops Q (o :: rest) a w := by
 obtain ⟨hu1, hsz, inf, z, hi, hz, hi1, hi2, hz1⟩ := ht
 obtain ⟨ad, rfl, had⟩ := hA
 have hrow := hO.row ⟨.slice (some ⟨g, 0, none⟩) n c, n, xs, e, size⟩ (hu xs).mem
 have hrow' : w.ownsRow 0 e size (.slice (some ⟨g, 0, none⟩) n c) n xs := hrow
 have hnc : n ≤ c := by
  rcases row_form hrow' with ⟨h9, _⟩ | ⟨g', c9, h9, h8, _⟩
  ·cases h9
  ·cases h9; exact h8
 have hfr := row_front hrow' (m := i) (by omega)
 have hl : (xs.drop (j * size)).length = m * size := by
  rw [List.length_drop, hrow'.1, ← hjm, Nat.add_mul]; omega
 obtain ⟨w', hr, h2, h3⟩ := run_append_fits (P := P) w 0 t o.type e inf size hu1 hi hi1 g i c _ hfr ad m c' (xs.drop (j * size)) hl (fun k u hk => by
  have hm0 : 0 < m := by
   rcases Nat.eq_zero_or_pos m with h | h
   ·rw [h, Nat.zero_mul] at hl
    rw [List.eq_nil_of_length_eq_zero hl] at hk
    cases hk
   ·exact h
  rw [had hm0]
  have hadd : (⟨g, j * size, none⟩ : Addr).add k = ⟨g, j * size + k, none⟩ := by
   unfold Addr.add
   by_cases h : k = 0
   ·rw [if_pos h, h]; rfl
   ·rw [if_neg h]
  rw [hadd]
  rw [List.getElem?_drop] at hk
  exact hO.rowCell (hu xs).mem hk) (fun u hu' => List.all_eq_true.1 h1 u (List.mem_of_mem_drop hu')) (by omega)
 obtain ⟨zs, hz2, h4⟩ := row_more h2 him hnc
 refine wpList_plain hgd fun K hK => ?_
 unfold Oper.wp execOp
 simp only [ho, resolve, invoke, builtin, Sem.run_bind, Sem.run_pure, Result.andThen_ok, List.map_toArray, List.map_cons, List.map_nil, hs, hx, hr]
 refine hK _ _ (h zs w' hz2 ?_)
 obtain ⟨A1, B1, hR, hR'⟩ := (hu ((xs.take (i * size) ++ xs.drop (j * size)) ++ zs)).split
 rw [hR']
 exact Own.grow (r := ⟨.slice (some ⟨g, 0, none⟩) n c, n, xs, e, size⟩) (hR ▸ hO) h3 h4 fun g' hg' => .inl hg'
theorem Own.afterRow2 (hO : Own M w0 X R S w) {v v' : Value} {k k' size : Nat} {xs ys : List Value} {e : TypeId} (hu : UpdR R ⟨v, k, xs, e, size⟩ ⟨v', k', ys, e, size⟩ R') (hk : Keep v.ownBlock.toList w w') (hr : w'.ownsRow 0 e size v' k' ys) (hv : v'.ownBlock = v.ownBlock) : Own M w0 X R' S w' := by
 obtain ⟨A, B, rfl, rfl⟩ := hu.split
 exact hO.grow (r := ⟨v, k, xs, e, size⟩) (r' := ⟨v', k', ys, e, size⟩) (grown_of_keep hk) hr fun g hg => .inl (hv ▸ hg)
end
theorem rowview11 {w : World} {base size k : Nat} {v : Value} {xs : List Value} {e : TypeId} (h : w.ownsRow base e size v k xs) : ∃ a c, v = .slice a k c ∧ (0 < k → ∃ g, a = some ⟨g, 0, none⟩) := by
 rcases row_form h with ⟨rfl, rfl⟩ | ⟨g, c, rfl, _, _⟩
 ·exact ⟨none, 0, rfl, fun h => absurd h (by omega)⟩
 ·exact ⟨_, c, rfl, fun _ => ⟨g, rfl⟩⟩
theorem zone_int : ZOne Tryd.prog 3 := by unfold ZOne; kernel_rfl
theorem woF_ints (l : List Int) (i : Nat) : ints (woF l i) = (ints l).take i ++ (ints l).drop (i + 1) := by
 unfold ints; rw [woF_map]; rfl
set_option maxHeartbeats 8000000 in
theorem sdelete_any {g c i : Nat} {l : List Int} (w : World) (hr : w.ownsRow 0 3 1 (.slice (some ⟨g, 0, none⟩) l.length c) l.length (ints l)) (hi : i < l.length) (hl : l.length ≤ 140737488355328) :
  Calls Tryd.prog 26 #[.slice (some ⟨g, 0, none⟩) l.length c, .int .i64 i, .int .i64 ((i : Int) + 1)] w fun e w' => e = .returned (.slice (some ⟨g, 0, none⟩) (l.length - 1) c) ∧ Keep [g] w w' ∧ w'.ownsRow 0 3 1 (.slice (some ⟨g, 0, none⟩) (l.length - 1) c) (l.length - 1) (ints (woF l i)) := by
 have hO := own_takeRow hr [] (by simp)
 change Own [g] w [] _ [] w at hO
 have hlc : l.length ≤ c := by
  rcases row_form hr with ⟨h, _⟩ | ⟨g', c', h, h2, _⟩
  ·cases h
  ·cases h; exact h2
 clear hr
 have g1 : ((i : Int) == (i : Int) + 1) = false := beq_eq_false_iff_ne.2 (by omega)
 have E := Lib.hid (woF_ints l i)
 have hn := ints_len l
 have hone := ints_one l
 obtain ⟨m, hm⟩ : ∃ m, i + 1 + m = l.length := ⟨l.length - (i + 1), by omega⟩
 go_enter Tryd.func26, Tryd.ntmps26
 go_wp2_with (first | refine ldNT ?_ | ((first | refine stNT hO ?_ | refine st1NT hO ?_); clear hO; intro wv hO) | (refine ap9T 26 hO ?_; clear hO; intro g26 c26 wv hO))
 (try simp only [Act.put]); (try simp only [sI9, sZ9, sS9])
 refine wp_region_any (by kernel_rfl) ?_
 replace hO := hO.drew
 have ix9 := Ix.mk [0, 1, 2, 3, 4, 5]
 iterate 6 (refine wpAny_tk ix9 ?_; replace ix9 := ix9.tail; (first | go_big_quiet_skip | (go_big_quiet_want; (go_big_quiet_op; (first | go_big_quiet_on | ((refine ⟨_, fun _ _ => rfl, ?_⟩); go_big_quiet_on))))); (refine wpQuiet_nil ?_); (try simp only [Act.put]); (try simp only [sI9, sZ9, sS9]))
 clear ix9
 refine wpAny_1 6 ?_
 rotate_left 1
 all_goals
  refine wpOp_of_listL rfl ?_
  (first | refine ldNT ?_ | ((first | refine stNT hO ?_ | refine st1NT hO ?_); clear hO; intro wv hO) | (refine ap9T 26 hO ?_; clear hO; intro g26 c26 wv hO) | ((with_reducible refine is_append ?_); (refine own_appendF (o := ⟨some 26, _, _, _, _, _⟩) (xs := ints l) (j := i + 1) (n := l.length) hO rfl rfl slice_Ints rfl rfl (by split; exact ⟨_, rfl, fun h => absurd h (by omega)⟩; exact ⟨_, rfl, fun _ => by rw [Nat.mul_one]⟩) (by omega) (by omega) hone (fun _ => by repeat (first | exact UpdR.here | apply UpdR.there)) ?_); clear hO; intro zs wv hzs hO) | ((refine wpList_step (fun K hK => ?_)); go_simp; (first | ((refine hK _ _ ?_); clear hK K)))); (try simp only [Act.put]); (try simp only [sI9, sZ9, sS9])
  refine wpList_done (qk_intro ?_)
 refine wpAny_1 7 ?_
 rotate_left 1
 all_goals
  refine wpOp_of_listL rfl ?_
  (first | refine ldNT ?_ | ((first | refine stNT hO ?_ | refine st1NT hO ?_); clear hO; intro wv hO) | (refine ap9T 26 hO ?_; clear hO; intro g26 c26 wv hO) | ((with_reducible refine is_append ?_); (refine own_appendF (o := ⟨some 26, _, _, _, _, _⟩) (xs := ints l) (j := i + 1) (n := l.length) hO rfl rfl slice_Ints rfl rfl (by split; exact ⟨_, rfl, fun h => absurd h (by omega)⟩; exact ⟨_, rfl, fun _ => by rw [Nat.mul_one]⟩) (by omega) (by omega) hone (fun _ => by repeat (first | exact UpdR.here | apply UpdR.there)) ?_); clear hO; intro zs wv hzs hO) | ((refine wpList_step (fun K hK => ?_)); go_simp; (first | ((refine hK _ _ ?_); clear hK K)))); (try simp only [Act.put]); (try simp only [sI9, sZ9, sS9])
  refine wpList_done (qk_intro ?_)
 refine wpAny_done (by kernel_rfl) ?_ _
 rotate_left
 have hW : (ints (woF l i)).length = l.length - 1 := by rw [ints_len, woF_length hi]
 have hm1 : i + (l.length - (i + 1)) = l.length - 1 := by omega
 simp only [Nat.mul_one] at hO hzs
 rw [← E.out] at hO
 have hL : (ints (woF l i) ++ zs).length = l.length := by rw [List.length_append, hW, hzs]; omega
 have HT : (ints (woF l i) ++ zs).take (l.length - 1) = ints (woF l i) := by rw [← hW]; exact List.take_left
 generalize hVz : ints (woF l i) ++ zs = Z at *
 all_goals go_wp2_with (first | refine ldNT ?_ | ((first | refine stNT hO ?_ | refine st1NT hO ?_); clear hO; intro wv hO) | (refine ap9T 26 hO ?_; clear hO; intro g26 c26 wv hO) | ((with_reducible refine is_clear ?_); (refine own_clear (xs := Z) hO rfl rfl slice_Ints zone_int rfl (fun _ => by repeat (first | exact UpdR.here | apply UpdR.there)) (by omega) (by rw [hL]; omega) ?_); clear hO; intro ys wv hy1 hy2 hO))
 all_goals
  go_ret
  have h5 := row_front (hO.row _ List.mem_cons_self) (m := l.length - 1) (by omega)
  dsimp only at h5
  rw [Nat.mul_one, hy2, HT] at h5
  exact ⟨by rw [← hm1]; rfl, hO.keep, by first | exact h5 | (subst_vars; exact h5)⟩
def anE (r : Option (List Fnd)) : Int := match r with | none => 3 | some _ => 0
def anR (t : List Rul) : List Fnd × Int := if validT t = true then ((anF t t.length).getD [], anE (anF t t.length)) else ([], 1)
def AnPost (w : World) (r : List Fnd × Int) (e : Ending) (w' : World) : Prop := ∃ v ps, e = .returned (.tuple #[v, .int .i64 r.2]) ∧ ps.map (·.1) = r.1 ∧ IsFinds w w' v ps ∧ Below w.heap.size w w'
theorem finds_nil (w w' : World) : IsFinds w w' (.slice none 0 0) [] := ⟨.inl ⟨rfl, rfl, rfl⟩, fun g hg => (by cases hg), fun p hp => by cases hp⟩
theorem anF_dead1 {t : List Rul} {k : Nat} {l : List Fnd} (hk : k < t.length) (hl : anF t k = some l) (hs : effF t k = some []) : anF t (k + 1) = some (l ++ [((k : Int), 1, befT t[k].1 t k)]) := by
 rw [anF, hl]
 dsimp only
 unfold anS
 rw [List.getElem?_eq_getElem hk]
 dsimp only
 rw [stF_dead hs]
 rfl
theorem anF_some {t : List Rul} {k : Nat} {l : List Fnd} {e : List Bx} (hk : k < t.length) (hl : anF t k = some l) (hs : stF t k = some (e, false)) (h0 : e.isEmpty = false) : anF t (k + 1) = some (l ++ excL k (excF t[k] (t.drop (k + 1)) (k + 1))) := by
 rw [anF, hl]
 dsimp only
 unfold anS
 rw [List.getElem?_eq_getElem hk]
 dsimp only
 rw [hs]
 dsimp only
 rw [if_neg (by rw [h0]; simp), if_neg (by simp)]
theorem anF_red {t : List Rul} {k : Nat} {l : List Fnd} {e : List Bx} {hs' : List Int} (hk : k < t.length) (hl : anF t k = some l) (hs : stF t k = some (e, true)) (h0 : e.isEmpty = false) (hh : heirN (woF t k) e k (t.length - 1 - k) = some hs') : anF t (k + 1) = some ((l ++ [((k : Int), 2, hs')]) ++ excL k (excF t[k] (t.drop (k + 1)) (k + 1))) := by
 rw [anF, hl]
 dsimp only
 unfold anS
 rw [List.getElem?_eq_getElem hk]
 dsimp only
 rw [hs]
 dsimp only
 rw [if_neg (by rw [h0]; simp), if_pos rfl, hh]
 simp
theorem anF_redN {t : List Rul} {k m : Nat} {e : List Bx} (hk : k < t.length) (hm : k < m) (hs : stF t k = some (e, true)) (h0 : e.isEmpty = false) (hh : heirN (woF t k) e k (t.length - 1 - k) = none) : anF t m = none := by
 refine anF_up (n := k + 1) ?_ hm
 rw [anF]
 cases anF t k with
 | none => rfl
 | some l =>
  dsimp only
  unfold anS
  rw [List.getElem?_eq_getElem hk]
  dsimp only
  rw [hs]
  dsimp only
  rw [if_neg (by rw [h0]; simp), if_pos rfl, hh]
set_option maxHeartbeats 32000000 in
theorem sAnalyze_any {vt : Value} {t : List Rul} (w : World) (ht : Tops w) (hv : IsTable w vt t) (kt : okT t) (hl : t.length ≤ 1000000000000) :
  Calls Tryd.prog 13 #[vt] w (AnPost w (anR t)) := by
 have hO := own_argR hv
 have h1 : ∀ w, Tops w → IsTable w vt t → Calls Tryd.prog 23 #[vt] w fun e w' => e = .returned (.bool (validT t)) ∧ Below w.heap.size w w' := fun w ht hv => fValid_any w ht hv (by omega)
 obtain ⟨a, c, rfl, ha⟩ := hv.view
 unfold anR
 cases hV : validT t with
 | false =>
  rw [hV] at h1
  rw [if_neg Bool.false_ne_true]
  clear hV
  go_enter Tryd.func13, Tryd.ntmps13
  go_wp2_with (first | refine ldNT ?_ | ((first | refine stNT hO ?_ | refine st1NT hO ?_); clear hO; intro wv hO) | (refine al9T 6 hO ?_; clear hO; intro n6 wv hO) | (refine bl9T 42 hO ?_; clear hO; intro n42 wv hO) | (refine bl9T 59 hO ?_; clear hO; intro n59 wv hO) | (refine bl9T 90 hO ?_; clear hO; intro n90 wv hO) | (refine bl9T 92 hO ?_; clear hO; intro n92 wv hO) | (refine ap9T 43 hO ?_; clear hO; intro g43 c43 wv hO) | (refine ap9T 60 hO ?_; clear hO; intro g60 c60 wv hO) | (refine ap9T 93 hO ?_; clear hO; intro g93 c93 wv hO) | (go_at_call 23; (with_reducible refine (h1 _ (hO.tops ht (by simp)) (hv.keep0 hO)).mono ?_); rintro e wv ⟨rfl, hb9⟩; replace hO := hO.call hb9; clear hb9))
  go_ret2
  exact ⟨_, [], rfl, rfl, finds_nil _ _, hO.keep.below⟩
 | true =>
  rw [hV] at h1
  rw [if_pos rfl]
  clear hV
  go_enter Tryd.func13, Tryd.ntmps13
  go_wp2_with (first | refine ldNT ?_ | ((first | refine stNT hO ?_ | refine st1NT hO ?_); clear hO; intro wv hO) | (refine al9T 6 hO ?_; clear hO; intro n6 wv hO) | (refine bl9T 42 hO ?_; clear hO; intro n42 wv hO) | (refine bl9T 59 hO ?_; clear hO; intro n59 wv hO) | (refine bl9T 90 hO ?_; clear hO; intro n90 wv hO) | (refine bl9T 92 hO ?_; clear hO; intro n92 wv hO) | (refine ap9T 43 hO ?_; clear hO; intro g43 c43 wv hO) | (refine ap9T 60 hO ?_; clear hO; intro g60 c60 wv hO) | (refine ap9T 93 hO ?_; clear hO; intro g93 c93 wv hO) | (go_at_call 23; (with_reducible refine (h1 _ (hO.tops ht (by simp)) (hv.keep0 hO)).mono ?_); rintro e wv ⟨rfl, hb9⟩; replace hO := hO.call hb9; clear hb9))
  clear h1
  replace hO := hO.nilRow 56 3
  go_loopw [4, 18] (fun v q wr => ∃ (k : Nat) (ps : List (Fnd × Value)), k ≤ t.length ∧ q = .int .i64 k ∧ ps.length ≤ 2 * k ∧ Hid (anF t k = some (ps.map (·.1))) ∧ Hid (∀ p ∈ ps, FormC p.2 p.1.2.2.length ∧ NewFrom w p.2) ∧ Own [] w [] [⟨v, ps.length, cellsN ps, 56, 3⟩] (roS (.slice a t.length c) (cellsR t) ++ roN ps) wr) (fun _ q _ => t.length - (intOf q).toNat)
  case atStart => exact ⟨0, [], by omega, rfl, by simp, Lib.hid rfl, Lib.hid (fun p hp => by cases hp), hO.sub (.refl _) (.refl _) (fun q hq => by simpa [roN] using hq)⟩
  case round =>
   clear hO
   obtain ⟨k, ps, hk, rfl, np, HA, HF, hO⟩ := hrel
   have s1 : IntKind.i64.wrap ((k : Int) + 1) = (k : Int) + 1 := IntWalk.i64_in _ (by omega)
   by_cases hlt : k < t.length
   ·obtain ⟨g, o, rfl⟩ := ha (by omega)
    simp only [roS, List.cons_append, List.nil_append] at hO
    have t1 := tk_rule t hlt
    have h2 : ∀ w, Tops w → IsTable w (.slice (some ⟨g, o, none⟩) t.length c) t → Calls Tryd.prog 24 #[.slice (some ⟨g, o, none⟩) t.length c, .int .i64 k] w (StPost w (stF t k)) := fun w ht hv => sstate_any w ht hv kt hl hlt
    have h3 : ∀ w, Tops w → IsTable w (.slice (some ⟨g, o, none⟩) t.length c) t → Calls Tryd.prog 31 #[.slice (some ⟨g, o, none⟩) t.length c, .int .i64 k] w (RetNums w (befT t[k].1 t k)) := fun w ht hv => sbefore_any w ht hv hl hlt
    cases hs : stF t k with
    | none =>
     rw [hs] at h2
     have HR := Lib.hid (anF_st hs hlt)
     clear hs HA h3
     generalize t[k] = r at *
     go_wp2_with (first | refine ldNT ?_ | ((first | refine stNT hO ?_ | refine st1NT hO ?_); clear hO; intro wv hO) | (refine al9T 6 hO ?_; clear hO; intro n6 wv hO) | (refine bl9T 42 hO ?_; clear hO; intro n42 wv hO) | (refine bl9T 59 hO ?_; clear hO; intro n59 wv hO) | (refine bl9T 90 hO ?_; clear hO; intro n90 wv hO) | (refine bl9T 92 hO ?_; clear hO; intro n92 wv hO) | (refine ap9T 43 hO ?_; clear hO; intro g43 c43 wv hO) | (refine ap9T 60 hO ?_; clear hO; intro g60 c60 wv hO) | (refine ap9T 93 hO ?_; clear hO; intro g93 c93 wv hO) | (go_at_call 24; (with_reducible refine (h2 _ (hO.tops ht (by simp)) (hv.keep0 hO)).mono ?_); rintro e wv hpo; obtain ⟨v9, rfl, hb9⟩ := StPost.no hpo; replace hO := hO.call hb9; clear hb9 hpo))
     go_ret2
     exact ⟨_, [], by rw [HR.out]; rfl, by rw [HR.out]; rfl, finds_nil _ _, hO.keep.below⟩
    | some x =>
     rw [hs] at h2
     obtain ⟨e, rm⟩ := x
     have hcs := stF_cases hs
     cases h0 : e.isEmpty with
     | true =>
      obtain rfl : e = [] := List.isEmpty_iff.1 h0
      have hd : effF t k = some [] ∧ rm = true := by
       rcases hcs with ⟨e', h1, h2, h3⟩ | ⟨e', p, q, h1, h2, _, _, h3⟩
       ·rw [List.isEmpty_iff.1 h2] at h1; exact ⟨h1, congrArg Prod.snd h3⟩
       ·have h4 : ([] : List Bx) = e' := congrArg Prod.fst h3
        subst h4; cases h2
      obtain ⟨hd, rfl⟩ := hd
      have HR := Lib.hid (anF_dead1 hlt HA.out hd)
      clear hs hcs h0 hd HA
      generalize t[k] = r at *
      have nb := befT_len r.1 t k
      generalize befT r.1 t k = bs at *
      go_wp2_with (first | refine ldNT ?_ | ((first | refine stNT hO ?_ | refine st1NT hO ?_); clear hO; intro wv hO) | (refine al9T 6 hO ?_; clear hO; intro n6 wv hO) | (refine bl9T 42 hO ?_; clear hO; intro n42 wv hO) | (refine bl9T 59 hO ?_; clear hO; intro n59 wv hO) | (refine bl9T 90 hO ?_; clear hO; intro n90 wv hO) | (refine bl9T 92 hO ?_; clear hO; intro n92 wv hO) | (refine ap9T 43 hO ?_; clear hO; intro g43 c43 wv hO) | (refine ap9T 60 hO ?_; clear hO; intro g60 c60 wv hO) | (refine ap9T 93 hO ?_; clear hO; intro g93 c93 wv hO) | (go_at_call 24; (with_reducible refine (h2 _ (hO.tops ht (by simp)) (hv.keep0 hO)).mono ?_); rintro e wv hpo; obtain ⟨v9, rfl, hv9, -, hb9⟩ := StPost.yes hpo; clear hpo; obtain ⟨a9, c9, rfl, -⟩ := hv9.view; replace hO := hO.call hb9; clear hb9 hv9) | (go_at_call 31; (with_reducible refine (h3 _ (hO.tops ht (by simp)) (hv.keep0 hO)).mono ?_); rintro e wv ⟨v6, rfl, ⟨hv9, hn9⟩, hb9⟩; have hf6 := isCells_form hv9; have hn6 : NewFrom w v6 := (fun g hg => Nat.le_trans hO.keep.size (hn9 g hg)); replace hO := hO.gainC hb9 hv9 hn9; obtain ⟨a6, c6, rfl, -⟩ := hf6.view; clear hb9 hv9 hn9) | ((with_reducible refine is_build ?_); (refine' own_buildN (o := ⟨some 42, _, _, _, _, _⟩) [.agg #[.int .i64 k, .int .i64 1, .slice a6 bs.length c6]] hO (by rfl) rfl slice_Finds rfl rfl (by rfl) (by decide) (by decide) ?_); clear hO; intro n42 wv hO) | ((with_reducible refine is_append ?_); (refine own_append (o := ⟨some 43, _, _, _, _, _⟩) hO rfl rfl slice_Finds rfl rfl (by (repeat (first | exact List.mem_cons_self | refine List.mem_cons_of_mem _ ?_))) rfl (by omega) rfl (fun _ _ => by repeat (first | exact UpdR.here | apply UpdR.there)) (by first | omega | (simp; omega)) (by unfold maxLen; first | omega | (simp; omega)) ?_); clear hO; intro g43 c43 wv hO))
      go_roundw
      case rel =>
       refine ⟨k + 1, ps ++ [(((k : Int), 1, bs), Value.slice a6 bs.length c6)], by omega, by go_num, by simp; omega, Lib.hid ?_, Lib.hid ?_, ?_⟩
       ·rw [HR.out, List.map_append]; rfl
       ·intro p hp
        rcases List.mem_append.1 hp with hp | hp
        ·exact HF.out p hp
        ·rw [List.mem_singleton.1 hp]; exact ⟨hf6, hn6⟩
       ·rw [List.length_append, cellsN_append]
        exact hO.sub (.cons _ (.cons _ (.refl _))) (.refl _) (fun q hq => by simp only [roN_append, roN, roS, List.append_nil, List.mem_append, List.mem_cons, List.not_mem_nil, or_false] at hq ⊢; grind)
      case measure => simp [intOf]; omega
     | false =>
      have hn : 0 < e.length := List.length_pos_iff.2 (fun e => by rw [e] at h0; cases h0)
      have g3 : ((e.length : Int) == 0) = false := beq_eq_false_iff_ne.2 (by omega)
      have ne : e.length ≤ 1000000000000 := by
       rcases hcs with ⟨e', h1, h2, h3⟩ | ⟨e', p, q, h1, h2, _, _, h3⟩
       ·have h4 : e = [] := congrArg Prod.fst h3
        rw [h4]; simp
       ·have h4 : e = e' := congrArg Prod.fst h3
        rw [h4]; exact (effF_spec kt hlt h1).1.le
      clear hcs hn h3
      cases rm with
      | false =>
       obtain ⟨x, hx⟩ : ∃ x, excF t[k] (t.drop (k + 1)) (k + 1) = x := ⟨_, rfl⟩
       have HR := Lib.hid (anF_some hlt HA.out hs h0)
       rw [hx] at HR
       have HX := Lib.hid hx
       clear hs h0 HA hx
       generalize t[k] = r at *
       obtain ⟨b, pr⟩ := r
       go_wp2_with (first | refine ldNT ?_ | ((first | refine stNT hO ?_ | refine st1NT hO ?_); clear hO; intro wv hO) | (refine al9T 6 hO ?_; clear hO; intro n6 wv hO) | (refine bl9T 42 hO ?_; clear hO; intro n42 wv hO) | (refine bl9T 59 hO ?_; clear hO; intro n59 wv hO) | (refine bl9T 90 hO ?_; clear hO; intro n90 wv hO) | (refine bl9T 92 hO ?_; clear hO; intro n92 wv hO) | (refine ap9T 43 hO ?_; clear hO; intro g43 c43 wv hO) | (refine ap9T 60 hO ?_; clear hO; intro g60 c60 wv hO) | (refine ap9T 93 hO ?_; clear hO; intro g93 c93 wv hO) | (go_at_call 24; (with_reducible refine (h2 _ (hO.tops ht (by simp)) (hv.keep0 hO)).mono ?_); rintro e wv hpo; obtain ⟨v9, rfl, hv9, -, hb9⟩ := StPost.yes hpo; clear hpo; obtain ⟨a9, c9, rfl, -⟩ := hv9.view; replace hO := hO.call hb9; clear hb9 hv9))
       clear h2 g3
       generalize hr : (b, pr) = r at *
       generalize ps = pz at *
       subst hr
       go_loopw [4, 12] (fun v q wr => ∃ j : Nat, k + 1 ≤ j ∧ j ≤ t.length ∧ q = .int .i64 j ∧ Hid (excF (b, pr) (t.drop j) j = x) ∧ Own [] w [⟨n6, rlcs (b, pr), 42⟩] [⟨v, pz.length, cellsN pz, 56, 3⟩] (⟨g, o, cellsR t⟩ :: roN pz) wr) (fun _ q _ => t.length - (intOf q).toNat)
       case atStart => exact ⟨k + 1, by omega, by omega, by go_num, HX, hO⟩
       case round =>
        clear hO
        obtain ⟨j, hkj, hj, rfl, HE, hO⟩ := hrel
        have s2 : IntKind.i64.wrap ((j : Int) + 1) = (j : Int) + 1 := IntWalk.i64_in _ (by omega)
        by_cases hjl : j < t.length
        ·have t3 := tk_match t hjl
         have t4 := cr_permit t hjl
         have hE := HE.out
         rw [excF_drop hjl] at hE
         clear HE
         generalize t[j] = q1 at *
         obtain ⟨b1, p1⟩ := q1
         dsimp only at t3 t4 hE
         by_cases hp : p1 = pr
         ·have g4 : (p1 != pr) = false := by rw [hp]; simp
          rw [g4, Bool.false_and, if_neg Bool.false_ne_true] at hE
          have HE2 := Lib.hid hE
          clear hE g4
          subst hp
          cases p1
          all_goals
           go_wp2_with (first | refine ldNT ?_ | ((first | refine stNT hO ?_ | refine st1NT hO ?_); clear hO; intro wv hO) | (refine al9T 6 hO ?_; clear hO; intro n6 wv hO) | (refine bl9T 42 hO ?_; clear hO; intro n42 wv hO) | (refine bl9T 59 hO ?_; clear hO; intro n59 wv hO) | (refine bl9T 90 hO ?_; clear hO; intro n90 wv hO) | (refine bl9T 92 hO ?_; clear hO; intro n92 wv hO) | (refine ap9T 43 hO ?_; clear hO; intro g43 c43 wv hO) | (refine ap9T 60 hO ?_; clear hO; intro g60 c60 wv hO) | (refine ap9T 93 hO ?_; clear hO; intro g93 c93 wv hO))
           (try simp only [Act.put]); (refine own_quiet hO (by kernel_rfl) (by kernel_rfl) ?_; clear hO; (repeat (first | go_big_quiet_skip | (go_big_quiet_want; (first | ((with_reducible refine is_loadQ ?_); (first | (refine q_ldT (h := ?_))); (try simp only [Act.put]); (try simp only [sI9, sZ9, sS9]); go_big_quiet_on) | (go_big_quiet_op; (first | go_big_quiet_on | ((refine ⟨_, fun _ _ => rfl, ?_⟩); go_big_quiet_on) | go_big_quiet_call (fail))))))); (refine wpQuiet_nil ?_); intro wv hO)
           go_wp2_with (first | refine ldNT ?_ | ((first | refine stNT hO ?_ | refine st1NT hO ?_); clear hO; intro wv hO) | (refine al9T 6 hO ?_; clear hO; intro n6 wv hO) | (refine bl9T 42 hO ?_; clear hO; intro n42 wv hO) | (refine bl9T 59 hO ?_; clear hO; intro n59 wv hO) | (refine bl9T 90 hO ?_; clear hO; intro n90 wv hO) | (refine bl9T 92 hO ?_; clear hO; intro n92 wv hO) | (refine ap9T 43 hO ?_; clear hO; intro g43 c43 wv hO) | (refine ap9T 60 hO ?_; clear hO; intro g60 c60 wv hO) | (refine ap9T 93 hO ?_; clear hO; intro g93 c93 wv hO))
           go_roundw
           case rel => exact ⟨j + 1, by omega, by omega, by go_num, HE2, hO⟩
           case measure => simp [intOf]; omega
         ·have g4 : (p1 != pr) = true := by simpa using hp
          have g5 : (p1 == pr) = false := beq_eq_false_iff_ne.2 hp
          rw [g4, Bool.true_and] at hE
          have h6 := subset_any b b1
          generalize subB b b1 = m at *
          cases m
          ·rw [if_neg Bool.false_ne_true] at hE
           have HE2 := Lib.hid hE
           clear hE hp
           go_wp2_with (first | refine ldNT ?_ | ((first | refine stNT hO ?_ | refine st1NT hO ?_); clear hO; intro wv hO) | (refine al9T 6 hO ?_; clear hO; intro n6 wv hO) | (refine bl9T 42 hO ?_; clear hO; intro n42 wv hO) | (refine bl9T 59 hO ?_; clear hO; intro n59 wv hO) | (refine bl9T 90 hO ?_; clear hO; intro n90 wv hO) | (refine bl9T 92 hO ?_; clear hO; intro n92 wv hO) | (refine ap9T 43 hO ?_; clear hO; intro g43 c43 wv hO) | (refine ap9T 60 hO ?_; clear hO; intro g60 c60 wv hO) | (refine ap9T 93 hO ?_; clear hO; intro g93 c93 wv hO))
           (try simp only [Act.put]); (refine own_quiet hO (by kernel_rfl) (by kernel_rfl) ?_; clear hO; (repeat (first | go_big_quiet_skip | (go_big_quiet_want; (first | ((with_reducible refine is_loadQ ?_); (first | (refine q_ldT (h := ?_))); (try simp only [Act.put]); (try simp only [sI9, sZ9, sS9]); go_big_quiet_on) | (go_big_quiet_op; (first | go_big_quiet_on | ((refine ⟨_, fun _ _ => rfl, ?_⟩); go_big_quiet_on) | go_big_quiet_call ((intro hq; go_at_call 33; exact q_call (h6 _ (hq.tops ht (by simp))) hq)))))))); (refine wpQuiet_nil ?_); intro wv hO)
           go_wp2_with (first | refine ldNT ?_ | ((first | refine stNT hO ?_ | refine st1NT hO ?_); clear hO; intro wv hO) | (refine al9T 6 hO ?_; clear hO; intro n6 wv hO) | (refine bl9T 42 hO ?_; clear hO; intro n42 wv hO) | (refine bl9T 59 hO ?_; clear hO; intro n59 wv hO) | (refine bl9T 90 hO ?_; clear hO; intro n90 wv hO) | (refine bl9T 92 hO ?_; clear hO; intro n92 wv hO) | (refine ap9T 43 hO ?_; clear hO; intro g43 c43 wv hO) | (refine ap9T 60 hO ?_; clear hO; intro g60 c60 wv hO) | (refine ap9T 93 hO ?_; clear hO; intro g93 c93 wv hO))
           go_roundw
           case rel => exact ⟨j + 1, by omega, by omega, by go_num, HE2, hO⟩
           case measure => simp [intOf]; omega
          ·rw [if_pos rfl] at hE
           have HE2 := Lib.hid hE.symm
           clear hE hp
           go_wp2_with (first | refine ldNT ?_ | ((first | refine stNT hO ?_ | refine st1NT hO ?_); clear hO; intro wv hO) | (refine al9T 6 hO ?_; clear hO; intro n6 wv hO) | (refine bl9T 42 hO ?_; clear hO; intro n42 wv hO) | (refine bl9T 59 hO ?_; clear hO; intro n59 wv hO) | (refine bl9T 90 hO ?_; clear hO; intro n90 wv hO) | (refine bl9T 92 hO ?_; clear hO; intro n92 wv hO) | (refine ap9T 43 hO ?_; clear hO; intro g43 c43 wv hO) | (refine ap9T 60 hO ?_; clear hO; intro g60 c60 wv hO) | (refine ap9T 93 hO ?_; clear hO; intro g93 c93 wv hO))
           (try simp only [Act.put]); (refine own_quiet hO (by kernel_rfl) (by kernel_rfl) ?_; clear hO; (repeat (first | go_big_quiet_skip | (go_big_quiet_want; (first | ((with_reducible refine is_loadQ ?_); (first | (refine q_ldT (h := ?_))); (try simp only [Act.put]); (try simp only [sI9, sZ9, sS9]); go_big_quiet_on) | (go_big_quiet_op; (first | go_big_quiet_on | ((refine ⟨_, fun _ _ => rfl, ?_⟩); go_big_quiet_on) | go_big_quiet_call ((intro hq; go_at_call 33; exact q_call (h6 _ (hq.tops ht (by simp))) hq)))))))); (refine wpQuiet_nil ?_); intro wv hO)
           go_wp2_with (first | refine ldNT ?_ | ((first | refine stNT hO ?_ | refine st1NT hO ?_); clear hO; intro wv hO) | (refine al9T 6 hO ?_; clear hO; intro n6 wv hO) | (refine bl9T 42 hO ?_; clear hO; intro n42 wv hO) | (refine bl9T 59 hO ?_; clear hO; intro n59 wv hO) | (refine bl9T 90 hO ?_; clear hO; intro n90 wv hO) | (refine bl9T 92 hO ?_; clear hO; intro n92 wv hO) | (refine ap9T 43 hO ?_; clear hO; intro g43 c43 wv hO) | (refine ap9T 60 hO ?_; clear hO; intro g60 c60 wv hO) | (refine ap9T 93 hO ?_; clear hO; intro g93 c93 wv hO) | ((with_reducible refine is_build ?_); (refine' own_buildP (o := ⟨some 90, _, _, _, _, _⟩) [.int .i64 j] hO (by rfl) rfl slice_Ints rfl rfl (by rfl) (by decide) (by decide) ?_); clear hO; intro n90 wv hO) | ((with_reducible refine is_build ?_); (refine' own_buildN (o := ⟨some 92, _, _, _, _, _⟩) [.agg #[.int .i64 k, .int .i64 3, .slice (some ⟨n90, 0, none⟩) 1 1]] hO (by rfl) rfl slice_Finds rfl rfl (by rfl) (by decide) (by decide) ?_); clear hO; intro n92 wv hO) | ((with_reducible refine is_append ?_); (refine own_append (o := ⟨some 93, _, _, _, _, _⟩) hO rfl rfl slice_Finds rfl rfl (by (repeat (first | exact List.mem_cons_self | refine List.mem_cons_of_mem _ ?_))) rfl (by omega) rfl (fun _ _ => by repeat (first | exact UpdR.here | apply UpdR.there)) (by first | omega | (simp; omega)) (by unfold maxLen; first | omega | (simp; omega)) ?_); clear hO; intro g93 c93 wv hO))
           go_roundw
           case rel =>
            have hn2 := own_newC (l := 1) (c := 1) hO (List.mem_cons_of_mem _ List.mem_cons_self)
            replace hO := (hO.sub (X' := [⟨n90, [.int .i64 j], 3⟩]) (.cons _ (.cons_cons _ (.cons _ (.refl _)))) (.refl _) (fun _ h => h)).chunkRoX
            refine ⟨k + 1, pz ++ [(((k : Int), 3, [(j : Int)]), .slice (some ⟨n90, 0, none⟩) 1 1)], by omega, by go_num, by simp; omega, Lib.hid ?_, Lib.hid ?_, ?_⟩
            ·rw [HR.out, HE2.out, List.map_append]; rfl
            ·intro p hp
             rcases List.mem_append.1 hp with hp | hp
             ·exact HF.out p hp
             ·rw [List.mem_singleton.1 hp]; exact ⟨.inr ⟨_, _, _, rfl, Nat.le_refl _⟩, hn2⟩
            ·rw [List.length_append, cellsN_append]
             exact hO.sub (.refl _) (.refl _) (fun q hq => by simp only [roN_append, roN, roS, List.append_nil, List.mem_append, List.mem_cons, List.not_mem_nil, or_false] at hq ⊢; grind)
           case measure => simp [intOf]; omega
        ·obtain rfl : j = t.length := by omega
         have hE := HE.out
         rw [List.drop_length, excF] at hE
         have HE2 := Lib.hid hE.symm
         clear hE HE
         go_wp2_with (first | refine ldNT ?_ | ((first | refine stNT hO ?_ | refine st1NT hO ?_); clear hO; intro wv hO) | (refine al9T 6 hO ?_; clear hO; intro n6 wv hO) | (refine bl9T 42 hO ?_; clear hO; intro n42 wv hO) | (refine bl9T 59 hO ?_; clear hO; intro n59 wv hO) | (refine bl9T 90 hO ?_; clear hO; intro n90 wv hO) | (refine bl9T 92 hO ?_; clear hO; intro n92 wv hO) | (refine ap9T 43 hO ?_; clear hO; intro g43 c43 wv hO) | (refine ap9T 60 hO ?_; clear hO; intro g60 c60 wv hO) | (refine ap9T 93 hO ?_; clear hO; intro g93 c93 wv hO))
         go_roundw
         case rel => exact ⟨k + 1, pz, by omega, by go_num, by omega, Lib.hid (by rw [HR.out, HE2.out]; simp [excL]), HF, hO.sub (.cons _ (.refl _)) (.refl _) (fun _ h => h)⟩
         case measure => simp [intOf]; omega
      | true =>
       have h4 : ∀ ve w, Tops w → IsTable w (.slice (some ⟨g, o, none⟩) t.length c) t → IsBoxes w ve e → Calls Tryd.prog 32 #[.slice (some ⟨g, o, none⟩) t.length c, .int .i64 k, ve] w (NumPost w (heirN (woF t k) e k (t.length - 1 - k))) := fun ve w ht hv hve => sheirs_any w ht hv hve kt hl ne hlt
       cases hh : heirN (woF t k) e k (t.length - 1 - k) with
       | none =>
        rw [hh] at h4
        have HR := Lib.hid (anF_redN hlt hlt hs h0 hh)
        clear hs h0 HA hh
        generalize t[k] = r at *
        go_wp2_with (first | refine ldNT ?_ | ((first | refine stNT hO ?_ | refine st1NT hO ?_); clear hO; intro wv hO) | (refine al9T 6 hO ?_; clear hO; intro n6 wv hO) | (refine bl9T 42 hO ?_; clear hO; intro n42 wv hO) | (refine bl9T 59 hO ?_; clear hO; intro n59 wv hO) | (refine bl9T 90 hO ?_; clear hO; intro n90 wv hO) | (refine bl9T 92 hO ?_; clear hO; intro n92 wv hO) | (refine ap9T 43 hO ?_; clear hO; intro g43 c43 wv hO) | (refine ap9T 60 hO ?_; clear hO; intro g60 c60 wv hO) | (refine ap9T 93 hO ?_; clear hO; intro g93 c93 wv hO) | (go_at_call 24; (with_reducible refine (h2 _ (hO.tops ht (by simp)) (hv.keep0 hO)).mono ?_); rintro e wv hpo; obtain ⟨v9, rfl, hv9, hn9, hb9⟩ := StPost.yes hpo; clear hpo; have hf9 := hv9.form; obtain ⟨a9, c9, rfl, -⟩ := hv9.view; replace hO := hO.gainB hb9 hv9 hn9; clear hb9 hv9 hn9) | (go_at_call 32; (with_reducible refine (h4 _ _ (hO.tops ht (by simp)) (hv.keep0 hO) (hO.isBm hf9)).mono ?_); rintro e wv ⟨v8, rfl, -, -, hb9⟩; replace hO := hO.call hb9; clear hb9))
        go_ret2
        exact ⟨_, [], by rw [HR.out]; rfl, by rw [HR.out]; rfl, finds_nil _ _, hO.keep.below⟩
       | some hs8 =>
        rw [hh] at h4
        obtain ⟨x, hx⟩ : ∃ x, excF t[k] (t.drop (k + 1)) (k + 1) = x := ⟨_, rfl⟩
        have HR := Lib.hid (anF_red hlt HA.out hs h0 hh)
        rw [hx] at HR
        have HX := Lib.hid hx
        clear hs h0 HA hx hh
        generalize t[k] = r at *
        obtain ⟨b, pr⟩ := r
        go_wp2_with (first | refine ldNT ?_ | ((first | refine stNT hO ?_ | refine st1NT hO ?_); clear hO; intro wv hO) | (refine al9T 6 hO ?_; clear hO; intro n6 wv hO) | (refine bl9T 42 hO ?_; clear hO; intro n42 wv hO) | (refine bl9T 59 hO ?_; clear hO; intro n59 wv hO) | (refine bl9T 90 hO ?_; clear hO; intro n90 wv hO) | (refine bl9T 92 hO ?_; clear hO; intro n92 wv hO) | (refine ap9T 43 hO ?_; clear hO; intro g43 c43 wv hO) | (refine ap9T 60 hO ?_; clear hO; intro g60 c60 wv hO) | (refine ap9T 93 hO ?_; clear hO; intro g93 c93 wv hO) | (go_at_call 24; (with_reducible refine (h2 _ (hO.tops ht (by simp)) (hv.keep0 hO)).mono ?_); rintro e wv hpo; obtain ⟨v9, rfl, hv9, hn9, hb9⟩ := StPost.yes hpo; clear hpo; have hf9 := hv9.form; obtain ⟨a9, c9, rfl, -⟩ := hv9.view; replace hO := hO.gainB hb9 hv9 hn9; clear hb9 hv9 hn9) | (go_at_call 32; (with_reducible refine (h4 _ _ (hO.tops ht (by simp)) (hv.keep0 hO) (hO.isBm hf9)).mono ?_); rintro e wv ⟨v6, rfl, hv9, hn9, hb9⟩; have hf6 := isCells_form hv9; have hn6 : NewFrom w v6 := (fun g hg => Nat.le_trans hO.keep.size (hn9 g hg)); replace hO := hO.gainC hb9 hv9 hn9; obtain ⟨a6, c6, rfl, -⟩ := hf6.view; clear hb9 hv9 hn9) | ((with_reducible refine is_build ?_); (refine' own_buildN (o := ⟨some 59, _, _, _, _, _⟩) [.agg #[.int .i64 k, .int .i64 2, .slice a6 hs8.length c6]] hO (by rfl) rfl slice_Finds rfl rfl (by rfl) (by decide) (by decide) ?_); clear hO; intro n59 wv hO) | ((with_reducible refine is_append ?_); (refine own_append (o := ⟨some 60, _, _, _, _, _⟩) hO rfl rfl slice_Finds rfl rfl (by (repeat (first | exact List.mem_cons_self | refine List.mem_cons_of_mem _ ?_))) rfl (by omega) rfl (fun _ _ => by repeat (first | exact UpdR.here | apply UpdR.there)) (by first | omega | (simp; omega)) (by unfold maxLen; first | omega | (simp; omega)) ?_); clear hO; intro g60 c60 wv hO))
        clear h2 g3 h4
        have HF2 : Hid (∀ p ∈ ps ++ [(((k : Int), 2, hs8), Value.slice a6 hs8.length c6)], FormC p.2 p.1.2.2.length ∧ NewFrom w p.2) := Lib.hid fun p hp => by
         rcases List.mem_append.1 hp with hp | hp
         ·exact HF.out p hp
         ·rw [List.mem_singleton.1 hp]; exact ⟨hf6, hn6⟩
        have e3 : (ps ++ [(((k : Int), 2, hs8), Value.slice a6 hs8.length c6)]).length = ps.length + 1 := by simp
        have e4 : cellsN ps ++ [Value.int .i64 k, .int .i64 2, .slice a6 hs8.length c6] = cellsN (ps ++ [(((k : Int), 2, hs8), Value.slice a6 hs8.length c6)]) := by rw [cellsN_append]; rfl
        have e5 : ps.map (·.1) ++ [((k : Int), 2, hs8)] = (ps ++ [((((k : Int), 2, hs8) : Fnd), Value.slice a6 hs8.length c6)]).map (fun p : Fnd × Value => p.1) := by simp
        replace hO := hO.sub (X' := [⟨n6, rlcs (b, pr), 42⟩]) (S' := ⟨g, o, cellsR t⟩ :: roN (ps ++ [(((k : Int), 2, hs8), Value.slice a6 hs8.length c6)])) (.cons _ (.refl _)) (.refl _) (fun q hq => by simp only [roN_append, roN, roS, List.append_nil, List.mem_append, List.mem_cons] at hq ⊢; grind)
        rw [show flat [.agg #[Value.int .i64 k, .int .i64 2, .slice a6 hs8.length c6]] = [Value.int .i64 k, .int .i64 2, .slice a6 hs8.length c6] from rfl, e4, ← e3] at hO
        rw [e5] at HR
        clear HF
        have HF := HF2
        have np2 : (ps ++ [(((k : Int), 2, hs8), Value.slice a6 hs8.length c6)]).length ≤ 2 * k + 1 := by omega
        have HN9 := Lib.hid e3.symm
        clear HF2 e3 e4 e5 np
        have np := np2
        clear np2
        generalize ps ++ [(((k : Int), 2, hs8), Value.slice a6 hs8.length c6)] = pz at *
        go_loopw [4, 12] (fun v q wr => ∃ j : Nat, k + 1 ≤ j ∧ j ≤ t.length ∧ q = .int .i64 j ∧ Hid (excF (b, pr) (t.drop j) j = x) ∧ Own [] w [⟨n6, rlcs (b, pr), 42⟩] [⟨v, pz.length, cellsN pz, 56, 3⟩] (⟨g, o, cellsR t⟩ :: roN pz) wr) (fun _ q _ => t.length - (intOf q).toNat)
        case atStart => exact ⟨k + 1, by omega, by omega, by go_num, HX, by rw [HN9.out]; exact hO⟩
        case round =>
         clear hO
         obtain ⟨j, hkj, hj, rfl, HE, hO⟩ := hrel
         have s2 : IntKind.i64.wrap ((j : Int) + 1) = (j : Int) + 1 := IntWalk.i64_in _ (by omega)
         by_cases hjl : j < t.length
         ·have t3 := tk_match t hjl
          have t4 := cr_permit t hjl
          have hE := HE.out
          rw [excF_drop hjl] at hE
          clear HE
          generalize t[j] = q1 at *
          obtain ⟨b1, p1⟩ := q1
          dsimp only at t3 t4 hE
          by_cases hp : p1 = pr
          ·have g4 : (p1 != pr) = false := by rw [hp]; simp
           rw [g4, Bool.false_and, if_neg Bool.false_ne_true] at hE
           have HE2 := Lib.hid hE
           clear hE g4
           subst hp
           cases p1
           all_goals
            go_wp2_with (first | refine ldNT ?_ | ((first | refine stNT hO ?_ | refine st1NT hO ?_); clear hO; intro wv hO) | (refine al9T 6 hO ?_; clear hO; intro n6 wv hO) | (refine bl9T 42 hO ?_; clear hO; intro n42 wv hO) | (refine bl9T 59 hO ?_; clear hO; intro n59 wv hO) | (refine bl9T 90 hO ?_; clear hO; intro n90 wv hO) | (refine bl9T 92 hO ?_; clear hO; intro n92 wv hO) | (refine ap9T 43 hO ?_; clear hO; intro g43 c43 wv hO) | (refine ap9T 60 hO ?_; clear hO; intro g60 c60 wv hO) | (refine ap9T 93 hO ?_; clear hO; intro g93 c93 wv hO))
            (try simp only [Act.put]); (refine own_quiet hO (by kernel_rfl) (by kernel_rfl) ?_; clear hO; (repeat (first | go_big_quiet_skip | (go_big_quiet_want; (first | ((with_reducible refine is_loadQ ?_); (first | (refine q_ldT (h := ?_))); (try simp only [Act.put]); (try simp only [sI9, sZ9, sS9]); go_big_quiet_on) | (go_big_quiet_op; (first | go_big_quiet_on | ((refine ⟨_, fun _ _ => rfl, ?_⟩); go_big_quiet_on) | go_big_quiet_call (fail))))))); (refine wpQuiet_nil ?_); intro wv hO)
            go_wp2_with (first | refine ldNT ?_ | ((first | refine stNT hO ?_ | refine st1NT hO ?_); clear hO; intro wv hO) | (refine al9T 6 hO ?_; clear hO; intro n6 wv hO) | (refine bl9T 42 hO ?_; clear hO; intro n42 wv hO) | (refine bl9T 59 hO ?_; clear hO; intro n59 wv hO) | (refine bl9T 90 hO ?_; clear hO; intro n90 wv hO) | (refine bl9T 92 hO ?_; clear hO; intro n92 wv hO) | (refine ap9T 43 hO ?_; clear hO; intro g43 c43 wv hO) | (refine ap9T 60 hO ?_; clear hO; intro g60 c60 wv hO) | (refine ap9T 93 hO ?_; clear hO; intro g93 c93 wv hO))
            go_roundw
            case rel => exact ⟨j + 1, by omega, by omega, by go_num, HE2, hO⟩
            case measure => simp [intOf]; omega
          ·have g4 : (p1 != pr) = true := by simpa using hp
           have g5 : (p1 == pr) = false := beq_eq_false_iff_ne.2 hp
           rw [g4, Bool.true_and] at hE
           have h6 := subset_any b b1
           generalize subB b b1 = m at *
           cases m
           ·rw [if_neg Bool.false_ne_true] at hE
            have HE2 := Lib.hid hE
            clear hE hp
            go_wp2_with (first | refine ldNT ?_ | ((first | refine stNT hO ?_ | refine st1NT hO ?_); clear hO; intro wv hO) | (refine al9T 6 hO ?_; clear hO; intro n6 wv hO) | (refine bl9T 42 hO ?_; clear hO; intro n42 wv hO) | (refine bl9T 59 hO ?_; clear hO; intro n59 wv hO) | (refine bl9T 90 hO ?_; clear hO; intro n90 wv hO) | (refine bl9T 92 hO ?_; clear hO; intro n92 wv hO) | (refine ap9T 43 hO ?_; clear hO; intro g43 c43 wv hO) | (refine ap9T 60 hO ?_; clear hO; intro g60 c60 wv hO) | (refine ap9T 93 hO ?_; clear hO; intro g93 c93 wv hO))
            (try simp only [Act.put]); (refine own_quiet hO (by kernel_rfl) (by kernel_rfl) ?_; clear hO; (repeat (first | go_big_quiet_skip | (go_big_quiet_want; (first | ((with_reducible refine is_loadQ ?_); (first | (refine q_ldT (h := ?_))); (try simp only [Act.put]); (try simp only [sI9, sZ9, sS9]); go_big_quiet_on) | (go_big_quiet_op; (first | go_big_quiet_on | ((refine ⟨_, fun _ _ => rfl, ?_⟩); go_big_quiet_on) | go_big_quiet_call ((intro hq; go_at_call 33; exact q_call (h6 _ (hq.tops ht (by simp))) hq)))))))); (refine wpQuiet_nil ?_); intro wv hO)
            go_wp2_with (first | refine ldNT ?_ | ((first | refine stNT hO ?_ | refine st1NT hO ?_); clear hO; intro wv hO) | (refine al9T 6 hO ?_; clear hO; intro n6 wv hO) | (refine bl9T 42 hO ?_; clear hO; intro n42 wv hO) | (refine bl9T 59 hO ?_; clear hO; intro n59 wv hO) | (refine bl9T 90 hO ?_; clear hO; intro n90 wv hO) | (refine bl9T 92 hO ?_; clear hO; intro n92 wv hO) | (refine ap9T 43 hO ?_; clear hO; intro g43 c43 wv hO) | (refine ap9T 60 hO ?_; clear hO; intro g60 c60 wv hO) | (refine ap9T 93 hO ?_; clear hO; intro g93 c93 wv hO))
            go_roundw
            case rel => exact ⟨j + 1, by omega, by omega, by go_num, HE2, hO⟩
            case measure => simp [intOf]; omega
           ·rw [if_pos rfl] at hE
            have HE2 := Lib.hid hE.symm
            clear hE hp
            go_wp2_with (first | refine ldNT ?_ | ((first | refine stNT hO ?_ | refine st1NT hO ?_); clear hO; intro wv hO) | (refine al9T 6 hO ?_; clear hO; intro n6 wv hO) | (refine bl9T 42 hO ?_; clear hO; intro n42 wv hO) | (refine bl9T 59 hO ?_; clear hO; intro n59 wv hO) | (refine bl9T 90 hO ?_; clear hO; intro n90 wv hO) | (refine bl9T 92 hO ?_; clear hO; intro n92 wv hO) | (refine ap9T 43 hO ?_; clear hO; intro g43 c43 wv hO) | (refine ap9T 60 hO ?_; clear hO; intro g60 c60 wv hO) | (refine ap9T 93 hO ?_; clear hO; intro g93 c93 wv hO))
            (try simp only [Act.put]); (refine own_quiet hO (by kernel_rfl) (by kernel_rfl) ?_; clear hO; (repeat (first | go_big_quiet_skip | (go_big_quiet_want; (first | ((with_reducible refine is_loadQ ?_); (first | (refine q_ldT (h := ?_))); (try simp only [Act.put]); (try simp only [sI9, sZ9, sS9]); go_big_quiet_on) | (go_big_quiet_op; (first | go_big_quiet_on | ((refine ⟨_, fun _ _ => rfl, ?_⟩); go_big_quiet_on) | go_big_quiet_call ((intro hq; go_at_call 33; exact q_call (h6 _ (hq.tops ht (by simp))) hq)))))))); (refine wpQuiet_nil ?_); intro wv hO)
            go_wp2_with (first | refine ldNT ?_ | ((first | refine stNT hO ?_ | refine st1NT hO ?_); clear hO; intro wv hO) | (refine al9T 6 hO ?_; clear hO; intro n6 wv hO) | (refine bl9T 42 hO ?_; clear hO; intro n42 wv hO) | (refine bl9T 59 hO ?_; clear hO; intro n59 wv hO) | (refine bl9T 90 hO ?_; clear hO; intro n90 wv hO) | (refine bl9T 92 hO ?_; clear hO; intro n92 wv hO) | (refine ap9T 43 hO ?_; clear hO; intro g43 c43 wv hO) | (refine ap9T 60 hO ?_; clear hO; intro g60 c60 wv hO) | (refine ap9T 93 hO ?_; clear hO; intro g93 c93 wv hO) | ((with_reducible refine is_build ?_); (refine' own_buildP (o := ⟨some 90, _, _, _, _, _⟩) [.int .i64 j] hO (by rfl) rfl slice_Ints rfl rfl (by rfl) (by decide) (by decide) ?_); clear hO; intro n90 wv hO) | ((with_reducible refine is_build ?_); (refine' own_buildN (o := ⟨some 92, _, _, _, _, _⟩) [.agg #[.int .i64 k, .int .i64 3, .slice (some ⟨n90, 0, none⟩) 1 1]] hO (by rfl) rfl slice_Finds rfl rfl (by rfl) (by decide) (by decide) ?_); clear hO; intro n92 wv hO) | ((with_reducible refine is_append ?_); (refine own_append (o := ⟨some 93, _, _, _, _, _⟩) hO rfl rfl slice_Finds rfl rfl (by (repeat (first | exact List.mem_cons_self | refine List.mem_cons_of_mem _ ?_))) rfl (by omega) rfl (fun _ _ => by repeat (first | exact UpdR.here | apply UpdR.there)) (by first | omega | (simp; omega)) (by unfold maxLen; first | omega | (simp; omega)) ?_); clear hO; intro g93 c93 wv hO))
            go_roundw
            case rel =>
             have hn2 := own_newC (l := 1) (c := 1) hO (List.mem_cons_of_mem _ List.mem_cons_self)
             replace hO := (hO.sub (X' := [⟨n90, [.int .i64 j], 3⟩]) (.cons _ (.cons_cons _ (.cons _ (.refl _)))) (.refl _) (fun _ h => h)).chunkRoX
             refine ⟨k + 1, pz ++ [(((k : Int), 3, [(j : Int)]), .slice (some ⟨n90, 0, none⟩) 1 1)], by omega, by go_num, by simp; omega, Lib.hid ?_, Lib.hid ?_, ?_⟩
             ·rw [HR.out, HE2.out, List.map_append]; rfl
             ·intro p hp
              rcases List.mem_append.1 hp with hp | hp
              ·exact HF.out p hp
              ·rw [List.mem_singleton.1 hp]; exact ⟨.inr ⟨_, _, _, rfl, Nat.le_refl _⟩, hn2⟩
             ·rw [List.length_append, cellsN_append]
              exact hO.sub (.refl _) (.refl _) (fun q hq => by simp only [roN_append, roN, roS, List.append_nil, List.mem_append, List.mem_cons, List.not_mem_nil, or_false] at hq ⊢; grind)
            case measure => simp [intOf]; omega
         ·obtain rfl : j = t.length := by omega
          have hE := HE.out
          rw [List.drop_length, excF] at hE
          have HE2 := Lib.hid hE.symm
          clear hE HE
          go_wp2_with (first | refine ldNT ?_ | ((first | refine stNT hO ?_ | refine st1NT hO ?_); clear hO; intro wv hO) | (refine al9T 6 hO ?_; clear hO; intro n6 wv hO) | (refine bl9T 42 hO ?_; clear hO; intro n42 wv hO) | (refine bl9T 59 hO ?_; clear hO; intro n59 wv hO) | (refine bl9T 90 hO ?_; clear hO; intro n90 wv hO) | (refine bl9T 92 hO ?_; clear hO; intro n92 wv hO) | (refine ap9T 43 hO ?_; clear hO; intro g43 c43 wv hO) | (refine ap9T 60 hO ?_; clear hO; intro g60 c60 wv hO) | (refine ap9T 93 hO ?_; clear hO; intro g93 c93 wv hO))
          go_roundw
          case rel => exact ⟨k + 1, pz, by omega, by go_num, by omega, Lib.hid (by rw [HR.out, HE2.out]; simp [excL]), HF, hO.sub (.cons _ (.refl _)) (.refl _) (fun _ h => h)⟩
          case measure => simp [intOf]; omega
   ·obtain rfl : k = t.length := by omega
    go_wp2_with (first | refine ldNT ?_ | ((first | refine stNT hO ?_ | refine st1NT hO ?_); clear hO; intro wv hO) | (refine al9T 6 hO ?_; clear hO; intro n6 wv hO) | (refine bl9T 42 hO ?_; clear hO; intro n42 wv hO) | (refine bl9T 59 hO ?_; clear hO; intro n59 wv hO) | (refine bl9T 90 hO ?_; clear hO; intro n90 wv hO) | (refine bl9T 92 hO ?_; clear hO; intro n92 wv hO) | (refine ap9T 43 hO ?_; clear hO; intro g43 c43 wv hO) | (refine ap9T 60 hO ?_; clear hO; intro g60 c60 wv hO) | (refine ap9T 93 hO ?_; clear hO; intro g93 c93 wv hO))
    go_ret2
    refine ⟨_, ps, by rw [HA.out]; rfl, by rw [HA.out]; rfl, ⟨hO.rowIs List.mem_cons_self, own_new hO List.mem_cons_self, fun p hp => ⟨hO.isNums (HF.out p hp).1 (fun s hs => List.mem_append_right _ (roN_mem hp s hs)), (HF.out p hp).2⟩⟩, hO.keep.below⟩
end Go.Proofs.YtjoionnnpjajmaaDoor
