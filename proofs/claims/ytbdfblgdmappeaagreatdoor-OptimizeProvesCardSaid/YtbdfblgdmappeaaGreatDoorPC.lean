/- An append in place, of a slice's own end; slices.Delete of numbers. -/
import Derived.Test.YtbdfblgdmappeaaGreatDoorPA
import Derived.Test.YtbdfblgdmappeaaGreatDoorMC
import Derived.Test.YtbdfblgdmappeaaGreatDoorOC
import Derived.Test.YtbdfblgdmappeaaGreatDoorMA
namespace Go.Proofs.YtbdfblgdmappeaaGreatDoor
open Go.RowKit
set_option maxRecDepth 100000
section
variable {P : Program} {ops : Array Oper} {rest : List Oper} {o : Oper} {a : Act} {w w0 w' : World} {Q : Exit → Act → World → Prop} {M : List Nat} {X X' : List Chunk} {R R' : List Row} {S : List Ro}
theorem row_front {base size n m g c : Nat} {e : TypeId} {xs : List Value} (h : w.ownsRow base e size (.slice (some ⟨g, 0, none⟩) n c) n xs) (hm : m ≤ n) : w.ownsRow base e size (.slice (some ⟨g, 0, none⟩) m c) m (xs.take (m * size)) := by
 have hle : m * size ≤ n * size := Nat.mul_le_mul_right _ hm
 rcases h.2 with ⟨h1, _⟩ | ⟨g', c', cur, h1, hb, hg, hnc, hcm, hcs, ht⟩
 ·cases h1
 ·cases h1
  refine ⟨by rw [List.length_take, h.1]; omega, .inr ⟨g, c, cur, rfl, hb, hg, by omega, hcm, hcs, ?_⟩⟩
  rw [← ht, List.take_take, Nat.min_eq_left hle]
theorem row_more {base size n m g c : Nat} {e : TypeId} {xs : List Value} (h : w.ownsRow base e size (.slice (some ⟨g, 0, none⟩) n c) n xs) (hm : n ≤ m) (hc : m ≤ c) : ∃ zs, zs.length = (m - n) * size ∧ w.ownsRow base e size (.slice (some ⟨g, 0, none⟩) m c) m (xs ++ zs) := by
 have hle : n * size ≤ m * size := Nat.mul_le_mul_right _ hm
 have hlc : m * size ≤ c * size := Nat.mul_le_mul_right _ hc
 have hs : (m - n) * size = m * size - n * size := Nat.sub_mul ..
 rcases h.2 with ⟨h1, _⟩ | ⟨g', c', cur, h1, hb, hg, hnc, hcm, hcs, ht⟩
 ·cases h1
 ·cases h1
  have hcl : cur.toList.length = c * size := by simpa using hcs
  refine ⟨(cur.toList.take (m * size)).drop (n * size), by rw [List.length_drop, List.length_take, hcl]; omega, ?_, .inr ⟨g, c, cur, rfl, hb, hg, hc, hcm, hcs, ?_⟩⟩
  ·rw [List.length_append, h.1, List.length_drop, List.length_take, hcl]; omega
  ·have h9 := List.take_append_drop (n * size) (cur.toList.take (m * size))
   rw [List.take_take, Nat.min_eq_left hle, ht] at h9
   exact h9.symm
theorem own_appendF (hO : Own M w0 X R S w) (hgd : o.guard = none) {s x : Operand} {t e : TypeId} (ho : o.op = .call { callee := .builtin .append, args := #[s, x], argTypes := #[t, t] }) {size bytes : Nat} (ht : SliceT P t e size bytes)
  {g n c i j m c' : Nat} {A : Option Addr} {xs : List Value} (hs : a.eval s = .slice (some ⟨g, 0, none⟩) i c) (hx : a.eval x = .slice A m c') (hA : ∃ ad, A = some ad ∧ (0 < m → ad = ⟨g, j * size, none⟩)) (hjm : j + m = n) (him : i + m ≤ n) (h1 : xs.all (·.oneCell') = true)
  {R1 : List Value → List Row} (hu : ∀ ys, UpdR R ⟨.slice (some ⟨g, 0, none⟩) n c, n, xs, e, size⟩ ⟨.slice (some ⟨g, 0, none⟩) n c, n, ys, e, size⟩ (R1 ys))
  (h : ∀ zs w', zs.length = (n - (i + m)) * size → Own M w0 X (R1 ((xs.take (i * size) ++ xs.drop (j * size)) ++ zs)) S w' → wpList P ops Q rest (a.put o.dst (.slice (some ⟨g, 0, none⟩) (i + m) c)) w') : wpList P ops Q (o :: rest) a w := by
 obtain ⟨hu1, hsz, inf, z, hi, hz, hi1, hi2, hz1⟩ := ht
 obtain ⟨ad, rfl, had⟩ := hA
 have hrow := hO.row ⟨.slice (some ⟨g, 0, none⟩) n c, n, xs, e, size⟩ (hu xs).mem
 have hrow' : w.ownsRow 0 e size (.slice (some ⟨g, 0, none⟩) n c) n xs := hrow
 have hnc : n ≤ c := by
  rcases row_form hrow' with ⟨h9, _⟩ | ⟨g', c9, h9, h8, _⟩
  ·cases h9
  ·cases h9; exact h8
 have hfr := row_front hrow' (m := i) (by omega)
 have hl : (xs.drop (j * size)).length = m * size := by
  rw [List.length_drop, hrow'.1, ← hjm, Nat.add_mul]; omega
 obtain ⟨w', hr, h2, h3⟩ := run_append_fits (P := P) w 0 t o.type e inf size hu1 hi hi1 g i c _ hfr ad m c' (xs.drop (j * size)) hl (fun k u hk => by
  have hm0 : 0 < m := by
   rcases Nat.eq_zero_or_pos m with h | h
   ·rw [h, Nat.zero_mul] at hl
    rw [List.eq_nil_of_length_eq_zero hl] at hk
    cases hk
   ·exact h
  rw [had hm0]
  have hadd : (⟨g, j * size, none⟩ : Addr).add k = ⟨g, j * size + k, none⟩ := by
   unfold Addr.add
   by_cases h : k = 0
   ·rw [if_pos h, h]; rfl
   ·rw [if_neg h]
  rw [hadd]
  rw [List.getElem?_drop] at hk
  exact hO.rowCell (hu xs).mem hk) (fun u hu' => List.all_eq_true.1 h1 u (List.mem_of_mem_drop hu')) (by omega)
 obtain ⟨zs, hz2, h4⟩ := row_more h2 him hnc
 refine wpList_plain hgd fun K hK => ?_
 unfold Oper.wp execOp
 simp only [ho, resolve, invoke, builtin, Sem.run_bind, Sem.run_pure, Result.andThen_ok, List.map_toArray, List.map_cons, List.map_nil, hs, hx, hr]
 refine hK _ _ (h zs w' hz2 ?_)
 obtain ⟨A1, B1, hR, hR'⟩ := (hu ((xs.take (i * size) ++ xs.drop (j * size)) ++ zs)).split
 rw [hR']
 exact Own.grow (r := ⟨.slice (some ⟨g, 0, none⟩) n c, n, xs, e, size⟩) (hR ▸ hO) h3 h4 fun g' hg' => .inl hg'
theorem Own.afterRow2 (hO : Own M w0 X R S w) {v v' : Value} {k k' size : Nat} {xs ys : List Value} {e : TypeId} (hu : UpdR R ⟨v, k, xs, e, size⟩ ⟨v', k', ys, e, size⟩ R') (hk : Keep v.ownBlock.toList w w') (hr : w'.ownsRow 0 e size v' k' ys) (hv : v'.ownBlock = v.ownBlock) : Own M w0 X R' S w' := by
 obtain ⟨A, B, rfl, rfl⟩ := hu.split
 exact hO.grow (r := ⟨v, k, xs, e, size⟩) (r' := ⟨v', k', ys, e, size⟩) (grown_of_keep hk) hr fun g hg => .inl (hv ▸ hg)
end
theorem rowview11 {w : World} {base size k : Nat} {v : Value} {xs : List Value} {e : TypeId} (h : w.ownsRow base e size v k xs) : ∃ a c, v = .slice a k c ∧ (0 < k → ∃ g, a = some ⟨g, 0, none⟩) := by
 rcases row_form h with ⟨rfl, rfl⟩ | ⟨g, c, rfl, _, _⟩
 ·exact ⟨none, 0, rfl, fun h => absurd h (by omega)⟩
 ·exact ⟨_, c, rfl, fun _ => ⟨g, rfl⟩⟩
end Go.Proofs.YtbdfblgdmappeaaGreatDoor
