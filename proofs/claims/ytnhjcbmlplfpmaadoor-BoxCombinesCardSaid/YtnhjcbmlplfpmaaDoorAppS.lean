/- append to a slice of the call's own, of a part of what came in; a call that makes a slice of ours. For any program. -/
import Derived.Test.YtnhjcbmlplfpmaaDoorSepR
import Derived.Maps.AppendAt
namespace Go.Proofs.YtnhjcbmlplfpmaaDoor
open Go.RowKit
section
variable {P : Program} {ops : Array Oper} {rest : List Oper} {o : Oper} {a : Act} {Q : Exit → Act → World → Prop} {M : List Nat} {w0 w w' : World} {X : List Chunk} {R : List Row} {S : List Ro}
/-- the source of an append: nothing, or cells that lie there -/
def SrcAt (w : World) (size : Nat) (A : Option Addr) (m : Nat) (news : List Value) : Prop :=
  news.length = m * size ∧ (0 < m → ∃ g off, A = some ⟨g, off, none⟩ ∧ w.rangeAt g off news)
theorem src_of_cells {w : World} {A : Option Addr} {m c size : Nat} {news : List Value} (h : IsCells w (.slice A m c) m news) (hl : news.length = m * size) : SrcAt w size A m news := by
  refine ⟨hl, fun hm => ?_⟩
  rcases h with ⟨_, h0, _⟩ | ⟨g, o, c', h1, _, h2⟩
  · omega
  · cases h1
    exact ⟨g, o, rfl, h2⟩
theorem own_appendS (hO : Own M w0 X R S w) (hgd : o.guard = none) {s x : Operand} {t e : TypeId} (ho : o.op = .call { callee := .builtin .append, args := #[s, x], argTypes := #[t, t] }) {size bytes : Nat} (ht : SliceT P t e size bytes)
    {v : Value} (hs : a.eval s = v) {A : Option Addr} {m c : Nat} (hx : a.eval x = .slice A m c) {news : List Value} (hr : SrcAt w size A m news) (h1 : news.all (·.oneCell') = true)
    {k : Nat} {xs : List Value} {R1 : Value → List Row} (hu : ∀ v', UpdR R ⟨v, k, xs, e, size⟩ ⟨v', k + m, xs ++ news, e, size⟩ (R1 v')) (hbytes : (k + m) * bytes ≤ 140737488355328) (hk : k + m ≤ maxLen)
    (h : ∀ v' w', Own M w0 X (R1 v') S w' → wpList P ops Q rest (a.put o.dst v') w') : wpList P ops Q (o :: rest) a w := by
  obtain ⟨hu1, hsz, i, z, hi, hz, hi1, hi2, hz1⟩ := ht
  obtain ⟨A0, B0, hR0, _⟩ := (hu .nilIface).split
  have hrow := hO.row ⟨v, k, xs, e, size⟩ (by rw [hR0]; exact List.mem_append.2 (.inr List.mem_cons_self))
  have run : ∃ v' w', (Builtin.append_ #[t, t] o.type #[v, .slice A m c]).run P w = .ok v' w' ∧ w'.ownsRow 0 e size v' (k + m) (xs ++ news) ∧ w.grownBy w' v.ownBlock ∧ (v'.ownBlock = v.ownBlock ∨ v'.ownBlock = some w.heap.size) := by
    by_cases h0 : 0 < m
    · obtain ⟨g, off, rfl, hm⟩ := hr.2 h0
      obtain ⟨v', w', r1, r2, r3, _, r5⟩ := run_append_own_at (P := P) w 0 t o.type e i z size bytes hu1 hi hz hi1 hi2 hz1 hsz v k xs hrow ⟨g, off, none⟩ m c news hr.1 (fun j u hj => by
        have hadd : (⟨g, off, none⟩ : Addr).add j = ⟨g, off + j, none⟩ := by
          unfold Addr.add
          by_cases h : j = 0
          · rw [if_pos h, h]; rfl
          · rw [if_neg h]
        rw [hadd]
        exact hm j u hj) (fun u hu => List.all_eq_true.1 h1 u hu) hk hbytes (Nat.zero_le _)
      exact ⟨v', w', r1, r2, r3, r5⟩
    · have hm : m = 0 := by omega
      subst hm
      have hn : news = [] := List.eq_nil_of_length_eq_zero (by simpa using hr.1)
      subst hn
      cases A with
      | none =>
        refine ⟨v, w, ?_, by simpa using hrow, World.grownBy.refl w _, .inl rfl⟩
        rcases hrow.2 with ⟨h2, h3⟩ | ⟨g, cap, cur, h2, _, _, hnc, _⟩
        · have h2' : v = .slice none 0 0 := h2
          simp [Builtin.append_, run_underlying hu1, sizeOf, typeInfo, hi, Builtin.lenOf, Builtin.firstCells, h2']
        · have h2' : v = .slice (some ⟨g, 0, none⟩) k cap := h2
          simp [Builtin.append_, run_underlying hu1, sizeOf, typeInfo, hi, Builtin.lenOf, Builtin.firstCells, h2', show k ≤ cap from hnc, storeCells]
      | some ad =>
        obtain ⟨v', w', r1, r2, r3, _, r5⟩ := run_append_own_at (P := P) w 0 t o.type e i z size bytes hu1 hi hz hi1 hi2 hz1 hsz v k xs hrow ad 0 c [] (by simp) (fun j u hj => by simp at hj) (fun u hu => by cases hu) hk hbytes (Nat.zero_le _)
        exact ⟨v', w', r1, r2, r3, r5⟩
  obtain ⟨v', w', r1, r2, r3, r4⟩ := run
  refine wpList_plain hgd fun K hK => ?_
  unfold Oper.wp execOp
  simp only [ho, resolve, invoke, builtin, Sem.run_bind, Sem.run_pure, Result.andThen_ok, List.map_toArray, List.map_cons, List.map_nil, hs, hx, r1]
  refine hK _ _ (h v' w' ?_)
  obtain ⟨A1, B1, hR, hR'⟩ := (hu v').split
  rw [hR']
  refine Own.grow (r := ⟨v, k, xs, e, size⟩) (hR ▸ hO) r3 r2 fun g' hg' => ?_
  rcases r4 with h4 | h4
  · exact .inl (h4 ▸ hg')
  · rw [h4] at hg'; exact .inr (Option.some.inj hg').symm
/-- the same, where something is in it behind: it has a form -/
theorem own_appendP (hO : Own M w0 X R S w) (hgd : o.guard = none) {s x : Operand} {t e : TypeId} (ho : o.op = .call { callee := .builtin .append, args := #[s, x], argTypes := #[t, t] }) {size bytes : Nat} (ht : SliceT P t e size bytes)
    {v : Value} (hs : a.eval s = v) {A : Option Addr} {m c : Nat} (hx : a.eval x = .slice A m c) {news : List Value} (hr : SrcAt w size A m news) (h1 : news.all (·.oneCell') = true)
    {k : Nat} {xs : List Value} {R1 : Value → List Row} (hu : ∀ v', UpdR R ⟨v, k, xs, e, size⟩ ⟨v', k + m, xs ++ news, e, size⟩ (R1 v')) (hbytes : (k + m) * bytes ≤ 140737488355328) (hk : k + m ≤ maxLen) (h0 : 0 < k + m)
    (h : ∀ g cap w', Own M w0 X (R1 (.slice (some ⟨g, 0, none⟩) (k + m) cap)) S w' → wpList P ops Q rest (a.put o.dst (.slice (some ⟨g, 0, none⟩) (k + m) cap)) w') : wpList P ops Q (o :: rest) a w := by
  refine own_appendS hO hgd ho ht hs hx hr h1 hu hbytes hk fun v' w' hO' => ?_
  obtain ⟨A0, B0, _, hR⟩ := (hu v').split
  have hrow := hO'.row ⟨v', k + m, xs ++ news, e, size⟩ (by rw [hR]; exact List.mem_append.2 (.inr List.mem_cons_self))
  rcases hrow.2 with ⟨_, h2⟩ | ⟨g, cap, cur, h2, _⟩
  · have h2' : k + m = 0 := h2
    omega
  · have h2' : v' = .slice (some ⟨g, 0, none⟩) (k + m) cap := h2
    subst h2'
    exact h g cap w' hO'
/-- a literal of no elements -/
theorem rx_build0 {t e : TypeId} {size bytes : Nat} (ho : o.op = .buildSlice t 0 #[]) (ht : SliceT P t e size bytes) :
    (execOp a.eval o).run P w = .ok (.value (.slice (some ⟨w.heap.size, 0, none⟩) 0 0)) (w.alloc (.cells #[] e (0, 0))) := by
  obtain ⟨hu, _, i, z, hie, _, _, _, _⟩ := ht
  unfold execOp
  simp [ho, Instr.buildSlice, underlying, run_program, hu, sizeOf, typeInfo, hie, newRow, Instr.fill]
  refine congrArg (fun x => w.alloc (Obj.cells x e)) (Array.eq_empty_of_size_eq_zero (by simp))
theorem own_build0 (hO : Own M w0 X R S w) (hw : Region.wanted o (yielded ops a.tmps) = true) {t e : TypeId} {size bytes : Nat} (ho : o.op = .buildSlice t 0 #[]) (ht : SliceT P t e size bytes)
    (h : ∀ n w', Own M w0 X (⟨.slice (some ⟨n, 0, none⟩) 0 0, 0, [], e, size⟩ :: R) S w' → wpList P ops Q rest (a.put o.dst (.slice (some ⟨n, 0, none⟩) 0 0)) w') : wpList P ops Q (o :: rest) a w := by
  refine wpList_val hw _ _ (rx_build0 ho ht) (h _ _ (hO.gainRow ((Below.refl _ _).alloc (Nat.le_refl _) _) ?_))
  exact World.ownsRow_made w #[] 0 (Nat.le_refl _) (Nat.zero_le _) (by simp)
end
end Go.Proofs.YtnhjcbmlplfpmaaDoor
