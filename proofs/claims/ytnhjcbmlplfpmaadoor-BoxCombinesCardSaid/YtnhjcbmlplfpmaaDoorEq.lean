/- Comparing ranges, boxes and headers with ==. -/
import Derived.Test.YtnhjcbmlplfpmaaDoorTy
import Derived.Laws.StructEq
namespace Go.Proofs.YtnhjcbmlplfpmaaDoor
open Go.RowKit
set_option maxRecDepth 100000

section
variable (w : World)
theorem stoodR : (Tryd.prog).stoodInHeld 24 = false := by kernel_rfl
theorem fieldsR : (Tryd.prog).underlying 24 = some (.struct ((Tryd.prog).fieldsOf 24)) := by kernel_rfl
theorem eq_rg (d : Nat) (r s : Rg) : (Op.equalIn (d + 1 + 1) 24 (.agg #[.int .u32 r.lo, .int .u32 r.hi]) (.agg #[.int .u32 s.lo, .int .u32 s.hi])).run Tryd.prog w = .ok (decide (r = s)) w := by
  rw [run_equalIn_struct w (d + 1) _ _ _ fieldsR stoodR]
  obtain ⟨a, b⟩ := r
  obtain ⟨c, e⟩ := s
  by_cases h1 : a = c <;> by_cases h2 : b = e <;> simp [go_sem, Tryd.underlying24, Tryd.underlying22, h1, h2]
theorem size_rg : (sizeOf 24).run Tryd.prog w = .ok 2 w := by kernel_rfl
theorem part_rg (b : Bx) {k : Nat} (hk : k < 5) : (part 24 (bcs b).toArray (k * 2)).run Tryd.prog w = .ok (.agg #[.int .u32 (b.at k).lo, .int .u32 (b.at k).hi]) w := by
  rcases five hk with rfl | rfl | rfl | rfl | rfl <;> kernel_rfl
theorem eq_bx (d : Nat) (a b : Bx) : (Op.equalIn (d + 1 + 1 + 1) 26 (.agg (bcs a).toArray) (.agg (bcs b).toArray)).run Tryd.prog w = .ok (decide (a = b)) w := by
  have e : decide (a = b) = (decide (a.at 0 = b.at 0) && (decide (a.at 1 = b.at 1) && (decide (a.at 2 = b.at 2) && (decide (a.at 3 = b.at 3) && decide (a.at 4 = b.at 4))))) := by
    rw [Bool.eq_iff_iff]
    simp only [decide_eq_true_eq, Bool.and_eq_true]
    constructor
    · rintro rfl; simp
    · rintro ⟨h0, h1, h2, h3, h4⟩
      exact Bx.ext_at fun k hk => by rcases five hk with rfl | rfl | rfl | rfl | rfl <;> assumption
  rw [e]
  unfold Op.equalIn
  simp only [Sem.run_bind, run_underlying Tryd.underlying26, Result.andThen_ok, size_rg]
  simp only [Std.Legacy.Range.forIn_eq_forIn_range', Std.Legacy.Range.size, Nat.sub_zero, Nat.add_sub_cancel, Nat.div_one, List.range'_succ, List.range'_zero, List.forIn_cons, List.forIn_nil, Nat.zero_add]
  have pa0 := fun b : Bx => part_rg w b (k := 0) (by omega)
  have pa1 := fun b : Bx => part_rg w b (k := 1) (by omega)
  have pa2 := fun b : Bx => part_rg w b (k := 2) (by omega)
  have pa3 := fun b : Bx => part_rg w b (k := 3) (by omega)
  have pa4 := fun b : Bx => part_rg w b (k := 4) (by omega)
  have eq := fun r s : Rg => eq_rg w d r s
  simp only [Nat.reduceMul, Nat.reduceAdd] at pa0 pa1 pa2 pa3 pa4 ⊢
  simp only [Sem.run_bind, pa0, Result.andThen_ok, eq]
  by_cases h0 : a.at 0 = b.at 0
  · by_cases h1 : a.at 1 = b.at 1
    · by_cases h2 : a.at 2 = b.at 2
      · by_cases h3 : a.at 3 = b.at 3
        · by_cases h4 : a.at 4 = b.at 4
          · simp only [Sem.run_pure, Result.andThen_ok, Sem.run_bind, pa1, pa2, pa3, pa4, eq, h0, h1, h2, h3, h4, decide_true, Bool.not_true, Bool.false_eq_true, if_false, Bool.and_self]
          · simp [Sem.run_pure, Result.andThen_ok, Sem.run_bind, pa1, pa2, pa3, pa4, eq, h0, h1, h2, h3, h4]
        · simp [Sem.run_pure, Result.andThen_ok, Sem.run_bind, pa1, pa2, pa3, eq, h0, h1, h2, h3]
      · simp [Sem.run_pure, Result.andThen_ok, Sem.run_bind, pa1, pa2, eq, h0, h1, h2]
    · simp [Sem.run_pure, Result.andThen_ok, Sem.run_bind, pa1, eq, h0, h1]
  · simp [Sem.run_pure, Result.andThen_ok, h0]
theorem run_eql_bx (a b : Bx) : (binOp .eql 26 (.agg (bcs a).toArray) (.agg (bcs b).toArray)).run Tryd.prog w = .ok (.bool (decide (a = b))) w := by
  rw [run_eql_struct]
  rw [show (10000 : Nat) = 9997 + 1 + 1 + 1 from rfl, eq_bx, Result.andThen_ok]
theorem run_neq_bx (a b : Bx) : (binOp .neq 26 (.agg (bcs a).toArray) (.agg (bcs b).toArray)).run Tryd.prog w = .ok (.bool (!decide (a = b))) w := by
  rw [run_neq_struct]
  rw [show (10000 : Nat) = 9997 + 1 + 1 + 1 from rfl, eq_bx, Result.andThen_ok]
theorem run_eql_rg (r s : Rg) : (binOp .eql 24 (.agg #[.int .u32 r.lo, .int .u32 r.hi]) (.agg #[.int .u32 s.lo, .int .u32 s.hi])).run Tryd.prog w = .ok (.bool (decide (r = s))) w := by
  rw [run_eql_struct]
  rw [show (10000 : Nat) = 9998 + 1 + 1 from rfl, eq_rg, Result.andThen_ok]
theorem guard_bx (op : BinOp) (x y : Operand) (u v : Array Value) : (eqGuard op 26 x y (.agg u) (.agg v)).run Tryd.prog w = .ok () w := run_eqGuard_agg w op _ x y u v (by kernel_rfl)
theorem guard_rg (op : BinOp) (x y : Operand) (u v : Array Value) : (eqGuard op 24 x y (.agg u) (.agg v)).run Tryd.prog w = .ok () w := run_eqGuard_agg w op _ x y u v (by kernel_rfl)
theorem guard_hd (op : BinOp) (x y : Operand) (u v : Array Value) : (eqGuard op 29 x y (.agg u) (.agg v)).run Tryd.prog w = .ok () w := run_eqGuard_agg w op _ x y u v (by kernel_rfl)
theorem stoodH : (Tryd.prog).stoodInHeld 29 = false := by kernel_rfl
theorem fieldsH : (Tryd.prog).underlying 29 = some (.struct ((Tryd.prog).fieldsOf 29)) := by kernel_rfl
theorem eq_hd (d : Nat) (g h : Hd) : (Op.equalIn (d + 1 + 1) 29 (hv g) (hv h)).run Tryd.prog w = .ok (decide (g = h)) w := by
  rw [run_equalIn_struct w (d + 1) _ _ _ fieldsH stoodH]
  obtain ⟨g0, g1, g2, g3, g4⟩ := g
  obtain ⟨h0, h1, h2, h3, h4⟩ := h
  by_cases e0 : g0 = h0 <;> by_cases e1 : g1 = h1 <;> by_cases e2 : g2 = h2 <;> by_cases e3 : g3 = h3 <;> by_cases e4 : g4 = h4 <;> simp [go_sem, Tryd.underlying29, Tryd.underlying22, Tryd.underlying5, Tryd.underlying27, e0, e1, e2, e3, e4]
theorem run_eql_hd (g h : Hd) : (binOp .eql 29 (hv g) (hv h)).run Tryd.prog w = .ok (.bool (decide (g = h))) w := by
  rw [run_eql_struct]
  rw [show (10000 : Nat) = 9998 + 1 + 1 from rfl, eq_hd, Result.andThen_ok]
theorem run_neq_hd (g h : Hd) : (binOp .neq 29 (hv g) (hv h)).run Tryd.prog w = .ok (.bool (!decide (g = h))) w := by
  rw [run_neq_struct]
  rw [show (10000 : Nat) = 9998 + 1 + 1 from rfl, eq_hd, Result.andThen_ok]
end
attribute [go_sem high] run_eql_bx run_neq_bx run_eql_rg run_eql_hd run_neq_hd guard_bx guard_rg guard_hd
end Go.Proofs.YtnhjcbmlplfpmaaDoor
