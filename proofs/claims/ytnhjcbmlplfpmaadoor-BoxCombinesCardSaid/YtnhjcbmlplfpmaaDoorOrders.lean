/- Regions that draw their order, walked in each order. For any program. -/
import Derived.Test.YtnhjcbmlplfpmaaDoorLooseW
namespace Go.Proofs.YtnhjcbmlplfpmaaDoor
open Go.RowKit
/-- what follows an operation, or what it ends in -/
def QK (K : Act → World → Prop) (Q : Exit → Act → World → Prop) : Exit → Act → World → Prop
  | .normal, a, w => K a w
  | .exit i, a, w => Q (.exit i) a w
  | .ret, a, w => Q .ret a w
  | .goto l, a, w => Q (.goto l) a w
  | .panic c, a, w => Q (.panic c) a w
  | .outgrown, a, w => Q .outgrown a w
theorem noSkip {P : Program} {ρ : Operand → Value} {o : Oper} (h : noEnterB o.op = true) (w w' : World) : (execOp ρ o).run P w ≠ .ok .skip w' := by
  have val : ∀ {s : Sem Value}, (s >>= fun x => pure (Next.value x) : Sem Next).run P w ≠ .ok .skip w' := by
    intro s
    simp only [Sem.run_bind]
    cases s.run P w with
    | halt x w' => intro h; cases h
    | ok v w' => simp only [Result.andThen_ok, Sem.run_pure]; intro h; cases h
  have val' : ∀ {r : Result Value}, (r.andThen fun a w => Result.ok (Next.value a) w) ≠ .ok .skip w' := by
    intro r
    cases r with
    | halt x w' => intro h; cases h
    | ok v w' => simp only [Result.andThen_ok]; intro h; cases h
  unfold execOp
  cases ho : o.op <;> rw [ho] at h <;> simp only [noEnterB, Bool.false_eq_true] at h <;> first
    | exact val
    | (simp only [Sem.run_pure]; intro h; cases h; done)
    | (simp only [Sem.run_bind]; generalize (asBool _).run P w = r; cases r <;> simp [Result.andThen_ok]; done)
    | skip
  case call c =>
    cases hc : c.callee with
    | builtin b =>
      rw [hc] at h
      cases b <;> first
        | exact absurd h (by decide)
        | (unfold resolve; simp only [hc, Sem.run_bind, Sem.run_pure, Result.andThen_ok, invoke, builtin]; exact val')
    | value f => rw [hc] at h; exact absurd h (by simp)
    | invoke r n => rw [hc] at h; exact absurd h (by simp)

section
variable {P : Program} {ops : Array Oper} {Q : Exit → Act → World → Prop} {K : Act → World → Prop} {i : Nat} {o : Oper} {a : Act} {w : World}
theorem qk_intro (h : K a w) : QK K Q .normal a w := h
theorem wpOp_of_list (hi : ops[i]? = some o) (h : wpList P ops (QK K Q) [o] a w) : wpOp P ops Q i K a w := by
  unfold wpOp
  simp only [hi]
  unfold wpList at h
  split
  · rename_i hw
    rw [if_pos hw] at h
    rcases h with h | ⟨h, hl⟩
    · left
      unfold Oper.wp at h ⊢
      generalize (execOp a.eval o).run P w = r at *
      cases r with
      | ok n w' =>
        cases n <;> simp only [Oper.upon] at h ⊢ <;>
          first
            | exact h
            | exact h.mono (fun e w'' he => by cases e <;> exact he)
            | exact h.mono (fun _ _ he => he)
      | halt x w' => cases x <;> simp only [Oper.upon] at h ⊢ <;> exact h
    · exact .inr ⟨h, hl⟩
  · rename_i hw
    rw [if_neg hw] at h
    exact h
theorem wpOp_of_listL {l : List Oper} (hi : l[i]? = some o) (h : wpList P l.toArray (QK K Q) [o] a w) : wpOp P l.toArray Q i K a w := wpOp_of_list (by simpa using hi) h
theorem wp_via {c : Code} (A : Act) {M : List Nat} {w0 : World} {X : List Chunk} {R : List Row} {S : List Ro} (h : c.wp P (fun e a' w' => e = .normal ∧ a' = A ∧ Own M w0 X R S w') a w) (k : ∀ w', Own M w0 X R S w' → Q .normal A w') : c.wp P Q a w :=
  wp_mono h (by rintro e a' w' ⟨rfl, rfl, hX⟩; exact k w' hX)
theorem wp_via1 {c : Code} (A : Nat → Act) {M : List Nat} {w0 : World} {X : Nat → List Chunk} {R : List Row} {S : List Ro} (h : c.wp P (fun e a' w' => e = .normal ∧ ∃ n, a' = A n ∧ Own M w0 (X n) R S w') a w) (k : ∀ n w', Own M w0 (X n) R S w' → Q .normal (A n) w') : c.wp P Q a w :=
  wp_mono h (by rintro e a' w' ⟨rfl, n, rfl, hX⟩; exact k n w' hX)
theorem wp_via2 {c : Code} (A : Nat → Nat → Act) {M : List Nat} {w0 : World} {X : Nat → Nat → List Chunk} {R : List Row} {S : List Ro} (h : c.wp P (fun e a' w' => e = .normal ∧ ∃ n m, a' = A n m ∧ Own M w0 (X n m) R S w') a w) (k : ∀ n m w', Own M w0 (X n m) R S w' → Q .normal (A n m) w') : c.wp P Q a w :=
  wp_mono h (by rintro e a' w' ⟨rfl, n, m, rfl, hX⟩; exact k n m w' hX)
theorem wpAny_takeP {md : Region.Mode} {oi : Oper} {fuel : Nat} {listed : Array Bool} (hi : ops[i]? = some oi)
    (hs : Region.noSelect ops = true) (hf : Region.free md ops listed i = true) (hr : (Region.ready md ops listed).contains i = true)
    (hQ : ∀ c d v a w, Q (.panic c) (Act.put a d v) w → Q (.panic c) a w) (hn : noEnterB oi.op = true)
    (h : wpQuiet P ops (fun _ => True) (fun a' => wpAny P md ops Q fuel (listed.setIfInBounds i true) a' w) [oi] a) : wpAny P md ops Q (fuel + 1) listed a w := by
  unfold wpQuiet at h
  by_cases hw : Region.wanted oi (yielded ops a.tmps) = true
  · simp only [hw, if_true] at h
    obtain ⟨v, h1, h2⟩ := h
    have hcases : (∀ w', (execOp a.eval oi).run P w' = .ok (.value v) w') ∨ (∀ w', (execOp a.eval oi).run P w' = .ok (.value v) w' ∨ ((execOp a.eval oi).run P w' = .ok .skip w' ∧ v = undef)) := by
      right
      intro w'
      have h3 := h1 w' trivial
      unfold Oper.quietAt at h3
      have hne := fun w'' f args => noEnter (P := P) (ρ := a.eval) hn w' w'' f args
      generalize (execOp a.eval oi).run P w' = r at *
      cases r with
      | halt x w'' => exact h3.elim
      | ok n w'' =>
        cases n <;> simp only [Oper.quietUpon] at h3
        case value u => obtain ⟨rfl, rfl⟩ := h3; exact .inl rfl
        case skip => obtain ⟨rfl, rfl⟩ := h3; exact .inr ⟨rfl, rfl⟩
        case enter f args => exact absurd rfl (hne w'' f args)
    have hval : ∀ w', (execOp a.eval oi).run P w' = .ok (.value v) w' := by
      intro w'
      rcases hcases with hc | hc
      · exact hc w'
      · rcases hc w' with h4 | ⟨h4, _⟩
        · exact h4
        · exact absurd h4 (noSkip hn _ _)
    exact wpAny_take hi hs hf hr (fun c a w => hQ c _ _ a w) (.inl ⟨hw, hval⟩) h2
  · simp only [hw] at h
    exact wpAny_take hi hs hf hr (fun c a w => hQ c _ _ a w) (.inr ⟨by simpa using hw, rfl⟩) h
theorem wpAny_takePL {md : Region.Mode} {l : List Oper} {oi : Oper} {fuel : Nat} {listed : Array Bool} (i : Nat) (hi : l[i]? = some oi)
    (hs : Region.noSelect l.toArray = true) (hf : Region.free md l.toArray listed i = true) (hr : (Region.ready md l.toArray listed).contains i = true)
    (hQ : ∀ c d v a w, Q (.panic c) (Act.put a d v) w → Q (.panic c) a w) (hn : noEnterB oi.op = true)
    (h : wpQuiet P l.toArray (fun _ => True) (fun a' => wpAny P md l.toArray Q fuel (listed.setIfInBounds i true) a' w) [oi] a) : wpAny P md l.toArray Q (fuel + 1) listed a w :=
  wpAny_takeP (by simpa using hi) hs hf hr hQ hn h
theorem ord_nil {p : Nat → Prop} : ∀ i ∈ ([] : List Nat), p i := fun _ h => by cases h
theorem ord_cons {p : Nat → Prop} {k : Nat} {l : List Nat} (h : p k) (hl : ∀ i ∈ l, p i) : ∀ i ∈ k :: l, p i := fun i hi => by
  rcases List.mem_cons.1 hi with rfl | hi
  · exact h
  · exact hl i hi
end
end Go.Proofs.YtnhjcbmlplfpmaaDoor
