/- The steps of a loose walk. For any program. -/
import Derived.Test.YtnhjcbmlplfpmaaDoorLoose
namespace Go.Proofs.YtnhjcbmlplfpmaaDoor
open Go.RowKit

/-- operations that never enter a function -/
def noEnterB : Op → Bool
  | .move _ | .assign _ | .pick _ _ _ | .load _ _ | .fieldAddr _ _ _ | .field _ _ _ | .indexAddr _ _ _ | .index _ _ _ | .binOp _ _ _ _ _ | .unOp _ _ _ | .convert _ _ _ | .build _ _ | .extract _ _ | .slice _ _ _ _ _ => true
  | .call c => match c.callee with
    | .builtin .len => true
    | .builtin .min => true
    | .builtin .max => true
    | _ => false
  | _ => false
theorem val_noEnter {P : Program} {w w' : World} {s : Sem Value} {f : FuncId} {args : Array Value} : (s >>= fun x => pure (Next.value x) : Sem Next).run P w ≠ .ok (.enter f args) w' := by
  simp only [Sem.run_bind]
  cases s.run P w with
  | halt x w' => intro h; cases h
  | ok v w' => simp only [Result.andThen_ok, Sem.run_pure]; intro h; cases h
theorem val_noEnter' {r : Result Value} {w' : World} {f : FuncId} {args : Array Value} : (r.andThen fun a w => Result.ok (Next.value a) w) ≠ .ok (.enter f args) w' := by
  cases r with
  | halt x w' => intro h; cases h
  | ok v w' => simp only [Result.andThen_ok]; intro h; cases h
theorem noEnter {P : Program} {ρ : Operand → Value} {o : Oper} (h : noEnterB o.op = true) (w w' : World) (f : FuncId) (args : Array Value) : (execOp ρ o).run P w ≠ .ok (.enter f args) w' := by
  unfold execOp
  cases ho : o.op <;> rw [ho] at h <;> simp only [noEnterB, Bool.false_eq_true] at h <;> first
    | exact val_noEnter
    | (simp only [Sem.run_pure]; intro h; cases h; done)
    | (simp only [Sem.run_bind]; generalize (asBool _).run P w = r; cases r <;> simp [Result.andThen_ok]; done)
    | skip
  case call c =>
    cases hc : c.callee with
    | builtin b =>
      rw [hc] at h
      cases b <;> first
        | exact absurd h (by decide)
        | (unfold resolve; simp only [hc, Sem.run_bind, Sem.run_pure, Result.andThen_ok, invoke, builtin]; exact val_noEnter')
    | value f => rw [hc] at h; exact absurd h (by simp)
    | invoke r n => rw [hc] at h; exact absurd h (by simp)

section
variable {P : Program} {ops : Array Oper} {C D : World → Prop} {M : List Nat} {T : Facts} {Q : (Tmp → Prop) → Act → Prop} {F : Tmp → Prop} {a : Act} {o : Oper} {rest : List Oper}
theorem wpLoose_nil (h : Q F a) : wpLoose P ops C M T Q [] F a := h
theorem loose_skip (hw : Region.wanted o (yielded ops a.tmps) = false) (h : wpLoose P ops C M T Q rest F (a.put o.dst undef)) : wpLoose P ops C M T Q (o :: rest) F a := by
  unfold wpLoose; simp only [hw, Bool.false_eq_true, if_false]; exact h
theorem loose_plain (hT : ∀ d, o.dst = some d → T.at d = none) (hn : noEnterB o.op = true) (hD : ∀ w, C w → D w) (h : wpQuiet P ops D (fun a' => wpLoose P ops C M T Q rest F a') [o] a) : wpLoose P ops C M T Q (o :: rest) F a := by
  unfold wpLoose
  unfold wpQuiet at h
  by_cases hw : Region.wanted o (yielded ops a.tmps) = true
  · simp only [hw, if_true] at h ⊢
    obtain ⟨v, h1, h2⟩ := h
    refine .inr ⟨hT, v, fun w hw _ => ?_, h2⟩
    have h3 := h1 w (hD w hw)
    unfold Oper.quietAt at h3
    have hne := fun w' f args => noEnter (P := P) (ρ := a.eval) hn w w' f args
    generalize (execOp a.eval o).run P w = r at *
    cases r with
    | halt x w' => exact h3.elim
    | ok n w' => cases n <;> simp only [Oper.quietUpon] at h3 <;> simp only [plainUpon]
                 case value u => exact h3
                 case skip => exact h3
                 case enter f args => exact absurd rfl (hne w' f args)
  · simp only [hw] at h ⊢
    exact h
theorem loose_fact {d : Tmp} {Φ : Fact} (hw : Region.wanted o (yielded ops a.tmps) = true) (hd : o.dst = some d) (hT : T.at d = some Φ)
    (h : ∀ w, C w → FactsAt T F (o.looksAt ops) a w → looseUpon P C M Φ w ((execOp a.eval o).run P w))
    (hk : ∀ v w, C w → Φ v w → wpLoose P ops C M T Q rest (insF d F) (a.put (some d) v)) (hsz : d < a.tmps.size) : wpLoose P ops C M T Q (o :: rest) F a := by
  unfold wpLoose
  simp only [hw, if_true]
  refine .inl ⟨d, Φ, hd, hT, h, fun v ⟨w, hi⟩ => hk v w hi.1 ?_⟩
  have := hi.2 d (.inl rfl) Φ hT
  rwa [eval_put_self a d v hsz] at this
/-- a call of which one value is known -/
theorem loose_ret {f : FuncId} {args : Array Value} {w : World} {v : Value} (hc : Calls P f args w fun e w' => e = .returned v ∧ Keep M w w' ∧ C w') :
    Calls P f args w fun e w3 => ∃ u, e = .returned u ∧ Keep M w w3 ∧ C w3 ∧ u = v := hc.mono fun _ _ ⟨h1, h2, h3⟩ => ⟨v, h1, h2, h3, rfl⟩
@[go_sem] theorem looseUpon_enter {Φ : Fact} {w w' : World} {f : FuncId} {args : Array Value} : looseUpon P C M Φ w (.ok (.enter f args) w') ↔ (w' = w ∧ Calls P f args w fun e w3 => ∃ v, e = .returned v ∧ Keep M w w3 ∧ C w3 ∧ Φ v w3) := Iff.rfl
@[go_sem] theorem looseUpon_value {Φ : Fact} {w w' : World} {u : Value} : looseUpon P C M Φ w (.ok (.value u) w') ↔ (Keep M w w' ∧ C w' ∧ Φ u w') := Iff.rfl

theorem lasts_nil : Lasts M C [] := fun d Φ h => by cases h
theorem lasts_cons {d : Tmp} {Φ : Fact} {T : Facts} (h : ∀ v w w', C w → C w' → Keep M w w' → Φ v w → Φ v w') (hT : Lasts M C T) : Lasts M C ((d, Φ) :: T) := by
  intro e Ψ he
  unfold Facts.at at he
  simp only [List.find?_cons] at he
  split at he
  · simp only [Option.map_some, Option.some.injEq] at he
    subst he; exact h
  · exact hT e Ψ he
theorem wpList_done {Q : Exit → Act → World → Prop} {w : World} (h : Q .normal a w) : wpList P ops Q [] a w := h
end
section
variable {P : Program} {M : List Nat} {w0 w : World} {X : List Chunk} {R : List Row} {S : List Ro} {Q : Exit → Act → World → Prop} {a : Act}
theorem own_loose {id : Nat} {l l1 l2 : List Oper} (n : Nat) (T : Facts) (hO : Own M w0 X R S w) (hm : P.follows .mixedOrders = true) (hB : headB .any l.toArray n = true) (hf : fitsB l.toArray a.tmps.size = true) (hs : Split n l l1 l2) (hL : Lasts [] (Own M w0 X R S) T)
    (h : wpLoose P l.toArray (Own M w0 X R S) [] T (fun F a' => ∀ w', Inv (Own M w0 X R S) T F a' w' → wpList P l.toArray Q l2 a' w') l1 (fun _ => False) a) : (Code.region id l.toArray true).wp P Q a w := by
  obtain ⟨rfl, rfl⟩ := hs.eq
  exact wp_region_loose n _ T (Own M w0 X R S) [] hm hB hf rfl hL hO.drew h
end
end Go.Proofs.YtnhjcbmlplfpmaaDoor
