/- Regions that draw their order: the first operations in any order, each of them plain (one value in every world of a class) or loose (a value of which a fact is laid down ahead), the rest in their one order. For any program. -/
import Derived.Test.YtnhjcbmlplfpmaaDoorSepL
namespace Go.Proofs.YtnhjcbmlplfpmaaDoor
open Go.RowKit

/-- a fact on a slot's value, in a world -/
abbrev Fact := Value → World → Prop
abbrev Facts := List (Tmp × Fact)
def Facts.at (T : Facts) (d : Tmp) : Option Fact := (T.find? fun p => p.1 == d).map (·.2)
/-- one slot more -/
def insF (d : Tmp) (F : Tmp → Prop) : Tmp → Prop := fun s => s = d ∨ F s
theorem insF_comm (d e : Tmp) (F : Tmp → Prop) : insF d (insF e F) = insF e (insF d F) := by
  funext s; exact propext ⟨fun h => h.elim (fun h => .inr (.inl h)) fun h => h.elim .inl fun h => .inr (.inr h), fun h => h.elim (fun h => .inr (.inl h)) fun h => h.elim .inl fun h => .inr (.inr h)⟩

def plainUpon (w : World) (v : Value) : Result Next → Prop
  | .ok (.value u) w' => w' = w ∧ u = v
  | .ok .skip w' => w' = w ∧ v = undef
  | _ => False
theorem plainUpon_det {w : World} {v v' : Value} {r : Result Next} (h : plainUpon w v r) (h' : plainUpon w v' r) : v = v' := by
  cases r with
  | halt x w' => exact h.elim
  | ok n w' => cases n <;> simp_all [plainUpon]
def looseUpon (P : Program) (C : World → Prop) (M : List Nat) (Φ : Fact) (w : World) : Result Next → Prop
  | .ok (.value u) w' => Keep M w w' ∧ C w' ∧ Φ u w'
  | .ok (.enter f args) w' => w' = w ∧ Calls P f args w fun e w3 => ∃ v, e = .returned v ∧ Keep M w w3 ∧ C w3 ∧ Φ v w3
  | _ => False

section
variable (P : Program) (ops : Array Oper) (C : World → Prop) (M : List Nat) (T : Facts)

/-- the facts of the slots that the operation looks at -/
def FactsAt (F : Tmp → Prop) (L : List Tmp) (a : Act) (w : World) : Prop := ∀ s, F s → s ∈ L → ∀ Φ, T.at s = some Φ → Φ (a.eval (.tmp s)) w
def Inv (F : Tmp → Prop) (a : Act) (w : World) : Prop := C w ∧ ∀ s, F s → ∀ Φ, T.at s = some Φ → Φ (a.eval (.tmp s)) w
def looseOp (F : Tmp → Prop) (o : Oper) (a : Act) (K : (Tmp → Prop) → Act → Prop) : Prop :=
  (∃ d Φ, o.dst = some d ∧ T.at d = some Φ ∧ (∀ w, C w → FactsAt T F (o.looksAt ops) a w → looseUpon P C M Φ w ((execOp a.eval o).run P w)) ∧ ∀ v, (∃ w, Inv C T (insF d F) (a.put (some d) v) w) → K (insF d F) (a.put (some d) v)) ∨
  ((∀ d, o.dst = some d → T.at d = none) ∧ ∃ v, (∀ w, C w → FactsAt T F (o.looksAt ops) a w → plainUpon w v ((execOp a.eval o).run P w)) ∧ K F (a.put o.dst v))
/-- the walk, in the order of the text -/
def wpLoose (Q : (Tmp → Prop) → Act → Prop) : List Oper → (Tmp → Prop) → Act → Prop
  | [], F, a => Q F a
  | o :: rest, F, a => if Region.wanted o (yielded ops a.tmps) then looseOp P ops C M T F o a (wpLoose Q rest) else wpLoose Q rest F (a.put o.dst undef)
def lOp (i : Nat) (K : (Tmp → Prop) → Act → Prop) (F : Tmp → Prop) (a : Act) : Prop :=
  match ops[i]? with
  | none => K F a
  | some o => if Region.wanted o (yielded ops a.tmps) then looseOp P ops C M T F o a K else K F (a.put o.dst undef)
def wpAnyF (md : Region.Mode) (n : Nat) (L : Array Bool → (Tmp → Prop) → Act → Prop) : Nat → Array Bool → (Tmp → Prop) → Act → Prop
  | 0, listed, F, a => L listed F a
  | f + 1, listed, F, a => Region.ready md ops listed ≠ [] ∧ ∀ i ∈ Region.ready md ops listed, i < n ∧ lOp P ops C M T i (wpAnyF md n L f (listed.setIfInBounds i true)) F a
end

section
variable {P : Program} {ops : Array Oper} {C : World → Prop} {M : List Nat} {T : Facts} {md : Region.Mode}

/-- facts last -/
def Lasts (M : List Nat) (C : World → Prop) (T : Facts) : Prop := ∀ d Φ, T.at d = some Φ → ∀ v w w', C w → C w' → Keep M w w' → Φ v w → Φ v w'
/-- each operation has a slot of its own -/
def dstsB (ops : Array Oper) : Bool := (List.range ops.size).all fun i => (List.range ops.size).all fun j => i == j || match ops[i]?, ops[j]? with
  | some x, some y => (match x.dst with | some d => y.dst != some d | none => true)
  | _, _ => true
theorem dstsB_spec (h : dstsB ops = true) {i j : Nat} {x y : Oper} (hi : ops[i]? = some x) (hj : ops[j]? = some y) (hij : i ≠ j) {d : Tmp} (hd : x.dst = some d) : y.dst ≠ some d := by
  have h1 := List.all_eq_true.1 h i (List.mem_range.2 (Array.getElem?_eq_some_iff.1 hi).1)
  have h2 := List.all_eq_true.1 h1 j (List.mem_range.2 (Array.getElem?_eq_some_iff.1 hj).1)
  simp only [hi, hj, hd, Bool.or_eq_true, beq_iff_eq, hij, false_or, bne_iff_ne, ne_eq] at h2
  exact h2

theorem looseOp_mono {F : Tmp → Prop} {o : Oper} {a : Act} {K K' : (Tmp → Prop) → Act → Prop} (h : ∀ F a, K F a → K' F a) (hh : looseOp P ops C M T F o a K) : looseOp P ops C M T F o a K' := by
  rcases hh with ⟨d, Φ, h1, h2, h3, h4⟩ | ⟨h1, v, h2, h3⟩
  · exact .inl ⟨d, Φ, h1, h2, h3, fun v hv => h _ _ (h4 v hv)⟩
  · exact .inr ⟨h1, v, h2, h _ _ h3⟩
theorem lOp_mono {i : Nat} {F : Tmp → Prop} {a : Act} {K K' : (Tmp → Prop) → Act → Prop} (h : ∀ F a, K F a → K' F a) (hh : lOp P ops C M T i K F a) : lOp P ops C M T i K' F a := by
  unfold lOp at *
  split
  · rename_i ho; simp only [ho] at hh; exact h _ _ hh
  · rename_i o ho
    simp only [ho] at hh
    split
    · rename_i hw; simp only [hw, if_true] at hh; exact looseOp_mono h hh
    · rename_i hw; simp only [hw] at hh; exact h _ _ hh

theorem put_size (a : Act) (d : Option Tmp) (v : Value) : (a.put d v).tmps.size = a.tmps.size := by
  cases d <;> simp [Act.put]
theorem eval_put_self (a : Act) (d : Tmp) (v : Value) (hd : d < a.tmps.size) : (a.put (some d) v).eval (.tmp d) = v := by
  simp [Act.eval, Act.put, hd]
theorem eval_put_ne (a : Act) {d s : Tmp} (v : Value) (h : s ≠ d) : (a.put (some d) v).eval (.tmp s) = a.eval (.tmp s) :=
  Act.eval_put fun e he hx => by cases he; cases hx; exact h rfl
theorem eval_put_ne' (a : Act) {o : Option Tmp} {s : Tmp} (v : Value) (h : o ≠ some s) : (a.put o v).eval (.tmp s) = a.eval (.tmp s) :=
  Act.eval_put fun e he hx => by cases he; cases hx; exact h rfl

/-- what an operation looks at is not changed by another's slot -/
theorem factsAt_put {F : Tmp → Prop} {L : List Tmp} {a : Act} {o : Option Tmp} {v : Value} {w : World} (h : ∀ d, o = some d → d ∉ L) : FactsAt T F L (a.put o v) w ↔ FactsAt T F L a w := by
  unfold FactsAt
  constructor
  · intro H s hs hl Φ hΦ
    have := H s hs hl Φ hΦ
    rwa [eval_put_ne' a v (fun e => h s e hl)] at this
  · intro H s hs hl Φ hΦ
    rw [eval_put_ne' a v (fun e => h s e hl)]
    exact H s hs hl Φ hΦ
theorem factsAt_ins {F : Tmp → Prop} {L : List Tmp} {a : Act} {d : Tmp} {w : World} (h : d ∉ L) : FactsAt T (insF d F) L a w ↔ FactsAt T F L a w :=
  ⟨fun H s hs => H s (.inr hs), fun H s hs hl => hs.elim (fun e => absurd hl (e ▸ h)) (fun hs => H s hs hl)⟩
theorem Inv.factsAt {F : Tmp → Prop} {a : Act} {w : World} (h : Inv C T F a w) (L : List Tmp) : FactsAt T F L a w := fun s hs _ => h.2 s hs

/-- a loose operation, carried out in a world where all facts hold -/
theorem loose_alive {F : Tmp → Prop} {o : Oper} {a : Act} {d : Tmp} {Φ : Fact} (hL : Lasts M C T) (hd : o.dst = some d) (hsz : d < a.tmps.size) (hT : T.at d = some Φ)
    (h : ∀ w, C w → FactsAt T F (o.looksAt ops) a w → looseUpon P C M Φ w ((execOp a.eval o).run P w)) {w : World} (hi : Inv C T F a w) : ∃ v w', Inv C T (insF d F) (a.put (some d) v) w' := by
  have fin : ∀ v w', Keep M w w' → C w' → Φ v w' → Inv C T (insF d F) (a.put (some d) v) w' := fun v w' hk hc hv => ⟨hc, fun s hs Φ' hΦ' => by
    by_cases e : s = d
    · subst e
      rw [eval_put_self a s v hsz]
      rw [hT] at hΦ'; cases hΦ'; exact hv
    · rw [eval_put_ne a v e]
      exact hL s Φ' hΦ' _ _ _ hi.1 hc hk (hi.2 s (hs.resolve_left e) Φ' hΦ')⟩
  have h1 := h w hi.1 (hi.factsAt _)
  generalize (execOp a.eval o).run P w = r at h1
  cases r with
  | halt x w' => exact h1.elim
  | ok n w' =>
    cases n <;> simp only [looseUpon] at h1
    case value u => exact ⟨u, w', fin u w' h1.1 h1.2.1 h1.2.2⟩
    case enter f args =>
      obtain ⟨rfl, h2⟩ := h1
      obtain ⟨e, w3, fr, ⟨v, -, h4, h5, h6⟩, -⟩ := h2 []
      exact ⟨v, w3, fin v w3 h4 h5 h6⟩

/-- what an operation is known to do, in its state: to leave this one value; or a value of which this is a fact -/
def DetAt (P : Program) (ops : Array Oper) (C : World → Prop) (T : Facts) (F : Tmp → Prop) (o : Oper) (a : Act) (v : Value) : Prop :=
  (Region.wanted o (yielded ops a.tmps) = false ∧ v = undef) ∨
  (Region.wanted o (yielded ops a.tmps) = true ∧ (∀ d, o.dst = some d → T.at d = none) ∧ ∀ w, C w → FactsAt T F (o.looksAt ops) a w → plainUpon w v ((execOp a.eval o).run P w))
def LooseAt (P : Program) (ops : Array Oper) (C : World → Prop) (M : List Nat) (T : Facts) (F : Tmp → Prop) (o : Oper) (a : Act) (d : Tmp) (Φ : Fact) : Prop :=
  Region.wanted o (yielded ops a.tmps) = true ∧ o.dst = some d ∧ T.at d = some Φ ∧ ∀ w, C w → FactsAt T F (o.looksAt ops) a w → looseUpon P C M Φ w ((execOp a.eval o).run P w)
def Alive (C : World → Prop) (T : Facts) (F : Tmp → Prop) (a : Act) : Prop := ∃ w, Inv C T F a w

theorem lOp_iff {i : Nat} {o : Oper} {F : Tmp → Prop} {a : Act} {K : (Tmp → Prop) → Act → Prop} (hi : ops[i]? = some o) :
    lOp P ops C M T i K F a ↔ (∃ v, DetAt P ops C T F o a v ∧ K F (a.put o.dst v)) ∨
      ∃ d Φ, LooseAt P ops C M T F o a d Φ ∧ ∀ v, Alive C T (insF d F) (a.put (some d) v) → K (insF d F) (a.put (some d) v) := by
  unfold lOp
  simp only [hi]
  by_cases hw : Region.wanted o (yielded ops a.tmps) = true
  · simp only [hw, if_true]
    constructor
    · rintro (⟨d, Φ, h1, h2, h3, h4⟩ | ⟨h1, v, h2, h3⟩)
      · exact .inr ⟨d, Φ, ⟨hw, h1, h2, h3⟩, h4⟩
      · exact .inl ⟨v, .inr ⟨hw, h1, h2⟩, h3⟩
    · rintro (⟨v, h1 | ⟨_, h1, h2⟩, h3⟩ | ⟨d, Φ, ⟨_, h1, h2, h3⟩, h4⟩)
      · rw [hw] at h1; cases h1.1
      · exact .inr ⟨h1, v, h2, h3⟩
      · exact .inl ⟨d, Φ, h1, h2, h3, h4⟩
  · simp only [hw]
    have hw' : Region.wanted o (yielded ops a.tmps) = false := by simpa using hw
    constructor
    · intro h
      exact .inl ⟨undef, .inl ⟨hw', rfl⟩, h⟩
    · rintro (⟨v, ⟨_, rfl⟩ | ⟨h1, _⟩, h3⟩ | ⟨d, Φ, ⟨h1, _⟩, _⟩)
      · exact h3
      · exact absurd h1 hw
      · exact absurd h1 hw

section
variable {F : Tmp → Prop} {o : Oper} {a : Act} {x : Option Tmp} {u : Value}
theorem detAt_put {v : Value} (hs : ∀ cs b, o.op ≠ .select cs b) (h : ∀ d, x = some d → d ∉ o.looksAt ops) : DetAt P ops C T F o (a.put x u) v ↔ DetAt P ops C T F o a v := by
  unfold DetAt
  rw [wanted_put o a x u h, execOp_put o hs a x u h]
  simp only [factsAt_put h]
theorem detAt_ins {v : Value} {d : Tmp} (h : d ∉ o.looksAt ops) : DetAt P ops C T (insF d F) o a v ↔ DetAt P ops C T F o a v := by
  unfold DetAt
  simp only [factsAt_ins h]
theorem looseAt_put {d : Tmp} {Φ : Fact} (hs : ∀ cs b, o.op ≠ .select cs b) (h : ∀ d, x = some d → d ∉ o.looksAt ops) : LooseAt P ops C M T F o (a.put x u) d Φ ↔ LooseAt P ops C M T F o a d Φ := by
  unfold LooseAt
  rw [wanted_put o a x u h, execOp_put o hs a x u h]
  simp only [factsAt_put h]
theorem looseAt_ins {d e : Tmp} {Φ : Fact} (h : e ∉ o.looksAt ops) : LooseAt P ops C M T (insF e F) o a d Φ ↔ LooseAt P ops C M T F o a d Φ := by
  unfold LooseAt
  simp only [factsAt_ins h]
theorem detAt_uniq {v v' : Value} (ha : Alive C T F a) (h : DetAt P ops C T F o a v) (h' : DetAt P ops C T F o a v') : v = v' := by
  rcases h with ⟨h1, rfl⟩ | ⟨h1, h2, h3⟩ <;> rcases h' with ⟨h1', rfl⟩ | ⟨h1', h2', h3'⟩
  · rfl
  · rw [h1] at h1'; cases h1'
  · rw [h1] at h1'; cases h1'
  · obtain ⟨w, hw⟩ := ha
    exact plainUpon_det (h3 w hw.1 (hw.factsAt _)) (h3' w hw.1 (hw.factsAt _))
theorem det_loose {v : Value} {d : Tmp} {Φ : Fact} (h : DetAt P ops C T F o a v) (h' : LooseAt P ops C M T F o a d Φ) : False := by
  rcases h with ⟨h1, _⟩ | ⟨_, h2, _⟩
  · rw [h'.1] at h1; cases h1
  · have := h2 d h'.2.1
    rw [h'.2.2.1] at this; cases this
theorem Alive.put (h : Alive C T F a) (hx : ∀ d, x = some d → ¬ F d) : Alive C T F (a.put x u) := by
  obtain ⟨w, h1, h2⟩ := h
  exact ⟨w, h1, fun s hs Φ hΦ => by rw [eval_put_ne' a u (fun e => hx s e hs)]; exact h2 s hs Φ hΦ⟩
theorem Alive.unput (h : Alive C T F (a.put x u)) (hx : ∀ d, x = some d → ¬ F d) : Alive C T F a := by
  obtain ⟨w, h1, h2⟩ := h
  exact ⟨w, h1, fun s hs Φ hΦ => by have := h2 s hs Φ hΦ; rwa [eval_put_ne' a u (fun e => hx s e hs)] at this⟩
theorem Alive.less {d : Tmp} (h : Alive C T (insF d F) a) : Alive C T F a := by
  obtain ⟨w, h1, h2⟩ := h
  exact ⟨w, h1, fun s hs => h2 s (.inr hs)⟩
end

/-- the heart: what comes first makes no difference -/
theorem lOp_swap {i j : Nat} {oi oj : Oper} (hi : ops[i]? = some oi) (hj : ops[j]? = some oj) (hap : oi.apart ops oj = true) (hL : Lasts M C T)
    (hsi : ∀ cs b, oi.op ≠ .select cs b) (hsj : ∀ cs b, oj.op ≠ .select cs b) {F : Tmp → Prop} {a : Act} {K : (Tmp → Prop) → Act → Prop}
    (hsz : ∀ d, oi.dst = some d → d < a.tmps.size) (hFi : ∀ d, oi.dst = some d → ¬ F d) (hFj : ∀ d, oj.dst = some d → ¬ F d) (ha : Alive C T F a)
    (H : lOp P ops C M T i (fun F' a' => lOp P ops C M T j K F' a') F a) :
    lOp P ops C M T j (fun F' a' => Alive C T F' a' ∧ a'.tmps.size = a.tmps.size ∧ (F' = F ∨ ∃ d, oj.dst = some d ∧ F' = insF d F) ∧ lOp P ops C M T i K F' a') F a := by
  obtain ⟨h1, h2, h3⟩ := Oper.apart_spec hap
  rw [lOp_iff hi] at H
  rw [lOp_iff hj]
  rcases H with ⟨vi, hdi, H⟩ | ⟨d, Φ, hli, H⟩
  · rw [lOp_iff hj] at H
    rcases H with ⟨vj, hdj, H⟩ | ⟨e, Ψ, hlj, H⟩
    · rw [detAt_put hsj h1] at hdj
      refine .inl ⟨vj, hdj, ha.put hFj, put_size _ _ _, .inl rfl, (lOp_iff hi).2 (.inl ⟨vi, (detAt_put hsi h3).2 hdi, ?_⟩)⟩
      rw [← Act.put_comm a vi vj h2]; exact H
    · rw [looseAt_put hsj h1] at hlj
      have hde := hlj.2.1
      refine .inr ⟨e, Ψ, hlj, fun v hv => ⟨hv, put_size _ _ _, .inr ⟨e, hde, rfl⟩, (lOp_iff hi).2 (.inl ⟨vi, (detAt_ins (h3 e hde)).2 ((detAt_put hsi fun y hy => by cases hy; exact h3 e hde).2 hdi), ?_⟩)⟩⟩
      have h2' : ∀ d, oi.dst = some d → (some e : Option Tmp) ≠ some d := fun d hd => hde ▸ h2 d hd
      rw [← Act.put_comm a vi v h2']
      refine H v ?_
      rw [Act.put_comm a vi v h2']
      exact hv.put fun d hd hf => hf.elim (fun e' => h2' d hd (by rw [e'])) (hFi d hd)
  · have hd := hli.2.1
    obtain ⟨v0, w0, hv0⟩ : ∃ v w', Inv C T (insF d F) (a.put (some d) v) w' := by
      obtain ⟨w, hw⟩ := ha
      exact loose_alive hL hd (hsz d hd) hli.2.2.1 hli.2.2.2 hw
    have H0 := H v0 ⟨w0, hv0⟩
    rw [lOp_iff hj] at H0
    have hdl := h1 d hd
    have hx1 : ∀ e, (some d : Option Tmp) = some e → e ∉ oj.looksAt ops := fun e he => by cases he; exact hdl
    rcases H0 with ⟨vj, hdj, _⟩ | ⟨e, Ψ, hlj, _⟩
    · rw [detAt_ins hdl, detAt_put hsj hx1] at hdj
      refine .inl ⟨vj, hdj, ha.put hFj, put_size _ _ _, .inl rfl, (lOp_iff hi).2 (.inr ⟨d, Φ, (looseAt_put hsi h3).2 hli, fun v hv => ?_⟩)⟩
      have h2' : ∀ e, (some d : Option Tmp) = some e → oj.dst ≠ some e := fun e he => by cases he; exact h2 d hd
      rw [← Act.put_comm a v vj h2'] at hv ⊢
      have hal : Alive C T (insF d F) (a.put (some d) v) := hv.unput fun e he hf => hf.elim (fun e' => h2 d hd (by rw [he, e'])) (hFj e he)
      have H1 := H v hal
      rw [lOp_iff hj] at H1
      rcases H1 with ⟨vj', hdj', H1⟩ | ⟨e, Ψ, hlj', _⟩
      · rw [detAt_ins hdl, detAt_put hsj hx1] at hdj'
        rw [detAt_uniq ha hdj hdj']; exact H1
      · rw [looseAt_ins hdl, looseAt_put hsj hx1] at hlj'
        exact (det_loose hdj hlj').elim
    · rw [looseAt_ins hdl, looseAt_put hsj hx1] at hlj
      have hde := hlj.2.1
      have hne : d ≠ e := fun he => h2 d hd (by rw [hde, he])
      have h3' : ∀ y, (some e : Option Tmp) = some y → y ∉ oi.looksAt ops := fun y hy => by cases hy; exact h3 e hde
      refine .inr ⟨e, Ψ, hlj, fun vj hvj => ⟨hvj, put_size _ _ _, .inr ⟨e, hde, rfl⟩, (lOp_iff hi).2 (.inr ⟨d, Φ, (looseAt_ins (h3 e hde)).2 ((looseAt_put hsi h3').2 hli), fun v hv => ?_⟩)⟩⟩
      have h2' : ∀ y, (some d : Option Tmp) = some y → (some e : Option Tmp) ≠ some y := fun y hy he => by cases hy; cases he; exact hne rfl
      rw [← Act.put_comm a v vj h2', insF_comm] at hv ⊢
      have hal : Alive C T (insF d F) (a.put (some d) v) := hv.less.unput fun y hy hf => by
        cases hy
        exact hf.elim (fun e' => hne e'.symm) (hFj e hde)
      have H1 := H v hal
      rw [lOp_iff hj] at H1
      rcases H1 with ⟨vj', hdj', _⟩ | ⟨e', Ψ', hlj', H1⟩
      · rw [detAt_ins hdl, detAt_put hsj hx1] at hdj'
        exact (det_loose hdj' hlj).elim
      · have e1 : e' = e := Option.some.inj (hlj'.2.1.symm.trans hde)
        subst e1
        exact H1 vj hv

/-- the slots of what has not come up yet bear no fact -/
def Fresh (ops : Array Oper) (listed : Array Bool) (F : Tmp → Prop) : Prop := ∀ k ok d, ops[k]? = some ok → listed.getD k true = false → ok.dst = some d → ¬ F d
theorem Fresh.set {listed : Array Bool} {F F' : Tmp → Prop} (hB : dstsB ops = true) {j : Nat} {oj : Oper} (hj : ops[j]? = some oj) (h : Fresh ops listed F) (hF : F' = F ∨ ∃ d, oj.dst = some d ∧ F' = insF d F) :
    Fresh ops (listed.setIfInBounds j true) F' := by
  intro k ok d hk hl hd
  have hne : j ≠ k := by
    intro e; subst e
    rcases Nat.lt_or_ge j listed.size with h' | h'
    · simp [h'] at hl
    · simp at hl
  rw [getD_set_ne true hne] at hl
  have h1 := h k ok d hk hl hd
  rcases hF with rfl | ⟨e, he, rfl⟩
  · exact h1
  · intro hh
    rcases hh with rfl | hh
    · exact dstsB_spec hB hj hk hne he hd
    · exact h1 hh
def Fits (ops : Array Oper) (a : Act) : Prop := ∀ (i : Nat) (o : Oper) (d : Tmp), ops[i]? = some o → o.dst = some d → d < a.tmps.size

theorem lOp_some {i : Nat} {oi : Oper} (hi : ops[i]? = some oi) (hL : Lasts M C T) {F : Tmp → Prop} {a : Act} {K : (Tmp → Prop) → Act → Prop} (hsz : Fits ops a) (ha : Alive C T F a) (h : lOp P ops C M T i K F a) : ∃ F' a', K F' a' := by
  rw [lOp_iff hi] at h
  rcases h with ⟨v, _, h⟩ | ⟨d, Φ, hl, h⟩
  · exact ⟨_, _, h⟩
  · obtain ⟨w, hw⟩ := ha
    obtain ⟨v, w', hv⟩ := loose_alive hL hl.2.1 (hsz i oi d hi hl.2.1) hl.2.2.1 hl.2.2.2 hw
    exact ⟨_, _, h v ⟨w', hv⟩⟩

theorem wpAnyF_first {I : Array Bool → Prop} {n i : Nat} {oi : Oper} {L : Array Bool → (Tmp → Prop) → Act → Prop} (hi : ops[i]? = some oi) (hsel : ∀ (j : Nat) (o : Oper) cs b, ops[j]? = some o → o.op ≠ .select cs b)
    (hL : Lasts M C T) (hB : dstsB ops = true) (hI : ∀ listed j, I listed → j ∈ Region.ready md ops listed → j < n → I (listed.setIfInBounds j true))
    (hhead : ∀ listed, I listed → listed.getD i true = false → ∀ j ∈ Region.ready md ops listed, j < n)
    (hdone : ∀ listed F a, L listed F a → ∀ j ∈ Region.ready md ops listed, n ≤ j) :
    ∀ (f : Nat) (listed : Array Bool) (F : Tmp → Prop) (a : Act), I listed → Fresh ops listed F → Fits ops a → Alive C T F a →
      (∀ j oj, ops[j]? = some oj → j ≠ i → listed.getD j true = false → (∀ e ∈ oj.after, Region.binds md e = true → e.on ≠ i) → oi.apart ops oj = true) →
      i ∈ Region.ready md ops listed → lOp P ops C M T i (wpAnyF P ops C M T md n L f (listed.setIfInBounds i true)) F a → wpAnyF P ops C M T md n L (f + 1) listed F a := by
  intro f
  induction f with
  | zero =>
    intro listed F a inv _ hsz ha hfree hr H
    have hun := (mem_ready.1 hr).1
    refine ⟨fun h => (by rw [h] at hr; cases hr), fun j hj => ?_⟩
    have hjn := hhead listed inv hun j hj
    refine ⟨hjn, ?_⟩
    by_cases hji : j = i
    · subst hji; exact H
    · obtain ⟨F', a', H'⟩ := lOp_some hi hL hsz ha H
      have := hdone _ _ _ H' j (ready_mono hj hji)
      omega
  | succ f ih =>
    intro listed F a inv hFr hsz ha hfree hr H
    have hun := (mem_ready.1 hr).1
    refine ⟨fun h => (by rw [h] at hr; cases hr), fun j hj => ?_⟩
    have hjn := hhead listed inv hun j hj
    refine ⟨hjn, ?_⟩
    by_cases hji : j = i
    · subst hji; exact H
    · have hjr := ready_mono hj hji
      obtain ⟨hjun, oj, hoj, hall⟩ := mem_ready.1 hj
      have hnot : ∀ e ∈ oj.after, Region.binds md e = true → e.on ≠ i := fun e he hb heq => by
        have h1 := hall e he hb
        rw [heq, getD_both hun] at h1
        cases h1
      have H1 := lOp_mono (fun F' a' h => (h.2 j hjr).2) H
      have h2 := lOp_swap hi hoj (hfree j oj hoj hji hjun hnot) hL (fun cs b => hsel i oi cs b hi) (fun cs b => hsel j oj cs b hoj) (fun d hd => hsz i oi d hi hd) (fun d hd => hFr i oi d hi hun hd) (fun d hd => hFr j oj d hoj hjun hd) ha H1
      have hfree' : ∀ k ok, ops[k]? = some ok → k ≠ i → (listed.setIfInBounds j true).getD k true = false →
          (∀ e ∈ ok.after, Region.binds md e = true → e.on ≠ i) → oi.apart ops ok = true := fun k ok hk hki hun hno => by
        refine hfree k ok hk hki ?_ hno
        by_cases hjk : j = k
        · subst hjk; exact hjun
        · rw [getD_set_ne true hjk] at hun; exact hun
      refine lOp_mono (fun F' a' h3 => ?_) h2
      obtain ⟨hal, hsz', hF', h4⟩ := h3
      refine ih (listed.setIfInBounds j true) F' a' (hI _ _ inv hj hjn) (hFr.set hB hoj hF') (fun i o d h1 h2 => by rw [hsz']; exact hsz i o d h1 h2) hal hfree' (ready_mono hr (Ne.symm hji)) ?_
      rw [Array.setIfInBounds_comm _ _ hji]
      exact h4

/-- the operations of the list, one behind the other, each ready and free; the rest in its one order -/
def lexK (md : Region.Mode) (ops : Array Oper) (n g : Nat) : List Nat → Array Bool → Bool
  | [], listed => Region.seqB md ops g n listed
  | k :: ks, listed => decide (k < n) && (Region.ready md ops listed).contains k && Region.free md ops listed k && lexK md ops n g ks (listed.setIfInBounds k true)
theorem wpAnyF_lex {I : Array Bool → Prop} {n g : Nat} {Lq : (Tmp → Prop) → Act → Prop} (hsel : Region.noSelect ops = true) (hL : Lasts M C T) (hB : dstsB ops = true)
    (hI : ∀ listed j, I listed → j ∈ Region.ready md ops listed → j < n → I (listed.setIfInBounds j true))
    (hhead : ∀ i listed, i < n → I listed → listed.getD i true = false → ∀ j ∈ Region.ready md ops listed, j < n) :
    ∀ (ks : List (Nat × Oper)) (listed : Array Bool) (F : Tmp → Prop) (a : Act), (∀ p ∈ ks, ops[p.1]? = some p.2) → I listed → Fresh ops listed F → Fits ops a → Alive C T F a →
    lexK md ops n g (ks.map (·.1)) listed = true → wpLoose P ops C M T Lq (ks.map (·.2)) F a →
    wpAnyF P ops C M T md n (fun listed' F' a' => Region.seqB md ops g n listed' = true ∧ Lq F' a') ks.length listed F a
  | [], listed, F, a, _, _, _, _, _, hlex, h => ⟨by simpa [lexK] using hlex, h⟩
  | (k, o) :: ks, listed, F, a, hl, inv, hFr, hsz, ha, hlex, h => by
    have h0 : ops[k]? = some o := hl (k, o) (by simp)
    simp only [List.map_cons, lexK, Bool.and_eq_true, decide_eq_true_eq] at hlex h
    obtain ⟨⟨⟨hkn, hr⟩, hf⟩, hlex'⟩ := hlex
    have hr' : k ∈ Region.ready md ops listed := by simpa using hr
    have hun := (mem_ready.1 hr').1
    have hop : lOp P ops C M T k (wpLoose P ops C M T Lq (ks.map (·.2))) F a := by unfold lOp; simp only [h0]; exact h
    refine wpAnyF_first h0 (Region.noSelect_spec hsel) hL hB hI (fun listed' => hhead k listed' hkn) (fun listed' F' a' h => seqB_ready h.1) ks.length listed F a inv hFr hsz ha (Region.free_spec h0 hf) hr' ?_
    -- behind it: the rest
    rw [lOp_iff h0] at hop ⊢
    have rest : ∀ F' a', a'.tmps.size = a.tmps.size → (F' = F ∨ ∃ d, o.dst = some d ∧ F' = insF d F) → Alive C T F' a' → wpLoose P ops C M T Lq (ks.map (·.2)) F' a' → wpAnyF P ops C M T md n (fun listed' F' a' => Region.seqB md ops g n listed' = true ∧ Lq F' a') ks.length (listed.setIfInBounds k true) F' a' :=
      fun F' a' hs hF hal h => wpAnyF_lex hsel hL hB hI hhead ks _ F' a' (fun p hp => hl p (by simp [hp])) (hI _ _ inv hr' hkn) (hFr.set hB h0 hF)
        (fun i o d h1 h2 => by rw [hs]; exact hsz i o d h1 h2) hal hlex' h
    rcases hop with ⟨v, hd, h⟩ | ⟨d, Φ, hl', h⟩
    · exact .inl ⟨v, hd, rest F _ (put_size _ _ _) (.inl rfl) (ha.put fun d hd' => hFr k o d h0 hun hd') h⟩
    · exact .inr ⟨d, Φ, hl', fun v hv => rest _ _ (put_size _ _ _) (.inr ⟨d, hl'.2.1, rfl⟩) hv (h v hv)⟩

/-- from every world where the facts hold -/
theorem wpOp_of_lOp {i : Nat} {oi : Oper} (hi : ops[i]? = some oi) (hL : Lasts M C T) {F : Tmp → Prop} {a : Act} {w : World} {K : (Tmp → Prop) → Act → Prop} {K' : Act → World → Prop} {Q' : Exit → Act → World → Prop} (hsz : Fits ops a) (hFr : ∀ d, oi.dst = some d → ¬ F d) (hw : Inv C T F a w)
    (h : ∀ F' a' w', a'.tmps.size = a.tmps.size → (F' = F ∨ ∃ d, oi.dst = some d ∧ F' = insF d F) → Inv C T F' a' w' → K F' a' → K' a' w') (hh : lOp P ops C M T i K F a) : wpOp P ops Q' i K' a w := by
  rw [lOp_iff hi] at hh
  unfold wpOp
  simp only [hi]
  rcases hh with ⟨v, hd, hk⟩ | ⟨d, Φ, hl, hk⟩
  · have hw' : Inv C T F (a.put oi.dst v) w := ⟨hw.1, fun s hs Φ hΦ => by rw [eval_put_ne' a v (fun e => hFr s e hs)]; exact hw.2 s hs Φ hΦ⟩
    rcases hd with ⟨h1, rfl⟩ | ⟨h1, h2, h3⟩
    · simp only [h1, Bool.false_eq_true, if_false]
      exact h _ _ _ (put_size _ _ _) (.inl rfl) hw' hk
    · simp only [h1, if_true]
      left
      have h4 := h3 w hw.1 (hw.factsAt _)
      unfold Oper.wp
      generalize (execOp a.eval oi).run P w = r at *
      cases r with
      | halt x w' => exact h4.elim
      | ok n w' =>
        cases n <;> simp only [plainUpon] at h4 <;> simp only [Oper.upon]
        case value u => obtain ⟨rfl, rfl⟩ := h4; exact h _ _ _ (put_size _ _ _) (.inl rfl) hw' hk
        case skip => obtain ⟨rfl, rfl⟩ := h4; exact h _ _ _ (put_size _ _ _) (.inl rfl) hw' hk
  · obtain ⟨h1, h2, h3, h4⟩ := hl
    simp only [h1, if_true]
    left
    have h5 := h4 w hw.1 (hw.factsAt _)
    have fin : ∀ v w', Keep M w w' → C w' → Φ v w' → K' (a.put oi.dst v) w' := fun v w' hk' hc hv => by
      have hi' : Inv C T (insF d F) (a.put (some d) v) w' := ⟨hc, fun s hs Φ' hΦ' => by
        by_cases e : s = d
        · subst e
          rw [eval_put_self a s v (hsz i oi s hi h2)]
          rw [h3] at hΦ'; cases hΦ'; exact hv
        · rw [eval_put_ne a v e]
          exact hL s Φ' hΦ' _ _ _ hw.1 hc hk' (hw.2 s (hs.resolve_left e) Φ' hΦ')⟩
      rw [h2]
      exact h _ _ _ (put_size _ _ _) (.inr ⟨d, h2, rfl⟩) hi' (hk v ⟨w', hi'⟩)
    unfold Oper.wp
    generalize (execOp a.eval oi).run P w = r at *
    cases r with
    | halt x w' => exact h5.elim
    | ok n w' =>
      cases n <;> simp only [looseUpon] at h5 <;> simp only [Oper.upon]
      case value u => exact fin u w' h5.1 h5.2.1 h5.2.2
      case enter f args =>
        obtain ⟨rfl, h6⟩ := h5
        refine h6.mono fun e w3 ⟨v, he, h7, h8, h9⟩ => ?_
        subst he
        exact fin v w3 h7 h8 h9

theorem wpAny_of_F {n g : Nat} {L : Array Bool → (Tmp → Prop) → Act → Prop} {Q' : Exit → Act → World → Prop} (hL : Lasts M C T) (hB : dstsB ops = true)
    (hfin : ∀ listed F a w, L listed F a → Inv C T F a w → wpAny P md ops Q' g listed a w) :
    ∀ (f : Nat) (listed : Array Bool) (F : Tmp → Prop) (a : Act) (w : World), Fresh ops listed F → Fits ops a → Inv C T F a w → wpAnyF P ops C M T md n L f listed F a → wpAny P md ops Q' (f + g) listed a w
  | 0, listed, F, a, w, _, _, hi, h => by rw [Nat.zero_add]; exact hfin _ _ _ _ h hi
  | f + 1, listed, F, a, w, hFr, hsz, hi, h => by
    rw [show f + 1 + g = (f + g) + 1 by omega]
    refine ⟨fun h0 => absurd h0 h.1, fun i hir => ?_⟩
    obtain ⟨hun, oi, hoi, _⟩ := mem_ready.1 hir
    exact wpOp_of_lOp hoi hL hsz (fun d hd => hFr i oi d hoi hun hd) hi (fun F' a' w' hs hF hi' h' => wpAny_of_F hL hB hfin f _ F' a' w' (hFr.set hB hoi hF) (fun i o d h1 h2 => by rw [hs]; exact hsz i o d h1 h2) hi' h') (h.2 i hir).2

/-- what comes last waits for the head, but for what was listed ahead -/
def sinkF (md : Region.Mode) (ops : Array Oper) (n : Nat) (fl : List Nat) : Bool :=
  (List.range n).all fun i => fl.contains i || (List.range (n + 1)).any fun j => decide (i < j) && !fl.contains j && Region.waitsFor md ops j i
theorem tail_waitsF {n : Nat} {fl : List Nat} {listed : Array Bool} (hs : sinkF md ops n fl = true) (hc : Region.chainB md ops n = true) (hn : n < ops.size) (inv : HeadInv md ops n listed) (hfl : ∀ f ∈ fl, listed.getD f false = true) {t : Nat} (ht : n ≤ t) (hr : t ∈ Region.ready md ops listed) :
    ∀ (d i : Nat), n - i = d → i < n → listed.getD i true = true := by
  intro d
  induction d using Nat.strongRecOn with
  | _ d ih =>
    intro i hd hi
    cases hun : listed.getD i true with
    | true => rfl
    | false =>
      exfalso
      obtain ⟨_, ot, hot, hall⟩ := mem_ready.1 hr
      have htlt : t < ops.size := (Array.getElem?_eq_some_iff.1 hot).1
      by_cases htn : t = n
      · subst htn
        have h1 := List.all_eq_true.1 hs i (List.mem_range.2 hi)
        rcases (Bool.or_eq_true _ _).mp h1 with hf | h1
        · have h2 := getD_both hun; rw [hfl i (by simpa using hf)] at h2; cases h2
        · obtain ⟨j, hj, hj2⟩ := List.any_eq_true.1 h1
          simp only [Bool.and_eq_true, decide_eq_true_eq] at hj2
          obtain ⟨oj, hoj, e, he, hb, hon⟩ := Region.waitsFor_spec hj2.2
          have hjle : j ≤ t := by have := List.mem_range.1 hj; omega
          have hcl : listed.getD j false = true → False := fun hl => by
            have h2 := inv.closed j oj hoj hl e he hb
            rw [hon, getD_both hun] at h2
            cases h2
          by_cases hjt : j = t
          · subst hjt
            obtain rfl : oj = ot := Option.some.inj (hoj.symm.trans hot)
            have h2 := hall e he hb
            rw [hon, getD_both hun] at h2
            cases h2
          · have hjl := ih (t - j) (by omega) j rfl (by omega)
            have hjs : j < listed.size := by rw [inv.size]; omega
            exact hcl (by simp [hjs] at hjl ⊢; exact hjl)
      · have h1 := List.all_eq_true.1 hc t (List.mem_range.2 htlt)
        simp only [Bool.or_eq_true, decide_eq_true_eq] at h1
        rcases h1 with h1 | h1
        · omega
        · obtain ⟨o', ho', e, he, hb, hon⟩ := Region.waitsFor_spec h1
          obtain rfl : o' = ot := Option.some.inj (ho'.symm.trans hot)
          have h2 := hall e he hb
          rw [hon, getD_both (inv.tail (t - 1) (by omega) (by omega))] at h2
          cases h2

/-- operations that only move, taken ahead -/
def listF (fl : List Nat) (listed : Array Bool) : Array Bool := fl.foldl (fun l i => l.setIfInBounds i true) listed
def floatAct (ops : Array Oper) : List Nat → Act → Act
  | [], a => a
  | i :: is, a => floatAct ops is (match ops[i]? with | some o => (match o.op with | .move x => a.put o.dst (a.eval x) | _ => a) | none => a)
def floatB (md : Region.Mode) (ops : Array Oper) : List Nat → Array Bool → Bool
  | [], _ => true
  | i :: is, listed => (match ops[i]? with | some o => o.guard.isNone && (match o.op with | .move _ => true | _ => false) | none => false) && Region.free md ops listed i && (Region.ready md ops listed).contains i && floatB md ops is (listed.setIfInBounds i true)
theorem wpAny_float {Q : Exit → Act → World → Prop} (hs : Region.noSelect ops = true) (hQ : ∀ d v c a w, Q (.panic c) (Act.put a d v) w → Q (.panic c) a w) {w : World} {fuel : Nat} : ∀ (fl : List Nat) (listed : Array Bool) (a : Act), floatB md ops fl listed = true →
    wpAny P md ops Q fuel (listF fl listed) (floatAct ops fl a) w → wpAny P md ops Q (fuel + fl.length) listed a w
  | [], listed, a, _, h => h
  | i :: is, listed, a, hB, h => by
    simp only [floatB, Bool.and_eq_true] at hB
    obtain ⟨⟨⟨h1, h2⟩, h3⟩, h4⟩ := hB
    cases ho : ops[i]? with
    | none => simp [ho] at h1
    | some o =>
      simp only [ho, Bool.and_eq_true] at h1
      cases hop : o.op with
      | move x =>
        have hg : o.guard = none := by simpa using h1.1
        have ih := wpAny_float hs hQ (w := w) (fuel := fuel) is (listed.setIfInBounds i true) (a.put o.dst (a.eval x)) h4 (by simpa [listF, floatAct, ho, hop] using h)
        rw [List.length_cons, ← Nat.add_assoc]
        refine wpAny_take ho hs h2 h3 (hQ _ _) (.inl ⟨by simp [Region.wanted, hg], fun w => ?_⟩) ih
        unfold execOp
        simp only [hop, Sem.run_pure]
      | _ => simp [hop] at h1

theorem getD_listF {fl : List Nat} : ∀ (listed : Array Bool) {j : Nat} {b : Bool}, (∀ f ∈ fl, f < listed.size) → (listF fl listed).getD j b = (fl.contains j || listed.getD j b) := by
  induction fl with
  | nil => intro listed j b _; simp [listF]
  | cons f fl ih =>
    intro listed j b hl
    have := ih (listed.setIfInBounds f true) (j := j) (b := b) (fun g hg => by simpa using hl g (by simp [hg]))
    simp only [listF, List.foldl_cons] at this ⊢
    rw [this]
    by_cases e : f = j
    · subst e
      have hf := hl f (by simp)
      simp [hf]
    · rw [getD_set_ne b e]
      have : ¬ j = f := fun h => e h.symm
      simp [this]
theorem size_listF {fl : List Nat} : ∀ (listed : Array Bool), (listF fl listed).size = listed.size := by
  induction fl with
  | nil => intro listed; rfl
  | cons f fl ih => intro listed; simp only [listF, List.foldl_cons]; have := ih (listed.setIfInBounds f true); simpa [listF] using this

/-- the Bool over a region: some moves ahead (fl), the operations ks (all others below n) in any order, the rest in its one order -/
def headF (md : Region.Mode) (ops : Array Oper) (n : Nat) (fl ks : List Nat) : Bool :=
  Region.noSelect ops && dstsB ops && (n == ops.size || decide (n < ops.size) && sinkF md ops n fl && Region.chainB md ops n) && fl.all (fun f => decide (f < n) && decide (f < ops.size) && (match ops[f]? with | some o => o.after.all (fun e => !Region.binds md e) | none => true)) &&
  floatB md ops fl (Array.replicate ops.size false) && lexK md ops n (ops.size - n) ks (listF fl (Array.replicate ops.size false)) && decide (ks.length + fl.length = n) && decide (n ≤ ops.size) && ks.all (fun k => decide (k < ops.size))
def headB (md : Region.Mode) (ops : Array Oper) (n : Nat) : Bool := headF md ops n [] (List.range n)
def fitsB (ops : Array Oper) (m : Nat) : Bool := (List.range ops.size).all fun i => match ops[i]? with | some o => (match o.dst with | some d => decide (d < m) | none => true) | none => true
theorem fits_of {a : Act} {m : Nat} (h : fitsB ops m = true) (hm : a.tmps.size = m) : Fits ops a := by
  intro i o d hi hd
  have h1 := List.all_eq_true.1 h i (List.mem_range.2 (Array.getElem?_eq_some_iff.1 hi).1)
  simp only [hi, hd, decide_eq_true_eq] at h1
  rw [hm]; exact h1
theorem floatAct_size : ∀ (fl : List Nat) (a : Act), (floatAct ops fl a).tmps.size = a.tmps.size
  | [], a => rfl
  | i :: is, a => by
    simp only [floatAct]
    rw [floatAct_size is]
    split
    · split
      · exact put_size _ _ _
      · rfl
    · rfl
def pickK (ops : Array Oper) (ks : List Nat) : List Oper := ks.filterMap fun k => ops[k]?
theorem pickK_of {ops : Array Oper} : ∀ (ks : List Nat), (∀ k ∈ ks, ops[k]? = some (ops.getD k default)) → (ks.map fun k => ops.getD k default) = pickK ops ks
  | [], _ => rfl
  | k :: ks, h => by
    have ih := pickK_of ks (fun k hk => h k (by simp [hk]))
    have hk := h k (by simp)
    unfold pickK at ih ⊢
    rw [List.map_cons, List.filterMap_cons, hk, ih]
theorem wp_region_float {id : Nat} {Q : Exit → Act → World → Prop} {a : Act} {w : World} {l : List Oper} (n m : Nat) (fl ks : List Nat) (T : Facts) (C : World → Prop) (M : List Nat) (hm : P.follows .mixedOrders = true) (hB : headF .any l.toArray n fl ks = true) (hf : fitsB l.toArray m = true) (hs : a.tmps.size = m) (hL : Lasts M C T)
    (hQ : fl = [] ∨ ∀ d v c a w, Q (.panic c) (Act.put a d v) w → Q (.panic c) a w)
    (hC : C w.drew) (h : wpLoose P l.toArray C M T (fun F a' => ∀ w', Inv C T F a' w' → wpList P l.toArray Q (l.drop n) a' w') (pickK l.toArray ks) (fun _ => False) (floatAct l.toArray fl a)) : (Code.region id l.toArray true).wp P Q a w := by
  simp only [headF, Bool.and_eq_true, Bool.or_eq_true, beq_iff_eq, decide_eq_true_eq] at hB
  obtain ⟨⟨⟨⟨⟨⟨⟨⟨hsel, hdst⟩, hn⟩, hfl⟩, hfB⟩, hlex⟩, hlen⟩, hle⟩, hks⟩ := hB
  have hdl : (l.drop n).length = l.toArray.size - n := by simp
  have hflt : ∀ f ∈ fl, f < n ∧ f < l.toArray.size ∧ ∀ o, l.toArray[f]? = some o → ∀ e ∈ o.after, Region.binds .any e = false := fun f hf' => by
    have := List.all_eq_true.1 hfl f hf'
    simp only [Bool.and_eq_true, decide_eq_true_eq] at this
    refine ⟨this.1.1, this.1.2, fun o ho e he => ?_⟩
    have h2 := this.2
    simp only [ho] at h2
    have := Array.all_eq_true_iff_forall_mem.1 h2 e he
    simpa using this
  let L0 := listF fl (Array.replicate l.toArray.size false)
  have hget : ∀ j b, L0.getD j b = (fl.contains j || (Array.replicate l.toArray.size false).getD j b) := fun j b => getD_listF _ (fun f hf' => by simpa using (hflt f hf').2.1)
  have inv0 : HeadInv .any l.toArray n L0 := by
    refine ⟨by show (listF fl _).size = _; rw [size_listF]; simp, fun j oj hj hl e he hb => ?_, fun t ht1 ht => ?_⟩
    · rw [hget, getD_replicate_false, Bool.or_false] at hl
      have := (hflt j (by simpa using hl)).2.2 oj hj e he
      rw [hb] at this; cases this
    · rw [hget]
      have h1 : fl.contains t = false := by
        cases hc : fl.contains t with
        | false => rfl
        | true => have := (hflt t (by simpa using hc)).1; omega
      rw [h1, Bool.false_or]
      exact getD_in (by simpa using ht) (getD_replicate_false _ _)
  have hi0 : Inv C T (fun _ => False) (floatAct l.toArray fl a) w.drew := ⟨hC, fun _ h => h.elim⟩
  have hFr0 : Fresh l.toArray L0 (fun _ => False) := fun _ _ _ _ _ _ h => h
  have hsz0 : Fits l.toArray (floatAct l.toArray fl a) := fits_of hf (by rw [floatAct_size]; exact hs)
  let I : Array Bool → Prop := fun listed => HeadInv .any l.toArray n listed ∧ ∀ f ∈ fl, listed.getD f false = true
  have hI0 : I L0 := ⟨inv0, fun f hf' => by rw [hget]; simp [hf']⟩
  have hIset : ∀ listed j, I listed → j ∈ Region.ready .any l.toArray listed → j < n → I (listed.setIfInBounds j true) := fun listed j hi hj hjn =>
    ⟨hi.1.set hj hjn, fun f hf' => getD_set_true (hi.2 f hf')⟩
  have hhead : ∀ i listed, i < n → I listed → listed.getD i true = false → ∀ j ∈ Region.ready .any l.toArray listed, j < n := by
    intro i listed hin inv hun j hj
    rcases hn with hn | ⟨⟨hn, hs⟩, hc⟩
    · obtain ⟨_, oj, hoj, _⟩ := mem_ready.1 hj
      rw [hn]; exact (Array.getElem?_eq_some_iff.1 hoj).1
    · rcases Nat.lt_or_ge j n with h | h
      · exact h
      · have := tail_waitsF hs hc hn inv.1 inv.2 h hj _ i rfl hin
        rw [this] at hun; cases hun
  let kso : List (Nat × Oper) := ks.map fun k => (k, l.toArray.getD k default)
  have hk1 : kso.map (·.1) = ks := by simp [kso, Function.comp_def]
  have hks' : ∀ k ∈ ks, l.toArray[k]? = some (l.toArray.getD k default) := fun k hk => by
    have := List.all_eq_true.1 hks k hk
    have hk' : k < l.toArray.size := by simpa using this
    rw [Array.getElem?_eq_getElem hk']
    simp at hk' ⊢
    simp [hk']
  have hk2 : kso.map (·.2) = pickK l.toArray ks := by
    simp only [kso, List.map_map, Function.comp_def]
    exact pickK_of ks hks'
  have H := wpAnyF_lex (P := P) (C := C) (M := M) (T := T) (md := .any) (I := I) (n := n) (g := l.toArray.size - n) hsel hL hdst hIset hhead kso L0 _ (floatAct l.toArray fl a) (fun p hp => by
    obtain ⟨k, hk, rfl⟩ := List.mem_map.1 hp
    exact hks' k hk) hI0 hFr0 hsz0 ⟨_, hi0⟩ (by rw [hk1]; exact hlex) (by rw [hk2]; exact h)
  refine wp_region_any hm ?_
  have := wpAny_of_F (P := P) (C := C) (M := M) (T := T) (n := n) (Q' := Q) (g := l.toArray.size - n) hL hdst (fun listed F a' w' hl hi => by
    have := wpAny_of_seq (md := .any) (Q' := Q) (l.drop n) n listed a' w' (fun j => by simp [List.getElem?_drop]) (by rw [hdl]; exact hl.1) (hl.2 w' hi)
    rwa [hdl] at this) _ _ _ _ _ hFr0 hsz0 hi0 H
  have hkl : kso.length = ks.length := by simp [kso]
  rcases hQ with rfl | hQ
  · simp only [List.length_nil, Nat.add_zero] at hlen
    rw [hkl, hlen, show n + (l.toArray.size - n) = l.toArray.size by omega] at this
    exact this
  · have h2 := wpAny_float (md := .any) (Q := Q) hsel hQ (w := w.drew) fl (Array.replicate l.toArray.size false) a hfB this
    rw [hkl, show ks.length + (l.toArray.size - n) + fl.length = l.toArray.size by omega] at h2
    exact h2
theorem pickK_range (l : List Oper) {n : Nat} (h : n ≤ l.length) : pickK l.toArray (List.range n) = l.take n := by
  unfold pickK
  induction n with
  | zero => simp
  | succ n ih =>
    rw [List.range_succ, List.filterMap_append, ih (by omega)]
    have : l[n]? = some l[n] := List.getElem?_eq_getElem (by omega)
    rw [List.take_succ_eq_append_getElem (by omega)]
    simp only [List.filterMap_cons, List.filterMap_nil, List.getElem?_toArray, this]
theorem wp_region_loose {id : Nat} {Q : Exit → Act → World → Prop} {a : Act} {w : World} {l : List Oper} (n m : Nat) (T : Facts) (C : World → Prop) (M : List Nat) (hm : P.follows .mixedOrders = true) (hB : headB .any l.toArray n = true) (hf : fitsB l.toArray m = true) (hs : a.tmps.size = m) (hL : Lasts M C T)
    (hC : C w.drew) (h : wpLoose P l.toArray C M T (fun F a' => ∀ w', Inv C T F a' w' → wpList P l.toArray Q (l.drop n) a' w') (l.take n) (fun _ => False) a) : (Code.region id l.toArray true).wp P Q a w := by
  have hle : n ≤ l.length := by
    simp only [headB, headF, Bool.and_eq_true, decide_eq_true_eq] at hB
    simpa using hB.1.2
  exact wp_region_float n m [] (List.range n) T C M hm hB hf hs hL (.inl rfl) hC (by rw [pickK_range l hle]; exact h)
end
end Go.Proofs.YtnhjcbmlplfpmaaDoor
