/- Regions that draw their order, walked in each order. For any program. -/
import Derived.OrdersHeld
import Derived.Laws.OwnMore
import Derived.Maps.AppendAt
import Derived.Test.YtbdfblgdmappeaaGreatDoorRows
import Derived.WalkKit
import Derived.ProofKit
import Derived.OpenShut
import Derived.ChangeStays
import Derived.ReadAgain
import Derived.Deep.DeepHandedRow
import Derived.Lib.LaidTab
import Derived.ChangeSlices
import Derived.Test.YtbdfblgdmappeaaGreatDoorMA
namespace Go.Proofs.YtbdfblgdmappeaaGreatDoor
open Go.RowKit
def QK (K : Act → World → Prop) (Q : Exit → Act → World → Prop) : Exit → Act → World → Prop
 | .normal, a, w => K a w
 | .exit i, a, w => Q (.exit i) a w
 | .ret, a, w => Q .ret a w
 | .goto l, a, w => Q (.goto l) a w
 | .panic c, a, w => Q (.panic c) a w
 | .outgrown, a, w => Q .outgrown a w
theorem noSkip {P : Program} {ρ : Operand → Value} {o : Oper} (h : noEnterB o.op = true) (w w' : World) : (execOp ρ o).run P w ≠ .ok .skip w' := by
 have val : ∀ {s : Sem Value}, (s >>= fun x => pure (Next.value x) : Sem Next).run P w ≠ .ok .skip w' := by
  intro s
  simp only [Sem.run_bind]
  cases s.run P w with
  | halt x w' => intro h; cases h
  | ok v w' => simp only [Result.andThen_ok, Sem.run_pure]; intro h; cases h
 have val' : ∀ {r : Result Value}, (r.andThen fun a w => Result.ok (Next.value a) w) ≠ .ok .skip w' := by
  intro r
  cases r with
  | halt x w' => intro h; cases h
  | ok v w' => simp only [Result.andThen_ok]; intro h; cases h
 unfold execOp
 cases ho : o.op <;> rw [ho] at h <;> simp only [noEnterB, Bool.false_eq_true] at h <;> first
  | exact val
  | (simp only [Sem.run_pure]; intro h; cases h; done)
  | (simp only [Sem.run_bind]; generalize (asBool _).run P w = r; cases r <;> simp [Result.andThen_ok]; done)
  | skip
 case call c =>
  cases hc : c.callee with
  | builtin b =>
   rw [hc] at h
   cases b <;> first
    | exact absurd h (by decide)
    | (unfold resolve; simp only [hc, Sem.run_bind, Sem.run_pure, Result.andThen_ok, invoke, builtin]; exact val')
  | value f => rw [hc] at h; exact absurd h (by simp)
  | invoke r n => rw [hc] at h; exact absurd h (by simp)
section
variable {P : Program} {ops : Array Oper} {Q : Exit → Act → World → Prop} {K : Act → World → Prop} {i : Nat} {o : Oper} {a : Act} {w : World}
theorem qk_intro (h : K a w) : QK K Q .normal a w := h
theorem wpOp_of_list (hi : ops[i]? = some o) (h : wpList P ops (QK K Q) [o] a w) : wpOp P ops Q i K a w := by
 unfold wpOp
 simp only [hi]
 unfold wpList at h
 split
 ·rename_i hw
  rw [if_pos hw] at h
  rcases h with h | ⟨h, hl⟩
  ·left
   unfold Oper.wp at h ⊢
   generalize (execOp a.eval o).run P w = r at *
   cases r with
   | ok n w' =>
    cases n <;> simp only [Oper.upon] at h ⊢ <;>
     first
      | exact h
      | exact h.mono (fun e w'' he => by cases e <;> exact he)
      | exact h.mono (fun _ _ he => he)
   | halt x w' => cases x <;> simp only [Oper.upon] at h ⊢ <;> exact h
  ·exact .inr ⟨h, hl⟩
 ·rename_i hw
  rw [if_neg hw] at h
  exact h
theorem wpOp_of_listL {l : List Oper} (hi : l[i]? = some o) (h : wpList P l.toArray (QK K Q) [o] a w) : wpOp P l.toArray Q i K a w := wpOp_of_list (by simpa using hi) h
theorem wp_via {c : Code} (A : Act) {M : List Nat} {w0 : World} {X : List Chunk} {R : List Row} {S : List Ro} (h : c.wp P (fun e a' w' => e = .normal ∧ a' = A ∧ Own M w0 X R S w') a w) (k : ∀ w', Own M w0 X R S w' → Q .normal A w') : c.wp P Q a w :=
 wp_mono h (by rintro e a' w' ⟨rfl, rfl, hX⟩; exact k w' hX)
theorem wp_via1 {c : Code} (A : Nat → Act) {M : List Nat} {w0 : World} {X : Nat → List Chunk} {R : List Row} {S : List Ro} (h : c.wp P (fun e a' w' => e = .normal ∧ ∃ n, a' = A n ∧ Own M w0 (X n) R S w') a w) (k : ∀ n w', Own M w0 (X n) R S w' → Q .normal (A n) w') : c.wp P Q a w :=
 wp_mono h (by rintro e a' w' ⟨rfl, n, rfl, hX⟩; exact k n w' hX)
theorem wpAny_takeP {md : Region.Mode} {oi : Oper} {fuel : Nat} {listed : Array Bool} (hi : ops[i]? = some oi)
  (hs : Region.noSelect ops = true) (hf : Region.free md ops listed i = true) (hr : (Region.ready md ops listed).contains i = true)
  (hQ : ∀ c d v a w, Q (.panic c) (Act.put a d v) w → Q (.panic c) a w) (hn : noEnterB oi.op = true)
  (h : wpQuiet P ops (fun _ => True) (fun a' => wpAny P md ops Q fuel (listed.setIfInBounds i true) a' w) [oi] a) : wpAny P md ops Q (fuel + 1) listed a w := by
 unfold wpQuiet at h
 by_cases hw : Region.wanted oi (yielded ops a.tmps) = true
 ·simp only [hw, if_true] at h
  obtain ⟨v, h1, h2⟩ := h
  have hcases : (∀ w', (execOp a.eval oi).run P w' = .ok (.value v) w') ∨ (∀ w', (execOp a.eval oi).run P w' = .ok (.value v) w' ∨ ((execOp a.eval oi).run P w' = .ok .skip w' ∧ v = undef)) := by
   right
   intro w'
   have h3 := h1 w' trivial
   unfold Oper.quietAt at h3
   have hne := fun w'' f args => noEnter (P := P) (ρ := a.eval) hn w' w'' f args
   generalize (execOp a.eval oi).run P w' = r at *
   cases r with
   | halt x w'' => exact h3.elim
   | ok n w'' =>
    cases n <;> simp only [Oper.quietUpon] at h3
    case value u => obtain ⟨rfl, rfl⟩ := h3; exact .inl rfl
    case skip => obtain ⟨rfl, rfl⟩ := h3; exact .inr ⟨rfl, rfl⟩
    case enter f args => exact absurd rfl (hne w'' f args)
  have hval : ∀ w', (execOp a.eval oi).run P w' = .ok (.value v) w' := by
   intro w'
   rcases hcases with hc | hc
   ·exact hc w'
   ·rcases hc w' with h4 | ⟨h4, _⟩
    ·exact h4
    ·exact absurd h4 (noSkip hn _ _)
  exact wpAny_take hi hs hf hr (fun c a w => hQ c _ _ a w) (.inl ⟨hw, hval⟩) h2
 ·simp only [hw] at h
  exact wpAny_take hi hs hf hr (fun c a w => hQ c _ _ a w) (.inr ⟨by simpa using hw, rfl⟩) h
theorem wpAny_takePL {md : Region.Mode} {l : List Oper} {oi : Oper} {fuel : Nat} {listed : Array Bool} (i : Nat) (hi : l[i]? = some oi)
  (hs : Region.noSelect l.toArray = true) (hf : Region.free md l.toArray listed i = true) (hr : (Region.ready md l.toArray listed).contains i = true)
  (hQ : ∀ c d v a w, Q (.panic c) (Act.put a d v) w → Q (.panic c) a w) (hn : noEnterB oi.op = true)
  (h : wpQuiet P l.toArray (fun _ => True) (fun a' => wpAny P md l.toArray Q fuel (listed.setIfInBounds i true) a' w) [oi] a) : wpAny P md l.toArray Q (fuel + 1) listed a w :=
 wpAny_takeP (by simpa using hi) hs hf hr hQ hn h
theorem ord_nil {p : Nat → Prop} : ∀ i ∈ ([] : List Nat), p i := fun _ h => by cases h
theorem ord_cons {p : Nat → Prop} {k : Nat} {l : List Nat} (h : p k) (hl : ∀ i ∈ l, p i) : ∀ i ∈ k :: l, p i := fun i hi => by
 rcases List.mem_cons.1 hi with rfl | hi
 ·exact h
 ·exact hl i hi
end
def Ix (_ : List Nat) : Prop := True
theorem Ix.mk (l : List Nat) : Ix l := trivial
theorem Ix.tail {i : Nat} {l : List Nat} (_ : Ix (i :: l)) : Ix l := trivial
theorem wpAny_tk {P : Program} {Q : Exit → Act → World → Prop} {a : Act} {w : World} {md : Region.Mode} {l : List Oper} {oi : Oper} {fuel : Nat} {listed : Array Bool} {i : Nat} {L : List Nat} (_ : Ix (i :: L))
  (h : wpQuiet P l.toArray (fun _ => True) (fun a' => wpAny P md l.toArray Q fuel (listed.setIfInBounds i true) a' w) [oi] a) (hi : l[i]? = some oi := by rfl)
  (hs : Region.noSelect l.toArray = true := by kernel_rfl) (hf : Region.free md l.toArray listed i = true := by kernel_rfl) (hr : (Region.ready md l.toArray listed).contains i = true := by kernel_rfl)
  (hQ : ∀ c d v a w, Q (.panic c) (Act.put a d v) w → Q (.panic c) a w := by intro c d v a w h; cases d <;> exact h) (hn : noEnterB oi.op = true := by rfl) : wpAny P md l.toArray Q (fuel + 1) listed a w :=
 wpAny_takePL i hi hs hf hr hQ hn h
theorem wpAny_tkO {P : Program} {Q : Exit → Act → World → Prop} {a : Act} {w : World} {md : Region.Mode} {l : List Oper} {oi : Oper} {fuel : Nat} {listed : Array Bool} {i : Nat} {L : List Nat} (_ : Ix (i :: L))
  (h : wpQuiet P l.toArray (fun _ => True) (fun a' => wpAny P md l.toArray Q fuel (listed.setIfInBounds i true) a' w) [oi] a) (hi : l[i]? = some oi := by rfl)
  (hs : Region.noSelect l.toArray = true := by kernel_rfl) (hf : Region.free md l.toArray listed i = true := by kernel_rfl) (hr : (Region.ready md l.toArray listed).contains i = true := by kernel_rfl)
  (hQ : ∀ c d v a w, Q (.panic c) (Act.put a d v) w → Q (.panic c) a w := by rintro c d v a w ⟨h, _⟩; cases h) (hn : noEnterB oi.op = true := by rfl) : wpAny P md l.toArray Q (fuel + 1) listed a w :=
 wpAny_takePL i hi hs hf hr hQ hn h
section
variable {P : Program} {Q : Exit → Act → World → Prop} {a : Act} {w : World} {md : Region.Mode} {C : World → Prop}
theorem wpAnyH_tk {l : List Oper} {oi : Oper} {fuel : Nat} {listed : Array Bool} (i : Nat) (hC : C w)
  (h : wpQuiet P l.toArray C (fun a' => wpAnyH P md l.toArray Q C fuel (listed.setIfInBounds i true) a' w) [oi] a) (hi : l[i]? = some oi := by rfl)
  (hs : Region.noSelect l.toArray = true := by kernel_rfl) (hf : Region.free md l.toArray listed i = true := by kernel_rfl) (hr : (Region.ready md l.toArray listed).contains i = true := by kernel_rfl)
  (hQ : ∀ c d v a w, Q (.panic c) (Act.put a d v) w → Q (.panic c) a w := by intro c d v a w h; cases d <;> exact h) (hn : noEnterB oi.op = true := by rfl) : wpAnyH P md l.toArray Q C (fuel + 1) listed a w := by
 have hi' : l.toArray[i]? = some oi := by simpa using hi
 unfold wpQuiet at h
 by_cases hw : Region.wanted oi (yielded l.toArray a.tmps) = true
 ·simp only [hw, if_true] at h
  obtain ⟨v, h1, h2⟩ := h
  have hval : ∀ w', C w' → (execOp a.eval oi).run P w' = .ok (.value v) w' := by
   intro w' hw'
   have h3 := h1 w' hw'
   unfold Oper.quietAt at h3
   have hne := fun w'' f args => noEnter (P := P) (ρ := a.eval) hn w' w'' f args
   have hsk := fun w'' => noSkip (P := P) (ρ := a.eval) hn w' w''
   generalize (execOp a.eval oi).run P w' = r at *
   cases r with
   | halt x w'' => exact h3.elim
   | ok n w'' =>
    cases n <;> simp only [Oper.quietUpon] at h3
    case value u => obtain ⟨rfl, rfl⟩ := h3; rfl
    case skip => exact absurd rfl (hsk _)
    case enter f args => exact absurd rfl (hne w'' f args)
  exact wpAnyH_take hi' hs hf hr (fun c a w => hQ c _ _ a w) (.inl ⟨hw, hval⟩) hC h2
 ·simp only [hw] at h
  exact wpAnyH_take hi' hs hf hr (fun c a w => hQ c _ _ a w) (.inr ⟨by simpa using hw, rfl⟩) hC h
theorem wpAnyH_1 {ops : Array Oper} {fuel : Nat} {listed : Array Bool} (i : Nat) (h : wpOp P ops Q i (fun a' w' => C w' ∧ wpAnyH P md ops Q C fuel (listed.setIfInBounds i true) a' w') a w) (hr : Region.ready md ops listed = [i] := by kernel_rfl) : wpAnyH P md ops Q C (fuel + 1) listed a w := wpAnyH_all hr (by simp) fun j hj => by rw [List.mem_singleton.1 hj]; exact h
theorem Own.cls {M : List Nat} {w0 : World} {X X' : List Chunk} {R R' : List Row} {S S' : List Ro} (hO : Own M w0 X R S w) (hX : X'.Sublist X := by repeat (first | exact List.Sublist.refl _ | apply List.Sublist.cons)) (hR : R'.Sublist R := by repeat (first | exact List.Sublist.refl _ | apply List.Sublist.cons))
  (hS : ∀ s ∈ S', s ∈ S := by intro q hq; repeat (first | exact hq | exact List.mem_append_left _ hq | apply List.mem_append_right | apply List.mem_cons_of_mem)) : Own M w0 X' R' S' w := hO.sub hX hR hS
end
section
variable {P : Program} {M : List Nat} {w0 w : World} {X : List Chunk} {R : List Row} {S : List Ro} {Q : Exit → Act → World → Prop} {a : Act}
theorem own_float {id : Nat} {l : List Oper} (n : Nat) (fl ks : List Nat) (T : Facts) (hO : Own M w0 X R S w) (hm : P.follows .mixedOrders = true) (hB : headF .any l.toArray n fl ks = true) (hf : fitsB l.toArray a.tmps.size = true) (hL : Lasts [] (Own M w0 X R S) T)
  (hQ : ∀ d v c a w, Q (.panic c) (Act.put a d v) w → Q (.panic c) a w)
  (h : wpLoose P l.toArray (Own M w0 X R S) [] T (fun F a' => ∀ w', Inv (Own M w0 X R S) T F a' w' → wpList P l.toArray Q (l.drop n) a' w') (pickK l.toArray ks) (fun _ => False) (floatAct l.toArray fl a)) : (Code.region id l.toArray true).wp P Q a w :=
 wp_region_float n _ fl ks T (Own M w0 X R S) [] hm hB hf rfl hL (.inr hQ) hO.drew h
end
set_option maxRecDepth 100000
theorem IsBoxes.keep {w w' : World} {v : Value} {l : List Bx} (h : IsBoxes w v l) (hk : Keep [] w w') : IsBoxes w' v l := by
 rcases h with h | ⟨g, o, c, h1, h2, h3⟩
 ·exact .inl h
 ·refine .inr ⟨g, o, c, h1, h2, fun j u hj => ?_⟩
  have h4 := h3 j u hj
  rw [World.cell?_of_block (w := w) (hk.block _ (World.block_lt_of_cell? w _ h4) (by simp))]; exact h4
def IsOff (L : List Nat) (w : World) (v : Value) (l : List Bx) : Prop := IsBoxes w v l ∧ ∀ g, v.ownBlock = some g → g ∉ L
theorem IsOff.keep {L : List Nat} {w w' : World} {v : Value} {l : List Bx} (h : IsOff L w v l) (hk : Keep [] w w') : IsOff L w' v l := ⟨h.1.keep hk, h.2⟩
theorem off_of_new {M : List Nat} {w0 w : World} {X : List Chunk} {R : List Row} {S : List Ro} (hO : Own M w0 X R S w) {v : Value} (h : NewFrom w v) : ∀ g, v.ownBlock = some g → g ∉ excl X R := fun g hg hm => by
 have h1 := h g hg
 have h2 := hO.lt g hm
 omega
theorem own_off {M : List Nat} {w0 w : World} {X : List Chunk} {R : List Row} {S : List Ro} (hO : Own M w0 X R S w) {v : Value} {l : List Bx} (h : IsOff (excl X R) w v l) :
  (v = .slice none 0 0 ∧ l = []) ∨ ∃ g o c, v = .slice (some ⟨g, o, none⟩) l.length c ∧ Own M w0 X R (⟨g, o, cellsB l⟩ :: S) w := by
 obtain ⟨h1 | ⟨g, o, c, rfl, h2, h3⟩, h4⟩ := h
 ·exact .inl h1
 ·exact .inr ⟨g, o, c, rfl, hO.addRo ⟨g, o, cellsB l⟩ h3 fun _ => h4 g rfl⟩
abbrev hcs (h : Hd) : List Value := [.int .u32 h.src, .int .u32 h.dst, .int .u8 h.proto, .int .u16 h.sport, .int .u16 h.dport]
theorem fullBx_ok : fullBx.ok := fun k hk => by rcases five hk with rfl | rfl | rfl | rfl | rfl <;> decide
theorem nat_of {f : Int} (h0 : 0 ≤ f) (h1 : f < 5) : ∃ k : Nat, f = k ∧ k < 5 := ⟨f.toNat, by omega, by omega⟩
theorem with_all (h : Hd) (f v : Int) (w : World) (ht : Tops w) (ho : h.ok) (h0 : 0 ≤ v) : Calls Tryz.prog 167 #[hv h, .int .i64 f, .int .u32 v] w fun e w' => e = .returned (hv (withHd h f v)) ∧ Below w.heap.size w w' := by
 by_cases p0 : 0 ≤ f
 ·by_cases p1 : f < 5
  ·obtain ⟨k, rfl, hk⟩ := nat_of p0 p1
   exact with_in h k v w ht hk ho h0
  ·rw [show withHd h f v = h by unfold withHd; rw [if_neg (by omega)]]; exact with_out h f v w (by omega)
 ·rw [show withHd h f v = h by unfold withHd; rw [if_neg (by omega)]]; exact with_out h f v w (by omega)
theorem Hd.at_of (p : Nat → Int) {k : Nat} (h : k < 5) : (Hd.of p).at k = p k := by rcases five h with rfl | rfl | rfl | rfl | rfl <;> rfl
theorem Hd.at_set (x : Hd) (k : Nat) (v : Int) {i : Nat} (h : i < 5) : (x.set k v).at i = if i = k then v else x.at i := Hd.at_of _ h
theorem Hd.of_at (x : Hd) : Hd.of x.at = x := rfl
theorem Hd.ext_at {x y : Hd} (h : ∀ k, k < 5 → x.at k = y.at k) : x = y := by
 rw [← Hd.of_at x, ← Hd.of_at y]
 simp [Hd.of, h 0, h 1, h 2, h 3, h 4]
theorem hasB_iff {b : Bx} {h : Hd} : hasB b h = true ↔ vldTo b 5 ∧ inTo b h 5 := by
 unfold hasB; rw [Bool.and_eq_true, vld_iff]; simp
theorem interTo_at (a b : Bx) {k : Nat} (h : k < 5) : (interTo a b).at k = ⟨max (a.at k).lo (b.at k).lo, min (a.at k).hi (b.at k).hi⟩ := Bx.at_of _ h
theorem interB_yes {a b : Bx} (h : (interB a b).2 = true) : vldTo a 5 ∧ vldTo b 5 ∧ vldTo (interTo a b) 5 ∧ interB a b = (interTo a b, true) := by
 unfold interB at h ⊢
 split at h
 ·rename_i hc
  simp only [Bool.and_eq_true, vld_iff] at hc
  refine ⟨hc.1.1, hc.1.2, hc.2, ?_⟩
  rw [if_pos (by simp only [Bool.and_eq_true, vld_iff]; exact hc)]
 ·cases h
theorem interB_has (a b : Bx) (h : Hd) : ((interB a b).2 && hasB (interB a b).1 h) = (hasB a h && hasB b h) := by
 rw [Bool.eq_iff_iff, Bool.and_eq_true, Bool.and_eq_true, hasB_iff, hasB_iff, hasB_iff]
 constructor
 ·rintro ⟨h1, _, h3⟩
  obtain ⟨va, vb, _, e⟩ := interB_yes h1
  rw [e] at h3
  refine ⟨⟨va, fun i hi => ?_⟩, vb, fun i hi => ?_⟩
  ·have := h3 i hi; simp only [interTo_at a b hi] at this; omega
  ·have := h3 i hi; simp only [interTo_at a b hi] at this; omega
 ·rintro ⟨⟨va, ia⟩, vb, ib⟩
  have hv : vldTo (interTo a b) 5 := fun i hi => by
   have h1 := ia i hi; have h2 := ib i hi; have h3 := va i hi; have h4 := vb i hi
   simp only [interTo_at a b hi]; omega
  have e : interB a b = (interTo a b, true) := by
   unfold interB; rw [if_pos (by simp only [Bool.and_eq_true, vld_iff]; exact ⟨⟨va, vb⟩, hv⟩)]
  rw [e]
  refine ⟨rfl, hv, fun i hi => ?_⟩
  have h1 := ia i hi; have h2 := ib i hi
  simp only [interTo_at a b hi]; omega
section
variable {a x : Bx} (va : vldTo a 5) (hx : ∀ i, i < 5 → (a.at i).lo ≤ (x.at i).lo ∧ (x.at i).lo ≤ (x.at i).hi ∧ (x.at i).hi ≤ (a.at i).hi)
def Part (a x : Bx) (k : Nat) (p : Bx) : Prop :=
 (∀ i, i < 5 → i ≠ k → p.at i = if i < k then x.at i else a.at i) ∧
 ((p.at k = ⟨(a.at k).lo, (x.at k).lo - 1⟩ ∧ (a.at k).lo < (x.at k).lo) ∨ (p.at k = ⟨(x.at k).hi + 1, (a.at k).hi⟩ ∧ (x.at k).hi < (a.at k).hi))
include hx in
theorem Part.in_a {k : Nat} {p : Bx} (hk : k < 5) (h : Part a x k p) : ∀ i, i < 5 → (a.at i).lo ≤ (p.at i).lo ∧ (p.at i).lo ≤ (p.at i).hi ∧ (p.at i).hi ≤ (a.at i).hi ∨ (i ≠ k ∧ ¬ i < k ∧ p.at i = a.at i) := by
 intro i hi
 have h1 := hx i hi
 have h2 := hx k hk
 by_cases e : i = k
 ·subst e
  rcases h.2 with ⟨h3, h4⟩ | ⟨h3, h4⟩ <;> rw [h3] <;> left <;> (dsimp only; omega)
 ·have h3 := h.1 i hi e
  by_cases h4 : i < k
  ·rw [if_pos h4] at h3; rw [h3]; left; omega
  ·rw [if_neg h4] at h3; right; exact ⟨e, h4, h3⟩
include va hx in
theorem Part.vld {k : Nat} {p : Bx} (hk : k < 5) (h : Part a x k p) : vldTo p 5 := fun i hi => by
 have h1 := va i hi
 rcases h.in_a hx hk i hi with h2 | ⟨_, _, h2⟩
 ·omega
 ·rw [h2]; exact h1
include va hx in
theorem Part.has {k : Nat} {p : Bx} (hk : k < 5) (h : Part a x k p) (y : Hd) : hasB p y = true ↔ inTo a y 5 ∧ inTo x y k ∧ ((p.at k).lo ≤ y.at k ∧ y.at k ≤ (p.at k).hi) := by
 rw [hasB_iff]
 constructor
 ·rintro ⟨_, hin⟩
  refine ⟨fun i hi => ?_, fun i hi => ?_, hin k hk⟩
  ·have h1 := hin i hi
   rcases h.in_a hx hk i hi with h2 | ⟨_, _, h2⟩
   ·omega
   ·rw [h2] at h1; exact h1
  ·have h1 := hin i (by omega)
   rw [h.1 i (by omega) (by omega), if_pos hi] at h1
   exact h1
 ·rintro ⟨ha, hxk, hp⟩
  refine ⟨h.vld va hx hk, fun i hi => ?_⟩
  by_cases e : i = k
  ·subst e; exact hp
  ·rw [h.1 i hi e]
   split
   ·rename_i hlt; exact hxk i hlt
   ·exact ha i hi
end
theorem own_offS {M : List Nat} {w0 w : World} {X : List Chunk} {R : List Row} {S : List Ro} (hO : Own M w0 X R S w) {v : Value} {l : List Bx} (h : IsOff (excl X R) w v l) :
  ∃ a c, v = .slice a l.length c ∧ (0 < l.length → ∃ g o, a = some ⟨g, o, none⟩) ∧ Own M w0 X R (roS (.slice a l.length c) (cellsB l) ++ S) w := by
 obtain ⟨rfl, rfl⟩ | ⟨g, o, c, rfl, hO⟩ := own_off hO h
 ·exact ⟨none, 0, rfl, fun h => by simp at h, hO⟩
 ·exact ⟨some ⟨g, o, none⟩, c, rfl, fun _ => ⟨g, o, rfl⟩, hO⟩
section
variable {P : Program} {ops : Array Oper} {rest : List Oper} {o : Oper} {a : Act} {w w0 : World} {Q : Exit → Act → World → Prop} {M : List Nat} {X : List Chunk} {R : List Row} {S : List Ro}
end
theorem cb_at (l : List Bx) {k j : Nat} (hk : k < l.length) (hj : j < 10) : (cellsB l)[k * 10 + j]? = (bcs l[k])[j]? := by
 have h := tk_box l hk
 rw [bcs_length] at h
 have h2 : ((List.take 10 (List.drop (k * 10) (cellsB l))))[j]? = (bcs l[k])[j]? := by rw [h]
 rw [List.getElem?_take, if_pos hj, List.getElem?_drop] at h2
 exact h2
theorem cb_lo (l : List Bx) {k f : Nat} (hk : k < l.length) (hf : f < 5) : (cellsB l)[k * 10 + f * 2]? = some (.int .u32 (l[k].at f).lo) := by
 rw [cb_at l hk (by omega)]; exact bcs_lo _ hf
theorem cb_hi (l : List Bx) {k f : Nat} (hk : k < l.length) (hf : f < 5) : (cellsB l)[k * 10 + f * 2 + 1]? = some (.int .u32 (l[k].at f).hi) := by
 rw [Nat.add_assoc, cb_at l hk (by omega)]; exact bcs_hi _ hf
theorem roS_arg2 {w : World} {v u : Value} {l m : List Bx} (h : IsBoxes w v l) (k : IsBoxes w u m) : Own [] w [] [] (roS v (cellsB l) ++ roS u (cellsB m)) w := by
 rcases h with ⟨rfl, rfl⟩ | ⟨g, o, c, rfl, _, hr⟩
 ·exact own_arg k
 ·exact (own_arg k).addRo ⟨g, o, cellsB l⟩ hr (by simp [excl])
theorem rtop_any (k : Nat) (w : World) (hk : k < 5) : Calls Tryz.prog 98 #[.int .i64 k] w fun e w' => e = .returned (.int .u32 (topOf k)) ∧ w = w' := by
 rcases five hk with rfl | rfl | rfl | rfl | rfl
 all_goals
  go_enter Tryz.func98, Tryz.ntmps98
  go_wp2
  go_ret
  exact ⟨rfl, rfl⟩
theorem rpoint_any (h : Hd) (w : World) (ho : h.ok) :
  Calls Tryz.prog 114 #[hv h] w fun e w' => e = .returned (pv h.at) ∧ Below w.heap.size w w' := by
 obtain ⟨⟨a0, a1⟩, ⟨b0, b1⟩, ⟨c0, c1⟩, ⟨d0, d1⟩, e0, e1⟩ := ho
 have hO := own_start [] w
 go_enter Tryz.func114, Tryz.ntmps114
 go_wp2_with (first | refine ldN ?_ | (refine stN hO ?_; clear hO; intro wv hO) | (refine bx9 1 hO ?_; clear hO; intro n1 wv hO) | (refine al9 2 hO ?_; clear hO; intro n2 wv hO))
 exact bodyPost_ret (own_res_cell hO Tryz.results114 rfl List.mem_cons_self (by (exact row_len (by (with_reducible (exact row_Five))) (by rfl))) rfl) rfl ⟨rfl, hO.keep.below⟩
theorem rheader_any (p : Nat → Int) (w : World) (ho : (Hd.of p).ok) :
  Calls Tryz.prog 99 #[pv p] w fun e w' => e = .returned (hv (Hd.of p)) ∧ Below w.heap.size w w' := by
 obtain ⟨⟨a0, a1⟩, ⟨b0, b1⟩, ⟨c0, c1⟩, ⟨d0, d1⟩, e0, e1⟩ := ho
 simp only [Hd.of] at a0 a1 b0 b1 c0 c1 d0 d1 e0 e1
 have hO := own_start [] w
 go_enter Tryz.func99, Tryz.ntmps99
 go_wp2_with (first | refine ldN ?_ | (refine stN hO ?_; clear hO; intro wv hO) | (refine bx9 1 hO ?_; clear hO; intro n1 wv hO) | (refine al9 2 hO ?_; clear hO; intro n2 wv hO))
 exact bodyPost_ret (own_res_cell hO Tryz.results99 rfl List.mem_cons_self (by (exact row_len (by (with_reducible (exact row_Header))) (by rfl))) rfl) rfl ⟨rfl, hO.keep.below⟩
theorem rfull_any (w : World) :
  Calls Tryz.prog 85 #[] w fun e w' => e = .returned (bv fullBx) ∧ Below w.heap.size w w' := by
 have hO := own_start [] w
 go_enter Tryz.func85, Tryz.ntmps85
 go_wp2_with (first | (refine al9 0 hO ?_; clear hO; intro n0 wv hO) | (refine al9 1 hO ?_; clear hO; intro n1 wv hO))
 go_loopw [2] (fun i wr => ∃ k : Nat, k ≤ 5 ∧ i = .int .i64 k ∧ Own [] w [⟨n1, bcs (fullK k), 98⟩, ⟨n0, bcs zeroBx, 98⟩] [] [] wr) (fun i _ => 5 - (intOf i).toNat)
 case atStart => exact ⟨0, by omega, rfl, hO⟩
 case round =>
  clear hO
  obtain ⟨k, hk, rfl, hO⟩ := hrel
  by_cases hlt : k < 5
  ·go_wp2_with (first | (refine st1N hO ?_; clear hO; intro wv hO) | (go_at_call 98; refine (rtop_any _ _ hlt).mono ?_; rintro e _ ⟨rfl, rfl⟩))
   go_roundw
   case rel => exact ⟨k + 1, by omega, by go_num, by rw [← fullK_succ k hlt]; exact hO⟩
   case measure => simp [intOf]; omega
  ·obtain rfl : k = 5 := by omega
   rw [fullK_five] at hO
   go_wp2_with (first | refine ldN ?_ | (refine stN hO ?_; clear hO; intro wv hO))
   exact bodyPost_ret (own_res_cell hO Tryz.results85 rfl (by (repeat (first | exact List.mem_cons_self | refine List.mem_cons_of_mem _ ?_))) (by (exact row_len (by (with_reducible (exact row_Box))) (by rfl))) rfl) rfl ⟨rfl, hO.keep.below⟩
theorem rvalid_any (b : Bx) (w : World) :
  Calls Tryz.prog 105 #[bv b] w fun e w' => e = .returned (.bool (vld b)) ∧ Below w.heap.size w w' := by
 have hO := own_start [] w
 go_enter Tryz.func105, Tryz.ntmps105
 go_wp2_with (refine bx9 1 hO ?_; clear hO; intro n1 wv hO)
 go_loopw [3] (fun i wr => ∃ k : Nat, k ≤ 5 ∧ i = .int .i64 k ∧ vldTo b k ∧ Own [] w [⟨n1, bcs b, 98⟩] [] [] wr) (fun i _ => 5 - (intOf i).toNat)
 case atStart => exact ⟨0, by omega, rfl, fun i hi => by omega, hO⟩
 case round =>
  clear hO
  obtain ⟨k, hk, rfl, hv, hO⟩ := hrel
  have HV := Lib.hid hv
  clear hv
  by_cases hlt : k < 5
  ·by_cases h1 : (b.at k).lo ≤ (b.at k).hi
   ·have h1' : decide ((b.at k).hi < (b.at k).lo) = false := by simp; omega
    by_cases h2 : (b.at k).hi ≤ topOf k
    ·have h2' : decide (topOf k < (b.at k).hi) = false := by simp; omega
     go_wp2_with fail
     (refine own_quiet hO (by kernel_rfl) (by kernel_rfl) ?_; clear hO; (repeat (go_big_quiet_want; (first | ((with_reducible refine is_loadQ ?_); (refine q_ld (h := ?_)); (try simp only [Act.put]); (try simp only [sI9, sZ9, sS9]); go_big_quiet_on) | (go_big_quiet_op; (first | go_big_quiet_on | ((refine ⟨_, fun _ _ => rfl, ?_⟩); go_big_quiet_on) | go_big_quiet_call ((intro hq; go_at_call 98; exact q_same (rtop_any _ _ hlt) hq))))))); (refine wpQuiet_nil ?_); intro wv hO)
     go_wp2_with fail
     go_roundw
     case rel => exact ⟨k + 1, by omega, by go_num, vldTo_snoc HV.out h1 h2, hO⟩
     case measure => simp [intOf]; omega
    ·have h2' : decide (topOf k < (b.at k).hi) = true := by simp; omega
     have HF := Lib.hid (vld_no hlt (fun h => h2 h.2))
     go_wp2_with fail
     (refine own_quiet hO (by kernel_rfl) (by kernel_rfl) ?_; clear hO; (repeat (go_big_quiet_want; (first | ((with_reducible refine is_loadQ ?_); (refine q_ld (h := ?_)); (try simp only [Act.put]); (try simp only [sI9, sZ9, sS9]); go_big_quiet_on) | (go_big_quiet_op; (first | go_big_quiet_on | ((refine ⟨_, fun _ _ => rfl, ?_⟩); go_big_quiet_on) | go_big_quiet_call ((intro hq; go_at_call 98; exact q_same (rtop_any _ _ hlt) hq))))))); (refine wpQuiet_nil ?_); intro wv hO)
     go_wp2_with fail
     go_ret
     exact ⟨ret_bool HF.out.symm, hO.keep.below⟩
   ·have h1' : decide ((b.at k).hi < (b.at k).lo) = true := by simp; omega
    have HF := Lib.hid (vld_no hlt (fun h => h1 h.1))
    go_wp2_with fail
    (refine own_quiet hO (by kernel_rfl) (by kernel_rfl) ?_; clear hO; (repeat (first | go_big_quiet_skip | (go_big_quiet_want; (first | ((with_reducible refine is_loadQ ?_); (refine q_ld (h := ?_)); (try simp only [Act.put]); (try simp only [sI9, sZ9, sS9]); go_big_quiet_on) | (go_big_quiet_op; (first | go_big_quiet_on | ((refine ⟨_, fun _ _ => rfl, ?_⟩); go_big_quiet_on))))))); (refine wpQuiet_nil ?_); intro wv hO)
    go_wp2_with fail
    go_ret
    exact ⟨ret_bool HF.out.symm, hO.keep.below⟩
  ·go_wp2_with fail
   go_ret
   exact ⟨ret_bool (vld_yes (fun i hi => HV.out i (by omega))).symm, hO.keep.below⟩
set_option maxHeartbeats 1000000 in
theorem rcontains_any (b : Bx) (h : Hd) (w : World) (ho : h.ok) :
  Calls Tryz.prog 58 #[bv b, hv h] w fun e w' => e = .returned (.bool (hasB b h)) ∧ Below w.heap.size w w' := by
 have hO := own_start [] w
 go_enter Tryz.func58, Tryz.ntmps58
 go_wp2_with (first | refine ldN ?_ | (refine stN hO ?_; clear hO; intro wv hO) | (refine bx9 2 hO ?_; clear hO; intro n2 wv hO) | (refine bx9 3 hO ?_; clear hO; intro n3 wv hO) | (refine al9 5 hO ?_; clear hO; intro n5 wv hO) | (go_at_call 114; refine (rpoint_any h _ ho).mono ?_; rintro e wv ⟨rfl, hb⟩; replace hO := hO.call hb; clear hb))
 go_loopw [6] (fun i wr => ∃ k : Nat, k ≤ 5 ∧ i = .int .i64 k ∧ inTo b h k ∧ Own [] w [⟨n5, fcs h.at, 158⟩, ⟨n3, hcs h, 48⟩, ⟨n2, bcs b, 98⟩] [] [] wr) (fun i _ => 5 - (intOf i).toNat)
 case atStart => exact ⟨0, by omega, rfl, fun i hi => by omega, hO⟩
 case round =>
  clear hO
  obtain ⟨k, hk, rfl, hin, hO⟩ := hrel
  have HI := Lib.hid hin
  clear hin
  by_cases hlt : k < 5
  ·by_cases h1 : (b.at k).lo ≤ h.at k
   ·have h1' : decide (h.at k < (b.at k).lo) = false := by simp; omega
    by_cases h2 : h.at k ≤ (b.at k).hi
    ·have h2' : decide ((b.at k).hi < h.at k) = false := by simp; omega
     go_wp2_with fail
     (refine own_quiet hO (by kernel_rfl) (by kernel_rfl) ?_; clear hO; (repeat (go_big_quiet_want; (first | ((with_reducible refine is_loadQ ?_); (refine q_ld (h := ?_)); (try simp only [Act.put]); (try simp only [sI9, sZ9, sS9]); go_big_quiet_on) | (go_big_quiet_op; (first | go_big_quiet_on | ((refine ⟨_, fun _ _ => rfl, ?_⟩); go_big_quiet_on)))))); (refine wpQuiet_nil ?_); intro wv hO)
     go_wp2_with fail
     go_roundw
     case rel => exact ⟨k + 1, by omega, by go_num, inTo_snoc HI.out h1 h2, hO⟩
     case measure => simp [intOf]; omega
    ·have h2' : decide ((b.at k).hi < h.at k) = true := by simp; omega
     have HF := Lib.hid (hasB_no (b := b) hlt (fun h => h2 h.2))
     go_wp2_with fail
     (refine own_quiet hO (by kernel_rfl) (by kernel_rfl) ?_; clear hO; (repeat (go_big_quiet_want; (first | ((with_reducible refine is_loadQ ?_); (refine q_ld (h := ?_)); (try simp only [Act.put]); (try simp only [sI9, sZ9, sS9]); go_big_quiet_on) | (go_big_quiet_op; (first | go_big_quiet_on | ((refine ⟨_, fun _ _ => rfl, ?_⟩); go_big_quiet_on)))))); (refine wpQuiet_nil ?_); intro wv hO)
     go_wp2_with fail
     go_ret
     exact ⟨ret_bool HF.out.symm, hO.keep.below⟩
   ·have h1' : decide (h.at k < (b.at k).lo) = true := by simp; omega
    have HF := Lib.hid (hasB_no (b := b) hlt (fun h => h1 h.1))
    go_wp2_with fail
    (refine own_quiet hO (by kernel_rfl) (by kernel_rfl) ?_; clear hO; (repeat (first | go_big_quiet_skip | (go_big_quiet_want; (first | ((with_reducible refine is_loadQ ?_); (refine q_ld (h := ?_)); (try simp only [Act.put]); (try simp only [sI9, sZ9, sS9]); go_big_quiet_on) | (go_big_quiet_op; (first | go_big_quiet_on | ((refine ⟨_, fun _ _ => rfl, ?_⟩); go_big_quiet_on))))))); (refine wpQuiet_nil ?_); intro wv hO)
    go_wp2_with fail
    go_ret
    exact ⟨ret_bool HF.out.symm, hO.keep.below⟩
  ·have E := Lib.hid (show vld b = hasB b h by unfold hasB; rw [decide_eq_true (p := inTo b h 5) (fun i hi => HI.out i (by omega)), Bool.and_true])
   go_wp2_with (first | refine ldN ?_ | (go_at_call 105; refine (rvalid_any _ _).mono ?_; rintro e wv ⟨rfl, hb⟩; replace hO := hO.call hb; clear hb))
   go_ret
   exact ⟨ret_bool E.out, hO.keep.below⟩
def flat : List Value → List Value
 | [] => []
 | v :: vs => v.cells.toList ++ flat vs
theorem putAt_append (xs ys : List Value) : ∀ (cs : List Value) (off : Nat), putAt cs off (xs ++ ys) = putAt (putAt cs off xs) (off + xs.length) ys := by
 induction xs with
 | nil => intro cs off; simp [putAt]
 | cons x xs ih => intro cs off; simp only [List.cons_append, putAt, ih, List.length_cons]; rw [show off + 1 + xs.length = off + (xs.length + 1) by omega]
theorem foldl_putAt (off : Nat) : ∀ (xs : List Value) (k : Nat) (cells : Array Value), ((xs.zipIdx k).foldl (fun cs (c, j) => cs.setIfInBounds (off + j) c) cells) = (putAt cells.toList (off + k) xs).toArray := by
 intro xs
 induction xs with
 | nil => intro k cells; simp [putAt]
 | cons x xs ih =>
  intro k cells
  simp only [List.zipIdx_cons, List.foldl_cons, ih, putAt]
  rw [show off + (k + 1) = off + k + 1 by omega]
  simp
theorem flat_length {s : Nat} : ∀ {vals : List Value}, (∀ v ∈ vals, v.cells.size = s) → (flat vals).length = vals.length * s
 | [], _ => by simp [flat]
 | v :: vs, h => by
  have h1 := h v (by simp)
  have h2 := flat_length (vals := vs) (fun u hu => h u (by simp [hu]))
  simp only [flat, List.length_append, h2, List.length_cons, Array.length_toList, h1, Nat.add_mul]; omega
theorem fill_seq {s : Nat} : ∀ (vals : List Value) (k : Nat) (cells : Array Value), (∀ v ∈ vals, v.cells.size = s) → (k + vals.length) * s ≤ cells.size →
  Instr.fill (fun i => some (i * s, s)) cells ((List.range' k vals.length).zip vals) = some (putAt cells.toList (k * s) (flat vals)).toArray := by
 intro vals
 induction vals with
 | nil => intro k cells _ _; simp [Instr.fill, flat, putAt]
 | cons v vs ih =>
  intro k cells hv hl
  have h1 := hv v (by simp)
  simp only [List.length_cons] at hl
  have h2 : k * s + s ≤ cells.size := by
   have : (k + (vs.length + 1)) * s = k * s + s + vs.length * s := by rw [Nat.add_mul, Nat.add_mul]; omega
   omega
  simp only [List.length_cons, List.range'_succ, List.zip_cons_cons, Instr.fill, h1]
  rw [if_neg (show ¬ ((decide (s ≠ s) || decide (k * s + s > cells.size)) = true) by simp; omega)]
  have e : v.cells.zipIdx.foldl (fun cs (c, j) => cs.setIfInBounds (k * s + j) c) cells = (putAt cells.toList (k * s) v.cells.toList).toArray := by
   rw [← Array.foldl_toList, Array.toList_zipIdx]
   exact foldl_putAt (k * s) v.cells.toList 0 cells
  rw [e, ih (k + 1) _ (fun u hu => hv u (by simp [hu])) (by simp only [List.size_toArray, putAt_length, Array.length_toList]; rw [show k + 1 + vs.length = k + (vs.length + 1) by omega]; exact hl)]
  simp only [flat, putAt_append, Array.length_toList, h1, Nat.add_mul, Nat.one_mul]
section
variable {P : Program} {ops : Array Oper} {rest : List Oper} {o : Oper} {a : Act} {Q : Exit → Act → World → Prop} {M : List Nat} {w0 w w' : World} {X X' : List Chunk} {R R' : List Row} {S : List Ro}
theorem built_seq {e len s : Nat} {vals : List Value} {i : TypeInfo} {z : Value} (hi : P.info? e = some i) (hz : i.zero = some z) (hs : i.size = s) (hs0 : 0 < s) (hv : ∀ v ∈ vals, v.cells.size = s) (hl : vals.length = len) (h0 : 0 < len) (h24 : len * s ≤ 16777216) :
  Program.builtSlice P e len ((List.range len).zip vals) = some (flat vals).toArray := by
 unfold Program.builtSlice
 simp only [hi, hz, hs]
 have hne : ¬ (len * s > 2 ^ 24 ∨ len * s = 0) := by
  have : 0 < len * s := Nat.mul_pos h0 hs0
  omega
 rw [if_neg hne]
 have := fill_seq (s := s) vals 0 (((Array.range (len * s)).map (z.cells[· % z.cells.size]!))) hv (by simp [hl])
 rw [hl, ← List.range_eq_range'] at this
 rw [this]
 congr 2
 rw [Nat.zero_mul]
 exact putAt_all _ _ (by rw [flat_length hv, hl]; simp)
theorem rx_buildN {t e len bytes s : Nat} {parts : Array (Nat × Operand)} (ho : o.op = .buildSlice t len parts) (ht : SliceT P t e s bytes) {vals : List Value} (hx : parts.toList.map (fun p => a.eval p.2) = vals) (hi : parts.toList.map (·.1) = List.range len)
  (hv : vals.all (fun v => v.cells.size == s) = true) (h0 : 0 < len) (h24 : len * s ≤ 16777216) :
  (execOp a.eval o).run P w = .ok (.value (.slice (some ⟨w.heap.size, 0, none⟩) len len)) (w.alloc (.cells (flat vals).toArray e (0, 0))) := by
 obtain ⟨hu, hs0, i, z, hie, hz, hsz, _, _⟩ := ht
 refine rx_build ho hu ?_
 have hl : vals.length = len := by
  have := congrArg List.length hi
  rw [← hx]; simpa using this
 have e : (parts.map fun (i, x) => (i, a.eval x)).toList = (List.range len).zip vals := by
  rw [← hi, ← hx, Array.toList_map]
  generalize parts.toList = l
  induction l with
  | nil => rfl
  | cons p l ih => simp [ih]
 rw [e]
 exact built_seq hie hz hsz hs0 (fun v hv' => by simpa using List.all_eq_true.1 hv v hv') hl h0 h24
theorem own_buildN (vals : List Value) (hO : Own M w0 X R S w) (hw : Region.wanted o (yielded ops a.tmps) = true) {t e len bytes s : Nat} {parts : Array (Nat × Operand)} (ho : o.op = .buildSlice t len parts) (ht : SliceT P t e s bytes) (hx : parts.toList.map (fun p => a.eval p.2) = vals) (hi : parts.toList.map (·.1) = List.range len)
  (hv : vals.all (fun v => v.cells.size == s) = true) (h0 : 0 < len) (h24 : len * s ≤ 16777216) (h : ∀ n w', Own M w0 (⟨n, flat vals, e⟩ :: X) R S w' → wpList P ops Q rest (a.put o.dst (.slice (some ⟨n, 0, none⟩) len len)) w') : wpList P ops Q (o :: rest) a w :=
 wpList_val hw _ _ (rx_buildN ho ht hx hi hv h0 h24) (h _ _ (hO.alloc _ e))
theorem flat_one : ∀ {vals : List Value}, vals.all (·.oneCell') = true → flat vals = vals ∧ (vals.all (fun v => v.cells.size == 1) = true)
 | [], _ => ⟨rfl, rfl⟩
 | v :: vs, h => by
  simp only [List.all_cons, Bool.and_eq_true] at h
  have ih := flat_one h.2
  have e : v.cells = #[v] := by have h1 := h.1; cases v <;> first | rfl | cases h1
  simp [flat, e, ih.1, ih.2]
theorem own_buildP (vals : List Value) (hO : Own M w0 X R S w) (hw : Region.wanted o (yielded ops a.tmps) = true) {t e len bytes : Nat} {parts : Array (Nat × Operand)} (ho : o.op = .buildSlice t len parts) (ht : SliceT P t e 1 bytes) (hx : parts.toList.map (fun p => a.eval p.2) = vals) (hi : parts.toList.map (·.1) = List.range len)
  (hv : vals.all (·.oneCell') = true) (h0 : 0 < len) (h24 : len * 1 ≤ 16777216) (h : ∀ n w', Own M w0 (⟨n, vals, e⟩ :: X) R S w' → wpList P ops Q rest (a.put o.dst (.slice (some ⟨n, 0, none⟩) len len)) w') : wpList P ops Q (o :: rest) a w := by
 obtain ⟨e1, e2⟩ := flat_one hv
 exact own_buildN vals hO hw ho ht hx hi e2 h0 h24 (by rw [e1]; exact h)
theorem all_cons {p : Value → Prop} {v : Value} {vs : List Value} (h : p v) (hs : ∀ u ∈ vs, p u) : ∀ u ∈ v :: vs, p u := fun u hu => by
 rcases List.mem_cons.1 hu with rfl | hu
 ·exact h
 ·exact hs u hu
theorem all_nil {p : Value → Prop} : ∀ u ∈ ([] : List Value), p u := fun u hu => by cases hu
theorem own_loadE (hO : Own M w0 X R S w) (hw : Region.wanted o (yielded ops a.tmps) = true) {t : TypeId} {x : Operand} (ho : o.op = .load t x) {n off : Nat} (hx : a.eval x = .pointer (some ⟨n, off, none⟩))
  (ht : OneT P t) {cs : List Value} {t' : TypeId} (hm : (⟨n, cs, t'⟩ : Chunk) ∈ X) (hl : off < cs.length)
  (h : ∀ v, v ∈ cs → wpList P ops Q rest (a.put o.dst v) w) : wpList P ops Q (o :: rest) a w :=
 own_load1 hO hw ho hx ht hm (List.getElem?_eq_getElem hl) (h _ (List.getElem_mem hl))
theorem flat_at {s : Nat} : ∀ {vals : List Value} {k : Nat}, (∀ v ∈ vals, v.cells.size = s) → (hk : k < vals.length) → ((flat vals).drop (k * s)).take s = vals[k].cells.toList
 | v :: vs, 0, h, _ => by
  have h1 := h v (by simp)
  simp only [Nat.zero_mul, List.drop_zero, flat, List.getElem_cons_zero]
  exact List.take_left' (by simpa using h1)
 | v :: vs, k + 1, h, hk => by
  have h1 := h v (by simp)
  have ih := flat_at (vals := vs) (k := k) (fun u hu => h u (by simp [hu])) (by simpa using hk)
  simp only [flat, List.getElem_cons_succ]
  rw [show (k + 1) * s = v.cells.toList.length + k * s by rw [Array.length_toList, h1, Nat.add_mul]; omega, List.drop_append, List.drop_of_length_le (by omega), List.nil_append, Nat.add_sub_cancel_left]
  exact ih
theorem own_loadF (hO : Own M w0 X R S w) (hw : Region.wanted o (yielded ops a.tmps) = true) {t : TypeId} {x : Operand} (ho : o.op = .load t x) {n k s : Nat} (hx : a.eval x = .pointer (some ⟨n, k * s, none⟩))
  (ht : RowT P t s) {vals : List Value} {t' : TypeId} (hm : (⟨n, flat vals, t'⟩ : Chunk) ∈ X) (hl : k < vals.length) (hv : vals.all (fun v => (v matches .agg _) && v.cells.size == s) = true)
  (h : ∀ v, v ∈ vals → wpList P ops Q rest (a.put o.dst v) w) : wpList P ops Q (o :: rest) a w := by
 have hv' : ∀ v ∈ vals, v.cells.size = s := fun v hm => by have := List.all_eq_true.1 hv v hm; simp at this; exact this.2
 have hf := flat_at hv' hl
 have hm' := List.getElem_mem hl
 have h2 := List.all_eq_true.1 hv _ hm'
 have hsz := hv' _ hm'
 generalize vals[k] = v at *
 cases v with
 | agg cs =>
  simp only [Value.cells] at hf hsz
  refine own_load (vs := cs.toList) hO hw ho hx ht hm (by rw [Array.length_toList, hsz]; exact hf) (by simpa using hsz) ?_
  simpa using h _ hm'
 | _ => simp at h2
theorem Own.after (hO : Own M w0 X R S w) {n : Nat} {cs cs' : List Value} {t : TypeId} (hu : Upd X ⟨n, cs, t⟩ ⟨n, cs', t⟩ X') (hk : Keep [n] w w') (hb : Blk w' n cs' t) : Own M w0 X' R S w' := by
 obtain ⟨i, hi, rfl⟩ := hu.at
 have he : excl (X.set i ⟨n, cs', t⟩) R = excl X R := by unfold excl; rw [map_set_n hi cs']
 have hmem : n ∈ excl X R := List.mem_append.2 (.inl (List.mem_map.2 ⟨_, List.mem_of_getElem? hi, rfl⟩))
 have hnX : n ∈ X.map (·.n) := List.mem_map.2 ⟨_, List.mem_of_getElem? hi, rfl⟩
 have hnd := List.nodup_append.1 hO.nd
 refine ⟨⟨hk.os.trans hO.keep.os, hk.tape.trans hO.keep.tape, hk.output.trans hO.keep.output, Nat.le_trans hO.keep.size hk.size, fun k hk0 hm => ?_⟩, fun c hc => ?_, fun r hr => ?_, fun s hs' => ?_, he ▸ hO.nd, he ▸ hO.free, he ▸ hO.apart⟩
 ·by_cases e : k = n
  ·subst e
   rcases hO.free k hmem with hf | hf
   ·exact absurd hf hm
   ·omega
  ·rw [hk.block k (Nat.lt_of_lt_of_le hk0 hO.keep.size) (by simpa using e)]; exact hO.keep.block k hk0 hm
 ·obtain ⟨j, hj⟩ := List.getElem?_of_mem hc
  by_cases e : j = i
  ·subst e
   have hl := (List.getElem?_eq_some_iff.1 hi).1
   rw [List.getElem?_set_self hl] at hj
   cases hj; exact hb
  ·rw [List.getElem?_set_ne (fun h => e h.symm)] at hj
   have hc' := hO.chunk c (List.mem_of_getElem? hj)
   have hne : c.n ≠ n := by
    intro heq
    have h1 : (X.map (·.n))[j]? = some n := by simp [hj, heq]
    have h2 : (X.map (·.n))[i]? = some n := by simp [hi]
    exact e ((List.getElem?_inj (List.getElem?_eq_some_iff.1 h1).1 hnd.1).1 (h1.trans h2.symm))
   unfold Blk; rw [hk.block c.n hc'.lt (by simpa using hne)]; exact hc'
 ·refine (hO.row r hr).kept (row := some n) ⟨hk.os, hk.tape, hk.output, hk.size, fun k hk0 hkn => hk.block k hk0 (by simp; intro e; exact hkn (by rw [e]))⟩ ?_
  cases e : r.v.ownBlock with
  | none => simp
  | some b =>
   right
   intro heq
   have hb : b = n := by simpa using heq
   exact hnd.2.2 n hnX b (List.mem_filterMap.2 ⟨r, hr, e⟩) hb.symm
 ·intro j v hv
  have h1 := hO.ro s hs' j v hv
  have hne : s.g ≠ n := fun e => hO.apart s hs' (fun e0 => by rw [e0] at hv; cases hv) (e ▸ hmem)
  rw [World.cell?_of_block (w := w) (hk.block _ (World.block_lt_of_cell? w _ h1) (by simpa using hne))]; exact h1
theorem keep_alloc (w : World) (o : Obj) (M : List Nat) : Keep M w (w.alloc o) := ⟨rfl, rfl, rfl, by simp, fun k hk _ => Below.heap_alloc _ _ _ hk⟩
def IsLit (L : List Nat) (len : Nat) (cs : List Value) : Fact := fun v w => ∃ b, v = .slice (some ⟨b, 0, none⟩) len len ∧ w.rangeAt b 0 cs ∧ (b ∉ L) ∧ b < w.heap.size
theorem IsLit.keep {L M : List Nat} {len : Nat} {cs : List Value} {v : Value} (h : IsLit L len cs v w) (hk : Keep M w w') (hM : ∀ x ∈ M, x ∈ L) : IsLit L len cs v w' := by
 obtain ⟨b, h1, h2, h3, h4⟩ := h
 refine ⟨b, h1, fun j u hj => ?_, h3, Nat.lt_of_lt_of_le h4 hk.size⟩
 rw [World.cell?_of_block (w := w) (hk.block b h4 (fun hm => h3 (hM b hm)))]; exact h2 j u hj
theorem own_loadRE (hO : Own M w0 X R S w) (hw : Region.wanted o (yielded ops a.tmps) = true) {t : TypeId} {x : Operand} (ho : o.op = .load t x) {n off : Nat} (hx : a.eval x = .pointer (some ⟨n, off, none⟩))
  (ht : OneT P t) {cs : List Value} (hm : (⟨n, 0, cs⟩ : Ro) ∈ S) (hl : off < cs.length)
  (h : ∀ v, v ∈ cs → wpList P ops Q rest (a.put o.dst v) w) : wpList P ops Q (o :: rest) a w :=
 own_loadG1 hO hw ho hx ht hm (List.getElem?_eq_getElem hl) (h _ (List.getElem_mem hl))
end
def IsCells (w : World) (v : Value) (n : Nat) (xs : List Value) : Prop :=
 (v = .slice none 0 0 ∧ n = 0 ∧ xs = []) ∨ ∃ g o c, v = .slice (some ⟨g, o, none⟩) n c ∧ n ≤ c ∧ w.rangeAt g o xs
def roC (v : Value) (xs : List Value) : List Ro := match v with
 | .slice (some ⟨g, o, none⟩) _ _ => [⟨g, o, xs⟩]
 | _ => []
theorem IsCells.view {w : World} {v : Value} {n : Nat} {xs : List Value} (h : IsCells w v n xs) : ∃ a c, v = .slice a n c ∧ n ≤ c ∧ (∀ s ∈ roC v xs, w.rangeAt s.g s.o s.xs) ∧ (a = none → n = 0 ∧ c = 0 ∧ xs = []) ∧ (a ≠ none → ∃ g o, a = some ⟨g, o, none⟩) := by
 rcases h with ⟨rfl, rfl, rfl⟩ | ⟨g, o, c, rfl, hc, h⟩
 ·exact ⟨none, 0, rfl, Nat.le_refl _, by simp [roC], fun _ => ⟨rfl, rfl, rfl⟩, fun h => absurd rfl h⟩
 ·exact ⟨_, c, rfl, hc, by simpa [roC] using h, (fun h => by cases h), fun _ => ⟨g, o, rfl⟩⟩
theorem IsCells.keepB {w w' : World} {v : Value} {n : Nat} {xs : List Value} {M : List Nat} (h : IsCells w v n xs) (hk : Keep M w w') (hM : ∀ g, v.ownBlock = some g → g ∉ M) : IsCells w' v n xs := by
 rcases h with h | ⟨g, o, c, rfl, hc, h⟩
 ·exact .inl h
 ·refine .inr ⟨g, o, c, rfl, hc, fun j u hj => ?_⟩
  have h4 := h j u hj
  rw [World.cell?_of_block (w := w) (hk.block _ (World.block_lt_of_cell? w _ h4) (hM g rfl))]; exact h4
theorem IsCells.below {w w' : World} {v : Value} {n : Nat} {xs : List Value} (h : IsCells w v n xs) (hb : Below w.heap.size w w') : IsCells w' v n xs := h.keepB (keep_of_below hb []) (by simp)
theorem own_roC {w : World} {v : Value} {n : Nat} {xs : List Value} (h : IsCells w v n xs) : Own [] w [] [] (roC v xs) w := by
 obtain ⟨a, c, _, _, hr, _⟩ := h.view
 exact ⟨Keep.refl _ _, fun c hc => (by cases hc), fun r hr => (by cases hr), hr, by simp [excl], by simp [excl], by simp [excl]⟩
section
variable {P : Program} {ops : Array Oper} {rest : List Oper} {o : Oper} {a : Act} {w w0 w' : World} {Q : Exit → Act → World → Prop} {M : List Nat} {X X' : List Chunk} {R R' : List Row} {S : List Ro}
theorem UpdR.mem {r r' : Row} (h : UpdR R r r' R') : r ∈ R := by
 obtain ⟨i, h1, _⟩ := h.at
 exact List.mem_of_getElem? h1
theorem Own.rowIs (hO : Own M w0 X R S w) {v : Value} {k size : Nat} {xs : List Value} {e : TypeId} (hm : (⟨v, k, xs, e, size⟩ : Row) ∈ R) : IsCells w v k xs := by
 have h := hO.row _ hm
 rcases h.2 with ⟨h1, h2⟩ | ⟨g, cap, cur, h1, _, hg, hc, _, _, ht⟩
 ·have h1' : v = .slice none 0 0 := h1
  have h2' : k = 0 := h2
  refine .inl ⟨h1', h2', List.eq_nil_of_length_eq_zero ?_⟩
  have := h.1
  simp only [h2', Nat.zero_mul] at this
  exact this
 ·have h1' : v = .slice (some ⟨g, 0, none⟩) k cap := h1
  subst h1'
  exact .inr ⟨g, 0, cap, rfl, hc, fun j u hu => by rw [Nat.zero_add]; exact hO.rowCell hm hu⟩
theorem IsCells.sub {g o k c : Nat} {xs : List Value} (h : IsCells w (.slice (some ⟨g, o, none⟩) k c) k xs) {i n c' : Nat} {ys : List Value} (hy : (xs.drop i).take ys.length = ys) (hc : n ≤ c') : IsCells w (.slice (some ⟨g, o + i, none⟩) n c') n ys := by
 rcases h with ⟨h, _⟩ | ⟨g', o', c1, h1, h2, h3⟩
 ·cases h
 ·cases h1
  refine .inr ⟨g, o + i, c', rfl, hc, fun j u hu => ?_⟩
  have hl := (List.getElem?_eq_some_iff.1 hu).1
  rw [← hy, List.getElem?_take, if_pos hl, List.getElem?_drop] at hu
  rw [Nat.add_assoc]
  exact h3 _ _ hu
theorem own_ldR (hO : Own M w0 X R S w) (hw : Region.wanted o (yielded ops a.tmps) = true) {t : TypeId} {x : Operand} (ho : o.op = .load t x) {g j k cap size : Nat} (hx : a.eval x = .pointer (some ⟨g, j, none⟩))
  (ht : OneT P t) {xs : List Value} {e : TypeId} {v : Value} (hm : (⟨.slice (some ⟨g, 0, none⟩) k cap, k, xs, e, size⟩ : Row) ∈ R) (hv : xs[j]? = some v)
  (h : wpList P ops Q rest (a.put o.dst v) w) : wpList P ops Q (o :: rest) a w :=
 wpList_val hw _ _ (rx_load1 ho hx ht (hO.rowCell hm hv)) h
theorem row_base {base size k : Nat} {v : Value} {xs : List Value} {e : TypeId} (h : w.ownsRow base e size v k xs) : w.ownsRow 0 e size v k xs :=
 ⟨h.1, h.2.imp id fun ⟨g, cap, cur, h1, _, h3⟩ => ⟨g, cap, cur, h1, Nat.zero_le _, h3⟩⟩
theorem own_stRow (hO : Own M w0 X R S w) (hw : Region.wanted o (yielded ops a.tmps) = true) {t : TypeId} {x y : Operand} (ho : o.op = .store t x y) {g j k cap size : Nat} (hx : a.eval x = .pointer (some ⟨g, j, none⟩))
  {v : Value} (hy : a.eval y = v) (ht : OneT P t) {xs : List Value} {e : TypeId} (hu : UpdR R ⟨.slice (some ⟨g, 0, none⟩) k cap, k, xs, e, size⟩ ⟨.slice (some ⟨g, 0, none⟩) k cap, k, xs.set j v, e, size⟩ R') (hl : j < xs.length) (h1 : v.oneCell' = true)
  (h : ∀ w', Own M w0 X R' S w' → wpList P ops Q rest (a.put o.dst undef) w') : wpList P ops Q (o :: rest) a w := by
 have hr := hO.row _ hu.mem
 have hc := hO.rowCell hu.mem (List.getElem?_eq_getElem hl)
 obtain ⟨A, B, rfl, rfl⟩ := hu.split
 have hs := hr.stored j v
 exact wpList_skp hw _ (rx_store1 ho hx hy ht (Option.isSome_iff_exists.2 ⟨_, hc⟩) (hr.frozenAt j) h1) (h _ (hO.grow hs.2 hs.1 fun g' hg' => .inl hg'))
theorem grown_of_keep {row : Option Nat} (hk : Keep row.toList w w') : w.grownBy w' row :=
 ⟨hk.os, hk.tape, hk.output, hk.size, fun k hl hne => hk.block k hl (by cases row with
  | none => simp
  | some b => simpa using fun e => hne (by rw [e]))⟩
theorem Own.afterRow (hO : Own M w0 X R S w) {v : Value} {k size : Nat} {xs ys : List Value} {e : TypeId} (hu : UpdR R ⟨v, k, xs, e, size⟩ ⟨v, k, ys, e, size⟩ R') (hk : Keep v.ownBlock.toList w w') (hr : w'.ownsRow 0 e size v k ys) : Own M w0 X R' S w' := by
 obtain ⟨A, B, rfl, rfl⟩ := hu.split
 exact hO.grow (r := ⟨v, k, xs, e, size⟩) (r' := ⟨v, k, ys, e, size⟩) (grown_of_keep hk) hr fun g hg => .inl hg
theorem Own.gainRow (hO : Own M w0 X R S w) (hb : Below w.heap.size w w') {v : Value} {k size : Nat} {xs : List Value} {e : TypeId} (hr : w'.ownsRow w.heap.size e size v k xs) : Own M w0 X (⟨v, k, xs, e, size⟩ :: R) S w' := by
 have h1 := hO.call hb
 have hmem : ∀ n, n ∈ excl X (⟨v, k, xs, e, size⟩ :: R) ↔ n ∈ excl X R ∨ v.ownBlock = some n := fun n => by
  have := mem_blocks (X := X) (A := []) (B := R) (r := ⟨v, k, xs, e, size⟩) (g := n)
  simpa [excl] using this
 have hnew : ∀ n, v.ownBlock = some n → w.heap.size ≤ n := fun n hn => (hr.lt n hn).1
 refine ⟨h1.keep, h1.chunk, fun r hr' => ?_, h1.ro, ?_, fun n hn => ?_, fun s hs hne hm => ?_⟩
 ·rcases List.mem_cons.1 hr' with rfl | hr'
  ·exact row_base hr
  ·exact h1.row r hr'
 ·have := (nodup_blocks (X := X) (A := []) (B := R) (r := ⟨v, k, xs, e, size⟩)).2 ⟨by simpa [excl] using hO.nd, fun g hg hm => by
   have h2 := hO.lt g (by simpa [excl] using hm)
   have := hnew g hg
   omega⟩
  simpa using this
 ·rcases (hmem n).1 hn with hn | hn
  ·exact h1.free n hn
  ·exact .inr (Nat.le_trans hO.keep.size (hnew n hn))
 ·rcases (hmem s.g).1 hm with hm | hm
  ·exact h1.apart s hs hne hm
  ·have h2 := ro_lt (hO.ro s hs) hne
   have := hnew _ hm
   omega
theorem own_takeRow {v : Value} {k size : Nat} {xs : List Value} {e : TypeId} (h : w.ownsRow 0 e size v k xs) (S : List Ro) (hS : ∀ s ∈ S, w.rangeAt s.g s.o s.xs ∧ (s.xs ≠ [] → v.ownBlock ≠ some s.g)) : Own v.ownBlock.toList w [] [⟨v, k, xs, e, size⟩] S w :=
 ⟨Keep.refl _ _, fun c hc => (by cases hc), fun r hr => by obtain rfl := List.mem_singleton.1 hr; exact h, fun s hs => (hS s hs).1, by cases hv : v.ownBlock <;> simp [excl, hv], fun n hn => .inl (by cases hv : v.ownBlock <;> simp [excl, hv] at hn ⊢; exact hn), fun s hs hne hm => (hS s hs).2 hne (by cases hv : v.ownBlock <;> simp [excl, hv] at hm ⊢; exact hm.symm)⟩
def RowPost (w : World) (v : Value) (k : Nat) (e : TypeId) (size : Nat) (ys : List Value) (r : Value) (en : Ending) (w' : World) : Prop := en = .returned r ∧ Keep v.ownBlock.toList w w' ∧ w'.ownsRow 0 e size v k ys
theorem Own.newRow {v : Value} {k size : Nat} {ys : List Value} {e : TypeId} (hO : Own [] w0 X R S w) (hm : (⟨v, k, ys, e, size⟩ : Row) ∈ R) : w.ownsRow w0.heap.size e size v k ys := by
 have h := hO.row _ hm
 refine ⟨h.1, ?_⟩
 rcases h.2 with h2 | ⟨g, cap, cur, h1, _, h3⟩
 ·exact .inl h2
 ·refine .inr ⟨g, cap, cur, h1, ?_, h3⟩
  have h1' : v = .slice (some ⟨g, 0, none⟩) k cap := h1
  rcases hO.free g (List.mem_append.2 (.inr (List.mem_filterMap.2 ⟨_, hm, by simp [h1', Value.ownBlock]⟩))) with hf | hf
  ·cases hf
  ·exact hf
theorem own_stW (hO : Own M w0 X R S w) (hw : Region.wanted o (yielded ops a.tmps) = true := by rfl) {t : TypeId} {x y : Operand} (ho : o.op = .store t x y := by rfl) {g j k cap size : Nat} (hx : a.eval x = .pointer (some ⟨g, j, none⟩) := by rfl)
  {v : Value} (hy : a.eval y = v := by (first | exact (rfl : _ = Value.int _ _) | exact (rfl : _ = Value.bool _))) (ht : OneT P t := by (with_reducible (first | exact one_u32 | exact one_int | exact one_u16 | exact one_u8 | exact one_ints | exact one_bool | exact one_bytes | exact one_u64 | exact one_set | exact one_boxes))) {xs ys : List Value} {e : TypeId} (hu : UpdR R ⟨.slice (some ⟨g, 0, none⟩) k cap, k, xs, e, size⟩ ⟨.slice (some ⟨g, 0, none⟩) k cap, k, ys, e, size⟩ R' := by (repeat (first | exact UpdR.here | apply UpdR.there))) (hn : xs.set j v = ys := by (first | exact bc_set _ _ _ | rfl)) (hl : j < xs.length := by (first | (simp [bc_length]; done) | (simp [bc_length]; omega) | (rw [bc_length]; omega))) (h1 : v.oneCell' = true := by rfl)
  (h : ∀ w', Own M w0 X R' S w' → wpList P ops Q rest (a.put o.dst undef) w') : wpList P ops Q (o :: rest) a w := by
 subst hn
 exact own_stRow hO hw ho hx hy ht hu hl h1 h
end
section
variable {P : Program} {ops : Array Oper} {rest : List Oper} {o : Oper} {a : Act} {Q : Exit → Act → World → Prop} {M : List Nat} {w0 w w' : World} {X : List Chunk} {R : List Row} {S : List Ro}
def SrcAt (w : World) (size : Nat) (A : Option Addr) (m : Nat) (news : List Value) : Prop :=
 news.length = m * size ∧ (0 < m → ∃ g off, A = some ⟨g, off, none⟩ ∧ w.rangeAt g off news)
theorem src_of_cells {w : World} {A : Option Addr} {m c size : Nat} {news : List Value} (h : IsCells w (.slice A m c) m news) (hl : news.length = m * size) : SrcAt w size A m news := by
 refine ⟨hl, fun hm => ?_⟩
 rcases h with ⟨_, h0, _⟩ | ⟨g, o, c', h1, _, h2⟩
 ·omega
 ·cases h1
  exact ⟨g, o, rfl, h2⟩
theorem own_appendS (hO : Own M w0 X R S w) (hgd : o.guard = none) {s x : Operand} {t e : TypeId} (ho : o.op = .call { callee := .builtin .append, args := #[s, x], argTypes := #[t, t] }) {size bytes : Nat} (ht : SliceT P t e size bytes)
  {v : Value} (hs : a.eval s = v) {A : Option Addr} {m c : Nat} (hx : a.eval x = .slice A m c) {news : List Value} (hr : SrcAt w size A m news) (h1 : news.all (·.oneCell') = true)
  {k : Nat} {xs : List Value} {R1 : Value → List Row} (hu : ∀ v', UpdR R ⟨v, k, xs, e, size⟩ ⟨v', k + m, xs ++ news, e, size⟩ (R1 v')) (hbytes : (k + m) * bytes ≤ 140737488355328) (hk : k + m ≤ maxLen)
  (h : ∀ v' w', Own M w0 X (R1 v') S w' → wpList P ops Q rest (a.put o.dst v') w') : wpList P ops Q (o :: rest) a w := by
 obtain ⟨hu1, hsz, i, z, hi, hz, hi1, hi2, hz1⟩ := ht
 obtain ⟨A0, B0, hR0, _⟩ := (hu .nilIface).split
 have hrow := hO.row ⟨v, k, xs, e, size⟩ (by rw [hR0]; exact List.mem_append.2 (.inr List.mem_cons_self))
 have run : ∃ v' w', (Builtin.append_ #[t, t] o.type #[v, .slice A m c]).run P w = .ok v' w' ∧ w'.ownsRow 0 e size v' (k + m) (xs ++ news) ∧ w.grownBy w' v.ownBlock ∧ (v'.ownBlock = v.ownBlock ∨ v'.ownBlock = some w.heap.size) := by
  by_cases h0 : 0 < m
  ·obtain ⟨g, off, rfl, hm⟩ := hr.2 h0
   obtain ⟨v', w', r1, r2, r3, _, r5⟩ := run_append_own_at (P := P) w 0 t o.type e i z size bytes hu1 hi hz hi1 hi2 hz1 hsz v k xs hrow ⟨g, off, none⟩ m c news hr.1 (fun j u hj => by
    have hadd : (⟨g, off, none⟩ : Addr).add j = ⟨g, off + j, none⟩ := by
     unfold Addr.add
     by_cases h : j = 0
     ·rw [if_pos h, h]; rfl
     ·rw [if_neg h]
    rw [hadd]
    exact hm j u hj) (fun u hu => List.all_eq_true.1 h1 u hu) hk hbytes (Nat.zero_le _)
   exact ⟨v', w', r1, r2, r3, r5⟩
  ·have hm : m = 0 := by omega
   subst hm
   have hn : news = [] := List.eq_nil_of_length_eq_zero (by simpa using hr.1)
   subst hn
   cases A with
   | none =>
    refine ⟨v, w, ?_, by simpa using hrow, World.grownBy.refl w _, .inl rfl⟩
    rcases hrow.2 with ⟨h2, h3⟩ | ⟨g, cap, cur, h2, _, _, hnc, _⟩
    ·have h2' : v = .slice none 0 0 := h2
     simp [Builtin.append_, run_underlying hu1, sizeOf, typeInfo, hi, Builtin.lenOf, Builtin.firstCells, h2']
    ·have h2' : v = .slice (some ⟨g, 0, none⟩) k cap := h2
     simp [Builtin.append_, run_underlying hu1, sizeOf, typeInfo, hi, Builtin.lenOf, Builtin.firstCells, h2', show k ≤ cap from hnc, storeCells]
   | some ad =>
    obtain ⟨v', w', r1, r2, r3, _, r5⟩ := run_append_own_at (P := P) w 0 t o.type e i z size bytes hu1 hi hz hi1 hi2 hz1 hsz v k xs hrow ad 0 c [] (by simp) (fun j u hj => by simp at hj) (fun u hu => by cases hu) hk hbytes (Nat.zero_le _)
    exact ⟨v', w', r1, r2, r3, r5⟩
 obtain ⟨v', w', r1, r2, r3, r4⟩ := run
 refine wpList_plain hgd fun K hK => ?_
 unfold Oper.wp execOp
 simp only [ho, resolve, invoke, builtin, Sem.run_bind, Sem.run_pure, Result.andThen_ok, List.map_toArray, List.map_cons, List.map_nil, hs, hx, r1]
 refine hK _ _ (h v' w' ?_)
 obtain ⟨A1, B1, hR, hR'⟩ := (hu v').split
 rw [hR']
 refine Own.grow (r := ⟨v, k, xs, e, size⟩) (hR ▸ hO) r3 r2 fun g' hg' => ?_
 rcases r4 with h4 | h4
 ·exact .inl (h4 ▸ hg')
 ·rw [h4] at hg'; exact .inr (Option.some.inj hg').symm
theorem rx_build0 {t e : TypeId} {size bytes : Nat} (ho : o.op = .buildSlice t 0 #[]) (ht : SliceT P t e size bytes) :
  (execOp a.eval o).run P w = .ok (.value (.slice (some ⟨w.heap.size, 0, none⟩) 0 0)) (w.alloc (.cells #[] e (0, 0))) := by
 obtain ⟨hu, _, i, z, hie, _, _, _, _⟩ := ht
 unfold execOp
 simp [ho, Instr.buildSlice, underlying, run_program, hu, sizeOf, typeInfo, hie, newRow, Instr.fill]
 refine congrArg (fun x => w.alloc (Obj.cells x e)) (Array.eq_empty_of_size_eq_zero (by simp))
theorem own_build0 (hO : Own M w0 X R S w) (hw : Region.wanted o (yielded ops a.tmps) = true) {t e : TypeId} {size bytes : Nat} (ho : o.op = .buildSlice t 0 #[]) (ht : SliceT P t e size bytes)
  (h : ∀ n w', Own M w0 X (⟨.slice (some ⟨n, 0, none⟩) 0 0, 0, [], e, size⟩ :: R) S w' → wpList P ops Q rest (a.put o.dst (.slice (some ⟨n, 0, none⟩) 0 0)) w') : wpList P ops Q (o :: rest) a w := by
 refine wpList_val hw _ _ (rx_build0 ho ht) (h _ _ (hO.gainRow ((Below.refl _ _).alloc (Nat.le_refl _) _) ?_))
 exact World.ownsRow_made w #[] 0 (Nat.le_refl _) (Nat.zero_le _) (by simp)
end
theorem row_Tape : RowT Tryz.prog 93 2 := ⟨_, Tryz.underlying93, rfl, by kernel_rfl⟩
theorem one_ints : OneT Tryz.prog 22 := ⟨_, Tryz.underlying22, rfl, by kernel_rfl⟩
abbrev ints (zs : List Int) : List Value := zs.map fun z => .int .i64 z
theorem ints_at {zs : List Int} {k : Nat} (h : k < zs.length) : (ints zs)[k]? = some (.int .i64 zs[k]) := by simp [h]
abbrev tcs (sl : Value) (i : Nat) : List Value := [sl, .int .i64 i]
structure ZsOk (sl : Value) (zs : List Int) : Prop where
 view : ∃ a c, sl = .slice a zs.length c ∧ (0 < zs.length → ∃ g o, a = some ⟨g, o, none⟩)
 bd : ∀ z ∈ zs, -9223372036854775808 ≤ z ∧ z ≤ 9223372036854775807
 len : zs.length ≤ 9223372036854775807
structure TapeIn (w : World) (n : Nat) (sl : Value) (zs : List Int) (i : Nat) : Prop where
 blk : Blk w n (tcs sl i) 93
 le : i ≤ zs.length
 rd : ∀ s ∈ roS sl (ints zs), w.rangeAt s.g s.o s.xs ∧ (s.xs ≠ [] → s.g ≠ n)
def TPost (w : World) (n : Nat) (sl : Value) (zs : List Int) (Φ : Value → World → Prop) (e : Ending) (w' : World) : Prop :=
 ∃ v i', e = .returned v ∧ Φ v w' ∧ Keep [n] w w' ∧ TapeIn w' n sl zs i'
theorem Own.takeIn {w : World} {n : Nat} {cs : List Value} {t : TypeId} (hb : Blk w n cs t) (S : List Ro) (hS : ∀ s ∈ S, w.rangeAt s.g s.o s.xs ∧ (s.xs ≠ [] → s.g ≠ n)) : Own [n] w [⟨n, cs, t⟩] [] S w :=
 ⟨Keep.refl _ _, fun c hc => by obtain rfl := List.mem_singleton.1 hc; exact hb, fun r hr => (by cases hr), fun s hs => (hS s hs).1, by simp [excl], fun k hk => .inl (by simpa [excl] using hk), fun s hs hne => by simpa [excl] using (hS s hs).2 hne⟩
theorem own_tape {w : World} {n : Nat} {sl : Value} {zs : List Int} {i : Nat} (hT : TapeIn w n sl zs i) : Own [n] w [⟨n, tcs sl i, 93⟩] [] (roS sl (ints zs)) w :=
 Own.takeIn hT.blk _ hT.rd
section
variable {M : List Nat} {w0 w : World} {X : List Chunk} {R : List Row} {S : List Ro} {n : Nat} {sl : Value} {zs : List Int} {i : Nat}
theorem Own.tapeIn (hO : Own M w0 X R S w) (hm : (⟨n, tcs sl i, 93⟩ : Chunk) ∈ X) (hS : ∀ s ∈ roS sl (ints zs), s ∈ S) (hi : i ≤ zs.length) : TapeIn w n sl zs i :=
 ⟨hO.chunk _ hm, hi, fun s hs => ⟨hO.ro s (hS s hs), fun hne e => hO.apart s (hS s hs) hne (by rw [e]; exact List.mem_append.2 (.inl (List.mem_map.2 ⟨_, hm, rfl⟩)))⟩⟩
theorem tpost {Φ : Value → World → Prop} {v : Value} {X : List Chunk} (hO : Own [n] w0 X R S w) (hm : (⟨n, tcs sl i, 93⟩ : Chunk) ∈ X) (hS : ∀ s ∈ roS sl (ints zs), s ∈ S) (hi : i ≤ zs.length) (hv : Φ v w) : TPost w0 n sl zs Φ (.returned v) w :=
 ⟨v, i, rfl, hv, hO.keep, hO.tapeIn hm hS hi⟩
end
theorem TPost.mono {w : World} {n : Nat} {sl : Value} {zs : List Int} {Φ Ψ : Value → World → Prop} {e : Ending} {w' : World} (h : TPost w n sl zs Φ e w') (hi : ∀ v w, Φ v w → Ψ v w) : TPost w n sl zs Ψ e w' := by
 obtain ⟨v, i, h1, h2, h3, h4⟩ := h
 exact ⟨v, i, h1, hi _ _ h2, h3, h4⟩
def modI (v n : Int) : Int := (IntKind.u64.wrap v).tmod n
theorem modI_bd (v : Int) {n : Int} (h : 0 < n) : 0 ≤ modI v n ∧ modI v n < n := by
 have : 0 ≤ IntKind.u64.wrap v := by simp [IntKind.wrap, IntKind.signed, IntKind.bits]; omega
 exact ⟨Int.tmod_nonneg _ this, Int.tmod_lt_of_pos _ h⟩
theorem mod_is (v n : Int) (w : World) (h0 : 0 < n) (h1 : n ≤ 9223372036854775807) : Calls Tryz.prog 30 #[.int .i64 v, .int .i64 n] w fun e w' => e = .returned (.int .i64 (modI v n)) ∧ w = w' := by
 have hn : (n == 0) = false := by simp; omega
 have hn2 : n ≠ 0 := by omega
 have e1 : IntKind.u64.wrap n = n := by simp [IntKind.wrap, IntKind.signed, IntKind.bits]; omega
 have hb := modI_bd v h0
 have ⟨r, hr, hr0, hr1⟩ : ∃ r, (IntKind.u64.wrap v).tmod n = r ∧ 0 ≤ r ∧ r < n := ⟨_, rfl, hb.1, hb.2⟩
 have E := Lib.hid (show modI v n = r from hr)
 clear hb
 have e2 : IntKind.i64.wrap r = r := by simp [IntKind.wrap, IntKind.signed, IntKind.bits]; omega
 have e3 : IntKind.u64.wrap r = r := by simp [IntKind.wrap, IntKind.signed, IntKind.bits]; omega
 go_enter Tryz.func30, Tryz.ntmps30
 go_wp2
 go_ret
 exact ⟨ret_int E.out.symm, rfl⟩
def Small (m : Int) : Value → World → Prop := fun v _ => ∃ r, v = .int .i64 r ∧ 0 ≤ r ∧ (r < m ∨ r = 0)
set_option maxHeartbeats 1000000 in
theorem next_any {w : World} {n : Nat} {sl : Value} {zs : List Int} {i : Nat} (m : Int) (hZ : ZsOk sl zs) (hT : TapeIn w n sl zs i) (hm : m ≤ 9223372036854775807) :
  Calls Tryz.prog 21 #[.pointer (some ⟨n, 0, none⟩), .int .i64 m] w (TPost w n sl zs (Small m)) := by
 obtain ⟨a, c, rfl, ha⟩ := hZ.view
 have hO := own_tape hT
 have hle := hT.le
 have hlen := hZ.len
 clear hT
 by_cases h1 : m ≤ 1
 ·have h1' : decide (m ≤ 1) = true := by simp [h1]
  go_enter Tryz.func21, Tryz.ntmps21
  go_wp2_with fail
  (refine own_quiet hO (by kernel_rfl) (by kernel_rfl) ?_; clear hO; (repeat (first | go_big_quiet_skip | (go_big_quiet_want; (go_big_quiet_op; (first | go_big_quiet_on | ((refine ⟨_, fun _ _ => rfl, ?_⟩); go_big_quiet_on)))))); (refine wpQuiet_nil ?_); intro wv hO)
  go_wp2_with fail
  go_ret
  exact tpost hO List.mem_cons_self (fun _ h => h) hle ⟨0, rfl, by omega, .inr rfl⟩
 ·have h1' : decide (m ≤ 1) = false := by simp [h1]
  by_cases h2 : zs.length ≤ i
  ·have h2' : decide (zs.length ≤ i) = true := by simp [h2]
   go_enter Tryz.func21, Tryz.ntmps21
   go_wp2_with fail
   (refine own_quiet hO (by kernel_rfl) (by kernel_rfl) ?_; clear hO; (repeat (go_big_quiet_want; (first | ((with_reducible refine is_loadQ ?_); (refine q_ld (h := ?_)); (try simp only [Act.put]); (try simp only [sI9, sZ9, sS9]); go_big_quiet_on) | (go_big_quiet_op; (first | go_big_quiet_on | ((refine ⟨_, fun _ _ => rfl, ?_⟩); go_big_quiet_on)))))); (refine wpQuiet_nil ?_); intro wv hO)
   go_wp2_with fail
   go_ret
   exact tpost hO List.mem_cons_self (fun _ h => h) hle ⟨0, rfl, by omega, .inr rfl⟩
  ·have h2' : decide (zs.length ≤ i) = false := by simp; omega
   have hlt : i < zs.length := by omega
   obtain ⟨g, o, rfl⟩ := ha (by omega)
   simp only [roS] at hO
   have hb := modI_bd zs[i] (show 0 < m by omega)
   go_enter Tryz.func21, Tryz.ntmps21
   go_wp2_with fail
   (refine own_quiet hO (by kernel_rfl) (by kernel_rfl) ?_; clear hO; (repeat (go_big_quiet_want; (first | ((with_reducible refine is_loadQ ?_); (refine q_ld (h := ?_)); (try simp only [Act.put]); (try simp only [sI9, sZ9, sS9]); go_big_quiet_on) | (go_big_quiet_op; (first | go_big_quiet_on | ((refine ⟨_, fun _ _ => rfl, ?_⟩); go_big_quiet_on)))))); (refine wpQuiet_nil ?_); intro wv hO)
   go_wp2_with (first | refine ldN ?_ | (refine st1N hO ?_; clear hO; intro wv hO))
   (try simp only [Act.put]); (refine own_quiet hO (by kernel_rfl) (by kernel_rfl) ?_; clear hO; (repeat (go_big_quiet_want; (first | ((with_reducible refine is_loadQ ?_); (refine q_ld (h := ?_)); (try simp only [Act.put]); (try simp only [sI9, sZ9, sS9]); go_big_quiet_on) | (go_big_quiet_op; (first | go_big_quiet_on | ((refine ⟨_, fun _ _ => rfl, ?_⟩); go_big_quiet_on) | go_big_quiet_call ((intro hq; go_at_call 30; exact q_same (mod_is _ _ _ (by omega) hm) hq))))))); (refine wpQuiet_nil ?_); intro wv hO)
   go_wp2_with fail
   go_ret
   exact tpost (i := i + 1) hO List.mem_cons_self (fun _ h => h) (by omega) ⟨_, rfl, hb.1, .inl hb.2⟩
theorem next_pos {w : World} {n : Nat} {sl : Value} {zs : List Int} {i : Nat} (m : Int) (hZ : ZsOk sl zs) (hT : TapeIn w n sl zs i) (h0 : 0 < m) (hm : m ≤ 9223372036854775807) :
  Calls Tryz.prog 21 #[.pointer (some ⟨n, 0, none⟩), .int .i64 m] w (TPost w n sl zs (fun v _ => ∃ r, v = .int .i64 r ∧ 0 ≤ r ∧ r < m)) :=
 (next_any m hZ hT hm).mono fun _ _ h => h.mono fun _ _ ⟨r, h1, h2, h3⟩ => ⟨r, h1, h2, by omega⟩
theorem slice_u32 : SliceT Tryz.prog 159 45 1 4 := ⟨Tryz.underlying159, by omega, by
 obtain ⟨i, h1, h2, h3, h4⟩ := info_parts (show (Tryz.prog.info? 45).map (fun i => (i.zero, i.size, i.bytes)) = some (some (.int .u32 0), 1, 4) by kernel_rfl)
 exact ⟨i, _, h1, h2, h3, h4, rfl⟩⟩
def U32 (hi : Int) : Value → World → Prop := fun v _ => ∃ x, v = .int .u32 x ∧ 0 ≤ x ∧ x ≤ hi
theorem number_any {w : World} {n : Nat} {sl : Value} {zs : List Int} {i : Nat} (top : Int) (hZ : ZsOk sl zs) (hT : TapeIn w n sl zs i) (h0 : 0 ≤ top) (h1 : top ≤ 4294967295) :
  Calls Tryz.prog 161 #[.pointer (some ⟨n, 0, none⟩), .int .u32 top] w (TPost w n sl zs (U32 top)) := by
 have hO := own_tape hT
 have hP : ∀ v ∈ [Value.int .u32 0, .int .u32 1, .int .u32 2, .int .u32 5, .int .u32 7, .int .u32 8, .int .u32 9, .int .u32 15, .int .u32 16, .int .u32 80, .int .u32 255, .int .u32 256, .int .u32 1024, .int .u32 65535, .int .u32 (top / 2), .int .u32 ((top - 1) % 4294967296), .int .u32 top], ∃ x, v = .int .u32 x ∧ 0 ≤ x ∧ x ≤ 4294967295 := (by repeat (first | exact all_nil | refine all_cons ⟨_, rfl, by omega, by omega⟩ ?_))
 go_enter Tryz.func161, Tryz.ntmps161
 go_wp2_with (first | ((with_reducible refine is_build ?_); (refine' own_buildP (o := ⟨some 11, _, _, _, _, _⟩) [.int .u32 0, .int .u32 1, .int .u32 2, .int .u32 5, .int .u32 7, .int .u32 8, .int .u32 9, .int .u32 15, .int .u32 16, .int .u32 80, .int .u32 255, .int .u32 256, .int .u32 1024, .int .u32 65535, .int .u32 (top / 2), .int .u32 ((top - 1) % 4294967296), .int .u32 top] hO (by rfl) rfl slice_u32 rfl rfl (by rfl) (by decide) (by decide) ?_); clear hO; intro n11 wv hO) | (go_at_call 21; (with_reducible refine (next_pos _ hZ (hO.tapeIn (by (repeat (first | exact List.mem_cons_self | refine List.mem_cons_of_mem _ ?_))) (fun _ h => h) hT.le) (by omega) (by omega)).mono ?_); rintro e wv ⟨v, i1, rfl, hv, hk, hT1⟩; replace hO := hO.after (by (repeat (first | exact Upd.here | apply Upd.there))) hk hT1.blk; replace hT := hT1; clear hT1 hk; obtain ⟨r, rfl, hr0, hr1⟩ := hv) | ((with_reducible refine is_load ?_); (refine' own_loadE (o := ⟨some 15, _, _, _, _, _⟩) hO (by rfl) rfl rfl ?ht ?hm ?hl ?_); (case ht => (with_reducible (exact one_u32))); (case hm => (repeat (exact List.mem_cons_self))); (case hl => (simp; omega)); intro v hv; obtain ⟨x, rfl, hx, kx⟩ := hP v hv; clear hv))
 go_ret
 exact tpost hO (by (repeat (first | exact List.mem_cons_self | refine List.mem_cons_of_mem _ ?_))) (fun _ h => h) hT.le ⟨_, rfl, by omega, by omega⟩
def IsRg (hi : Int) : Value → World → Prop := fun v _ => ∃ a b, v = .agg #[.int .u32 a, .int .u32 b] ∧ 0 ≤ a ∧ a ≤ b ∧ b ≤ hi
theorem range_any {w : World} {n : Nat} {sl : Value} {zs : List Int} {i : Nat} (top : Int) (hZ : ZsOk sl zs) (hT : TapeIn w n sl zs i) (h0 : 0 ≤ top) (h1 : top ≤ 4294967295) :
  Calls Tryz.prog 144 #[.pointer (some ⟨n, 0, none⟩), .int .u32 top] w (TPost w n sl zs (IsRg top)) := by
 have hO := own_tape hT
 go_enter Tryz.func144, Tryz.ntmps144
 go_wp2_with (first | (refine stN hO ?_; clear hO; intro wv hO) | (refine al9 4 hO ?_; clear hO; intro n4 wv hO) | (go_at_call 161; (with_reducible refine (number_any _ hZ (hO.tapeIn (by (repeat (first | exact List.mem_cons_self | refine List.mem_cons_of_mem _ ?_))) (fun _ h => h) hT.le) h0 h1).mono ?_); rintro e wv ⟨v, i1, rfl, hv, hk, hT1⟩; replace hO := hO.after (by (repeat (first | exact Upd.here | apply Upd.there))) hk hT1.blk; replace hT := hT1; clear hT1 hk; obtain ⟨r, rfl, hr0, hr1⟩ := hv))
 exact bodyPost_ret (own_res_cell hO Tryz.results144 rfl List.mem_cons_self (by (exact row_len (by (with_reducible (exact row_Range))) (by rfl))) rfl) rfl (tpost hO (by (repeat (first | exact List.mem_cons_self | refine List.mem_cons_of_mem _ ?_))) (fun _ h => h) hT.le ⟨_, _, rfl, by omega, by omega, by omega⟩)
theorem row_Prefix : RowT Tryz.prog 127 2 := ⟨_, Tryz.underlying127, rfl, by kernel_rfl⟩
theorem zero_Prefix : ZeroT Tryz.prog 127 [.int .u32 0, .int .i64 0] := by unfold ZeroT; kernel_rfl
theorem slice_Prefix : SliceT Tryz.prog 61 127 2 16 := ⟨Tryz.underlying61, by omega, by
 obtain ⟨i, h1, h2, h3, h4⟩ := info_parts (show (Tryz.prog.info? 127).map (fun i => (i.zero, i.size, i.bytes)) = some (some (.agg #[.int .u32 0, .int .i64 0]), 2, 16) by kernel_rfl)
 exact ⟨i, _, h1, h2, h3, h4, rfl⟩⟩
def Subn (a b lo hi : Int) : Prop := (a = 167772160 ∧ b = 24 ∧ lo = 167772160 ∧ hi = 167772415) ∨ (a = 167772416 ∧ b = 24 ∧ lo = 167772416 ∧ hi = 167772671) ∨ (a = 167772672 ∧ b = 25 ∧ lo = 167772672 ∧ hi = 167772799) ∨ (a = 167772800 ∧ b = 26 ∧ lo = 167772800 ∧ hi = 167772863) ∨ (a = 2886729728 ∧ b = 16 ∧ lo = 2886729728 ∧ hi = 2886795263) ∨ (a = 3232237321 ∧ b = 32 ∧ lo = 3232237321 ∧ hi = 3232237321)
theorem size_sub (b s : Int) (w : World) (h : (b = 16 ∧ s = 65536) ∨ (b = 24 ∧ s = 256) ∨ (b = 25 ∧ s = 128) ∨ (b = 26 ∧ s = 64) ∨ (b = 32 ∧ s = 1)) : Calls Tryz.prog 169 #[.int .i64 b] w fun e w' => e = .returned (.int .u64 s) ∧ w = w' := by
 rcases h with ⟨rfl, rfl⟩ | ⟨rfl, rfl⟩ | ⟨rfl, rfl⟩ | ⟨rfl, rfl⟩ | ⟨rfl, rfl⟩
 all_goals
  go_enter Tryz.func169, Tryz.ntmps169
  go_wp2
  go_ret
  exact ⟨rfl, rfl⟩
set_option maxHeartbeats 1000000 in
theorem pvalid_sub (a b lo hi : Int) (w : World) (h : Subn a b lo hi) : Calls Tryz.prog 133 #[.agg #[.int .u32 a, .int .i64 b]] w fun e w' => e = .returned (.bool true) ∧ Below w.heap.size w w' := by
 have hO := own_start [] w
 rcases h with ⟨rfl, rfl, rfl, rfl⟩ | ⟨rfl, rfl, rfl, rfl⟩ | ⟨rfl, rfl, rfl, rfl⟩ | ⟨rfl, rfl, rfl, rfl⟩ | ⟨rfl, rfl, rfl, rfl⟩ | ⟨rfl, rfl, rfl, rfl⟩
 all_goals
  go_enter Tryz.func133, Tryz.ntmps133
  go_wp2_with (refine bx9 1 hO ?_; clear hO; intro n1 wv hO)
  (refine own_quiet hO (by kernel_rfl) (by kernel_rfl) ?_; clear hO; (repeat (go_big_quiet_want; (first | ((with_reducible refine is_loadQ ?_); (refine q_ld (h := ?_)); (try simp only [Act.put]); (try simp only [sI9, sZ9, sS9]); go_big_quiet_on) | (go_big_quiet_op; (first | go_big_quiet_on | ((refine ⟨_, fun _ _ => rfl, ?_⟩); go_big_quiet_on) | go_big_quiet_call ((intro hq; go_at_call 169; exact q_same (size_sub _ _ _ (by first | exact .inl ⟨rfl, rfl⟩ | exact .inr (.inl ⟨rfl, rfl⟩) | exact .inr (.inr (.inl ⟨rfl, rfl⟩)) | exact .inr (.inr (.inr (.inl ⟨rfl, rfl⟩))) | exact .inr (.inr (.inr (.inr ⟨rfl, rfl⟩))))) hq))))))); (refine wpQuiet_nil ?_); intro wv hO)
  go_wp2_with fail
  go_ret
  exact ⟨rfl, hO.keep.below⟩
set_option maxHeartbeats 1000000 in
theorem pof_sub (a b lo hi : Int) (w : World) (h : Subn a b lo hi) : Calls Tryz.prog 119 #[.agg #[.int .u32 a, .int .i64 b]] w fun e w' => e = .returned (.tuple #[.agg #[.int .u32 lo, .int .u32 hi], .bool true]) ∧ Below w.heap.size w w' := by
 have hO := own_start [] w
 have hV := fun w => pvalid_sub a b lo hi w h
 rcases h with ⟨rfl, rfl, rfl, rfl⟩ | ⟨rfl, rfl, rfl, rfl⟩ | ⟨rfl, rfl, rfl, rfl⟩ | ⟨rfl, rfl, rfl, rfl⟩ | ⟨rfl, rfl, rfl, rfl⟩ | ⟨rfl, rfl, rfl, rfl⟩
 all_goals
  go_enter Tryz.func119, Tryz.ntmps119
  go_wp2_with (first | refine ldN ?_ | (refine bx9 1 hO ?_; clear hO; intro n1 wv hO) | (refine al9 2 hO ?_; clear hO; intro n2 wv hO) | (go_at_call 133; refine (hV _).mono ?_; rintro e wv ⟨rfl, hb⟩; replace hO := hO.call hb; clear hb))
  (refine own_tail 12 hO (by kernel_rfl) (by kernel_rfl) (by repeat (first | exact Split.zero _ | apply Split.succ)) ?_; clear hO; intro wv hO; (repeat ((refine wpStill_step (fun K hK => ?_)); (first | ((rw [if_pos (by rfl)]); (with_reducible refine is_loadS ?_); (refine s_ld (h := ?_)); (try simp only [Act.put]); (try simp only [sI9, sZ9, sS9]); (refine hK _ ?_); clear hK K) | (go_simp; (refine hK _ ?_); clear hK K) | (go_simp; apply Exists.intro; (refine ⟨?_, hK _ ?_⟩); (focus ((go_at_call 169; exact (size_sub _ _ _ (by first | exact .inl ⟨rfl, rfl⟩ | exact .inr (.inl ⟨rfl, rfl⟩) | exact .inr (.inr (.inl ⟨rfl, rfl⟩)) | exact .inr (.inr (.inr (.inl ⟨rfl, rfl⟩))) | exact .inr (.inr (.inr (.inr ⟨rfl, rfl⟩))))).mono fun _ _ h => ⟨h.1, h.2.symm⟩))); clear hK K)))); (refine wpStill_nil ?_))
  go_wp2_with (refine stN hO ?_; clear hO; intro wv hO)
  exact bodyPost_ret (own_res_cell_tmp hO Tryz.results119 rfl List.mem_cons_self (by (exact row_len (by (with_reducible (exact row_Range))) (by rfl))) rfl rfl) rfl ⟨rfl, hO.keep.below⟩
def IsSub : Value → World → Prop := fun v _ => ∃ a b, v = .agg #[.int .u32 a, .int .i64 b] ∧ ∃ lo hi, Subn a b lo hi
theorem subnet_any (m : Int) (w : World) : Calls Tryz.prog 61 #[.int .i64 m] w fun e w' => ∃ v, e = .returned v ∧ IsSub v w ∧ Below w.heap.size w w' := by
 have hO := own_start [] w
 have hb := modI_bd m (n := 6) (by omega)
 have hP : ∀ v ∈ [Value.agg #[.int .u32 167772160, .int .i64 24], .agg #[.int .u32 167772416, .int .i64 24], .agg #[.int .u32 167772672, .int .i64 25], .agg #[.int .u32 167772800, .int .i64 26], .agg #[.int .u32 2886729728, .int .i64 16], .agg #[.int .u32 3232237321, .int .i64 32]], IsSub v w := by
  unfold IsSub Subn
  repeat (first | exact all_nil | refine all_cons ⟨_, _, rfl, _, _, by first | exact .inl ⟨rfl, rfl, rfl, rfl⟩ | exact .inr (.inl ⟨rfl, rfl, rfl, rfl⟩) | exact .inr (.inr (.inl ⟨rfl, rfl, rfl, rfl⟩)) | exact .inr (.inr (.inr (.inl ⟨rfl, rfl, rfl, rfl⟩))) | exact .inr (.inr (.inr (.inr (.inl ⟨rfl, rfl, rfl, rfl⟩)))) | exact .inr (.inr (.inr (.inr (.inr ⟨rfl, rfl, rfl, rfl⟩))))⟩ ?_)
 go_enter Tryz.func61, Tryz.ntmps61
 go_wp2_with (first | (refine stN hO ?_; clear hO; intro wv hO) | (refine al9 2 hO ?_; clear hO; intro n2 wv hO) | ((with_reducible refine is_build ?_); (refine' own_buildN (o := ⟨some 9, _, _, _, _, _⟩) [.agg #[.int .u32 167772160, .int .i64 24], .agg #[.int .u32 167772416, .int .i64 24], .agg #[.int .u32 167772672, .int .i64 25], .agg #[.int .u32 167772800, .int .i64 26], .agg #[.int .u32 2886729728, .int .i64 16], .agg #[.int .u32 3232237321, .int .i64 32]] hO (by rfl) rfl slice_Prefix rfl rfl (by rfl) (by decide) (by decide) ?_); clear hO; intro n9 wv hO) | (go_at_call 30; refine (mod_is _ _ _ (by omega) (by omega)).mono ?_; rintro e _ ⟨rfl, rfl⟩) | ((with_reducible refine is_load ?_); (refine' own_loadF (o := ⟨some 13, _, _, _, _, _⟩) hO (by rfl) rfl rfl row_Prefix (by repeat (exact List.mem_cons_self)) ?hl (by rfl) ?_); (case hl => (simp; omega)); intro v hv; obtain ⟨a, b, rfl, hsub⟩ := hP v hv; clear hv))
 exact bodyPost_ret (own_res_cell hO Tryz.results61 rfl (by (repeat (first | exact List.mem_cons_self | refine List.mem_cons_of_mem _ ?_))) (by (exact row_len (by (with_reducible (exact row_Prefix))) (by rfl))) rfl) rfl ⟨_, rfl, ⟨_, _, rfl, hsub⟩, hO.keep.below⟩
inductive Pick : List Chunk → Chunk → List Chunk → Prop
 | here {c : Chunk} {X : List Chunk} : Pick (c :: X) c X
 | there {c d : Chunk} {X X' : List Chunk} : Pick X c X' → Pick (d :: X) c (d :: X')
theorem Pick.perm {X X' : List Chunk} {c : Chunk} (h : Pick X c X') : X.Perm (c :: X') := by
 induction h with
 | here => exact .refl _
 | there _ ih => exact (List.Perm.cons _ ih).trans (List.Perm.swap _ _ _)
theorem Own.perm {M : List Nat} {w0 w : World} {X X' : List Chunk} {R : List Row} {S : List Ro} (hO : Own M w0 X R S w) (h : X.Perm X') : Own M w0 X' R S w := by
 have hp : (excl X R).Perm (excl X' R) := (h.map _).append_right _
 exact ⟨hO.keep, fun c hc => hO.chunk c (h.symm.subset hc), hO.row, hO.ro, hp.nodup_iff.1 hO.nd, fun n hn => hO.free n (hp.symm.subset hn), fun s hs hne hm => hO.apart s hs hne (hp.symm.subset hm)⟩
def TC (M : List Nat) (w0 : World) (n : Nat) (sl : Value) (len : Nat) (X : List Chunk) (R : List Row) (S : List Ro) : World → Prop := fun w => ∃ i, i ≤ len ∧ Own M w0 (⟨n, tcs sl i, 93⟩ :: X) R S w
section
variable {P : Program} {ops : Array Oper} {rest : List Oper} {o : Oper} {a : Act} {Q : Exit → Act → World → Prop} {M : List Nat} {w0 w w' : World} {X X' : List Chunk} {R : List Row} {S : List Ro} {n : Nat} {sl : Value} {len : Nat}
theorem TC.own (h : TC M w0 n sl len X R S w) : Own M w0 X R S w := by
 obtain ⟨i, _, h⟩ := h
 exact h.sub (.cons _ (.refl _)) (.refl _) (fun _ h => h)
theorem TC.call (h : TC M w0 n sl len X R S w) (hb : Below w.heap.size w w') : TC M w0 n sl len X R S w' := by
 obtain ⟨i, hi, h⟩ := h
 exact ⟨i, hi, h.call hb⟩
theorem TC.alloc (h : TC M w0 n sl len X R S w) (cs : List Value) (t : TypeId) : TC M w0 n sl len X R S (w.alloc (.cells cs.toArray t (0, 0))) := by
 obtain ⟨i, hi, h⟩ := h
 exact ⟨i, hi, (h.alloc cs t).sub (.cons _ (.refl _)) (.refl _) (fun _ h => h)⟩
theorem TC.next {sl : Value} {zs : List Int} {i : Nat} (hO : Own M w0 (⟨n, tcs sl i, 93⟩ :: X) R S w) (hk : Keep [n] w w') {i' : Nat} (hT : TapeIn w' n sl zs i') : TC M w0 n sl zs.length X R S w' :=
 ⟨i', hT.le, hO.after .here hk hT.blk⟩
theorem own_tloose {id : Nat} {l l1 l2 : List Oper} {i : Nat} (k : Nat) (T : Facts) (hO : Own M w0 X R S w) {zs : List Int} {w2 : World} (hT : TapeIn w2 n sl zs i) (hp : Pick X ⟨n, tcs sl i, 93⟩ X') (hm : P.follows .mixedOrders = true) (hB : headB .any l.toArray k = true) (hf : fitsB l.toArray a.tmps.size = true)
  (hs : Split k l l1 l2) (hL : Lasts [n] (TC M w0 n sl zs.length X' R S) T)
  (h : wpLoose P l.toArray (TC M w0 n sl zs.length X' R S) [n] T (fun F a' => ∀ w', Inv (TC M w0 n sl zs.length X' R S) T F a' w' → wpList P l.toArray Q l2 a' w') l1 (fun _ => False) a) : (Code.region id l.toArray true).wp P Q a w := by
 obtain ⟨rfl, rfl⟩ := hs.eq
 exact wp_region_loose k _ T _ [n] hm hB hf rfl hL ⟨i, hT.le, (hO.perm hp.perm).drew⟩ h
theorem loose_lit {bytes : Nat} {t e len' : TypeId} {parts : Array (Nat × Operand)} {vals : List Value} {L : List Nat} (hC : TC M w0 n sl len X R S w) (ho : o.op = .buildSlice t len' parts) (ht : SliceT P t e 1 bytes) (hx : parts.toList.map (fun p => a.eval p.2) = vals) (hi : parts.toList.map (·.1) = List.range len')
  (hv : vals.all (·.oneCell') = true) (h0 : 0 < len') (h24 : len' * 1 ≤ 16777216) (hLn : L = n :: excl X R) : looseUpon P (TC M w0 n sl len X R S) [n] (IsLit L len' vals) w ((execOp a.eval o).run P w) := by
 obtain ⟨e1, e2⟩ := flat_one hv
 rw [rx_buildN ho ht hx hi e2 h0 h24, e1]
 refine ⟨keep_alloc _ _ _, hC.alloc _ _, w.heap.size, rfl, ?_, ?_, by simp⟩
 ·intro j v hj
  rw [cell_of_row _ _ (0 + j) vals.toArray e (0, 0) (heap_alloc_new w _)]
  simpa using hj
 ·obtain ⟨i, _, hO⟩ := hC
  subst hLn
  intro hm
  have := hO.lt w.heap.size (by simpa [excl] using hm)
  omega
theorem own_lit' {len : Nat} {cs : List Value} {v : Value} {L : List Nat} (hO : Own M w0 X R S w) (h : IsLit L len cs v w) (hL : ∀ x ∈ excl X R, x ∈ L) : ∃ b, v = .slice (some ⟨b, 0, none⟩) len len ∧ Own M w0 X R (⟨b, 0, cs⟩ :: S) w := by
 obtain ⟨b, h1, h2, h3, _⟩ := h
 exact ⟨b, h1, hO.addRo ⟨b, 0, cs⟩ h2 fun _ hm => h3 (hL _ hm)⟩
end
theorem subn_bd {a b lo hi : Int} (h : Subn a b lo hi) : 167772160 ≤ lo ∧ lo ≤ hi ∧ hi ≤ 3232237321 := by unfold Subn at h; omega
set_option maxHeartbeats 2000000 in
theorem addr_any {w : World} {n : Nat} {sl : Value} {zs : List Int} {i : Nat} (hZ : ZsOk sl zs) (hT : TapeIn w n sl zs i) :
  Calls Tryz.prog 160 #[.pointer (some ⟨n, 0, none⟩)] w (TPost w n sl zs (U32 4294967295)) := by
 have hO := own_tape hT
 have hP : ∀ v ∈ [Value.int .u32 0, .int .u32 4294967295, .int .u32 3405803781, .int .u32 3325256705, .int .u32 168296448, .int .u32 2130706433], ∃ x, v = .int .u32 x ∧ 0 ≤ x ∧ x ≤ 4294967295 := (by repeat (first | exact all_nil | refine all_cons ⟨_, rfl, by omega, by omega⟩ ?_))
 go_enter Tryz.func160, Tryz.ntmps160
 go_wp2_with (first | refine ldN ?_ | (refine stN hO ?_; clear hO; intro wv hO) | (refine al9 3 hO ?_; clear hO; intro n3 wv hO) | (refine al9 4 hO ?_; clear hO; intro n4 wv hO) | ((with_reducible refine is_build ?_); (refine' own_buildP (o := ⟨some 9, _, _, _, _, _⟩) [.int .u32 0, .int .u32 4294967295, .int .u32 3405803781, .int .u32 3325256705, .int .u32 168296448, .int .u32 2130706433] hO (by rfl) rfl slice_u32 rfl rfl (by rfl) (by decide) (by decide) ?_); clear hO; intro n9 wv hO) | (go_at_call 21; (with_reducible refine (next_pos _ hZ (hO.tapeIn (by (repeat (first | exact List.mem_cons_self | refine List.mem_cons_of_mem _ ?_))) (fun _ h => h) hT.le) (by omega) (by omega)).mono ?_); rintro e wv ⟨v, i1, rfl, hv, hk, hT1⟩; replace hO := hO.after (by (repeat (first | exact Upd.here | apply Upd.there))) hk hT1.blk; replace hT := hT1; clear hT1 hk; obtain ⟨r, rfl, hr0, hr1⟩ := hv) | ((with_reducible refine is_load ?_); (refine' own_loadE (o := ⟨some 13, _, _, _, _, _⟩) hO (by rfl) rfl rfl ?ht ?hm ?hl ?_); (case ht => (with_reducible (exact one_u32))); (case hm => (repeat (exact List.mem_cons_self))); (case hl => (simp; omega)); intro v hv; obtain ⟨x, rfl, hx, kx⟩ := hP v hv; clear hv) | (go_at_call 61; (with_reducible refine (subnet_any _ _).mono ?_); rintro e wv ⟨v, rfl, ⟨a, b, rfl, lo, hi, hsub⟩, hb⟩; replace hO := hO.call hb; clear hb; have hB := subn_bd hsub) | (go_at_call 119; (with_reducible refine (pof_sub _ _ _ _ _ hsub).mono ?_); rintro e wv ⟨rfl, hb⟩; replace hO := hO.call hb; clear hb))
 ·go_ret
  exact tpost hO (by (repeat (first | exact List.mem_cons_self | refine List.mem_cons_of_mem _ ?_))) (fun _ h => h) hT.le ⟨_, rfl, by omega, by omega⟩
 ·obtain ⟨hB0, hB1, hB2⟩ := hB
  have hQ : ∀ v ∈ [Value.int .u32 lo, .int .u32 hi, .int .u32 (lo + 5), .int .u32 (hi + 1), .int .u32 (lo - 1)], ∃ x, v = .int .u32 x ∧ 0 ≤ x ∧ x ≤ 4294967295 := (by repeat (first | exact all_nil | refine all_cons ⟨_, rfl, by omega, by omega⟩ ?_))
  (refine own_tloose 16 [(35, IsLit [n, n4, n3] 5 [.int .u32 lo, .int .u32 hi, .int .u32 (lo + 5), .int .u32 (hi + 1), .int .u32 (lo - 1)]), (37, fun v _ => ∃ r, v = .int .i64 r ∧ 0 ≤ r ∧ r < 5)] hO hT (by repeat (first | exact Pick.here | apply Pick.there)) (by kernel_rfl) (by kernel_rfl) (by rfl) (by repeat (first | exact Split.zero _ | apply Split.succ)) ?_ ?_); (focus (repeat (first | exact lasts_nil | (refine lasts_cons (fun v w w' _ _ hk h => ?_) ?_; focus (first | exact h | exact IsLit.keep h hk (by simp)))))); clear hO; (repeat (first | (refine loose_plain (by (intro _ hd; cases hd; rfl)) (by rfl) (fun _ h => TC.own h) ?_; (go_big_quiet_want; (first | ((with_reducible refine is_loadQ ?_); (refine q_ld (h := ?_)); (try simp only [Act.put]); (try simp only [sI9, sZ9, sS9]); go_big_quiet_on) | (go_big_quiet_op; (first | go_big_quiet_on | ((refine ⟨_, fun _ _ => rfl, ?_⟩); go_big_quiet_on))))); refine wpQuiet_nil ?_) | (refine loose_fact (by rfl) rfl (by rfl) ?_ ?_ (Nat.le_of_ble_eq_true rfl); (focus (intro w1 hC hF; (first | (exact loose_lit hC rfl (by (exact slice_u32)) rfl rfl (by rfl) (by decide) (by decide) (by simp [excl])) | (obtain ⟨i1, hi1, hO⟩ := hC; go_simp; (go_at_call 21; (with_reducible refine (next_pos _ hZ (hO.tapeIn List.mem_cons_self (fun _ h => h) hi1) (by omega) (by omega)).mono ?_); rintro e w3 ⟨v, i2, rfl, hv, hk, hT1⟩; exact ⟨_, rfl, hk, TC.next hO hk hT1, hv⟩))))); (intro u w1 hC hu; (obtain ⟨r, rfl, hr0, hr1⟩ := hu); (try simp only [Act.put]); (try simp only [sI9, sZ9, sS9]))))); (refine wpLoose_nil ?_); intro wv hI; obtain ⟨⟨i1, hi1, hO⟩, hF⟩ := hI; have hT := hO.tapeIn List.mem_cons_self (fun _ h => h) hi1
  obtain ⟨b', hb', hO⟩ := own_lit' hO (hF 35 (by simp [insF]) _ rfl) (by simp [excl]); cases hb'; clear hF
  go_wp2_with ((with_reducible refine is_load ?_); (refine' own_loadRE (o := ⟨some 39, _, _, _, _, _⟩) hO (by rfl) rfl rfl ?ht ?hm ?hl ?_); (case ht => (with_reducible (exact one_u32))); (case hm => (repeat (exact List.mem_cons_self))); (case hl => (simp; omega)); intro v hv; obtain ⟨x, rfl, hx, kx⟩ := hQ v hv; clear hv)
  go_ret
  exact tpost hO List.mem_cons_self (by (intro s hs; repeat (first | exact hs | apply List.mem_cons_of_mem))) hT.le ⟨_, rfl, by omega, by omega⟩
set_option maxHeartbeats 2000000 in
theorem addresses_any {w : World} {n : Nat} {sl : Value} {zs : List Int} {i : Nat} (hZ : ZsOk sl zs) (hT : TapeIn w n sl zs i) :
  Calls Tryz.prog 143 #[.pointer (some ⟨n, 0, none⟩)] w (TPost w n sl zs (IsRg 4294967295)) := by
 have hO := own_tape hT
 go_enter Tryz.func143, Tryz.ntmps143
 go_wp2_with (first | refine ldN ?_ | (refine stN hO ?_; clear hO; intro wv hO) | (refine al9 2 hO ?_; clear hO; intro n2 wv hO) | (refine al9 3 hO ?_; clear hO; intro n3 wv hO) | (go_at_call 21; (with_reducible refine (next_pos _ hZ (hO.tapeIn (by (repeat (first | exact List.mem_cons_self | refine List.mem_cons_of_mem _ ?_))) (fun _ h => h) hT.le) (by omega) (by omega)).mono ?_); rintro e wv ⟨v, i1, rfl, hv, hk, hT1⟩; replace hO := hO.after (by (repeat (first | exact Upd.here | apply Upd.there))) hk hT1.blk; replace hT := hT1; clear hT1 hk; obtain ⟨r, rfl, hr0, hr1⟩ := hv) | (go_at_call 61; (with_reducible refine (subnet_any _ _).mono ?_); rintro e wv ⟨v, rfl, ⟨a, b, rfl, lo, hi, hsub⟩, hb⟩; replace hO := hO.call hb; clear hb; have hB := subn_bd hsub) | (go_at_call 119; (with_reducible refine (pof_sub _ _ _ _ _ hsub).mono ?_); rintro e wv ⟨rfl, hb⟩; replace hO := hO.call hb; clear hb) | (go_at_call 160; (with_reducible refine (addr_any hZ (hO.tapeIn (by (repeat (first | exact List.mem_cons_self | refine List.mem_cons_of_mem _ ?_))) (fun _ h => h) hT.le)).mono ?_); rintro e wv ⟨v, i1, rfl, hv, hk, hT1⟩; replace hO := hO.after (by (repeat (first | exact Upd.here | apply Upd.there))) hk hT1.blk; replace hT := hT1; clear hT1 hk; obtain ⟨r, rfl, hr0, hr1⟩ := hv))
 ·exact bodyPost_ret (own_res_cell hO Tryz.results143 rfl (by (repeat (first | exact List.mem_cons_self | refine List.mem_cons_of_mem _ ?_))) (by (exact row_len (by (with_reducible (exact row_Range))) (by rfl))) rfl) rfl (tpost hO (by (repeat (first | exact List.mem_cons_self | refine List.mem_cons_of_mem _ ?_))) (fun _ h => h) hT.le ⟨_, _, rfl, by omega, by omega, by omega⟩)
 ·exact bodyPost_ret (own_res_cell hO Tryz.results143 rfl List.mem_cons_self (by (exact row_len (by (with_reducible (exact row_Range))) (by rfl))) rfl) rfl (tpost hO (by (repeat (first | exact List.mem_cons_self | refine List.mem_cons_of_mem _ ?_))) (fun _ h => h) hT.le ⟨_, _, rfl, by omega, by omega, by omega⟩)
 ·exact bodyPost_ret (own_res_cell hO Tryz.results143 rfl List.mem_cons_self (by (exact row_len (by (with_reducible (exact row_Range))) (by rfl))) rfl) rfl (tpost hO (by (repeat (first | exact List.mem_cons_self | refine List.mem_cons_of_mem _ ?_))) (fun _ h => h) hT.le ⟨_, _, rfl, by omega, by omega, by omega⟩)
 ·exact bodyPost_ret (own_res_cell hO Tryz.results143 rfl List.mem_cons_self (by (exact row_len (by (with_reducible (exact row_Range))) (by rfl))) rfl) rfl (tpost hO (by (repeat (first | exact List.mem_cons_self | refine List.mem_cons_of_mem _ ?_))) (fun _ h => h) hT.le ⟨_, _, rfl, by omega, by omega, by omega⟩)
theorem Bx.ok_of {b : Bx} (h : vldTo b 5) (h0 : ∀ k, k < 5 → 0 ≤ (b.at k).lo) : b.ok := fun k hk => by
 have h1 := h k hk
 have h2 := h0 k hk
 have h3 : topOf k ≤ 4294967295 := by rcases five hk with rfl | rfl | rfl | rfl | rfl <;> decide
 omega
def Good (b : Bx) : Prop := ∀ k, k < 5 → 0 ≤ (b.at k).lo ∧ (b.at k).lo ≤ (b.at k).hi ∧ (b.at k).hi ≤ topOf k
theorem Good.vld {b : Bx} (h : Good b) : vldTo b 5 := fun k hk => (h k hk).2
theorem Good.ok {b : Bx} (h : Good b) : b.ok := Bx.ok_of h.vld fun k hk => (h k hk).1
theorem Good.full : Good fullBx := fun k hk => by rcases five hk with rfl | rfl | rfl | rfl | rfl <;> decide
theorem Good.set {b : Bx} (h : Good b) (k : Nat) {lo hi : Int} (h0 : 0 ≤ lo) (h1 : lo ≤ hi) (h2 : k < 5 → hi ≤ topOf k) : Good (b.set k ⟨lo, hi⟩) := fun i hi => by
 rw [Bx.at_set _ _ _ hi]
 split
 ·rename_i e; subst e; exact ⟨h0, h1, h2 hi⟩
 ·exact h i hi
theorem bput0 {b : Bx} {l u : Int} : putAt (bcs b) 0 [.int .u32 l, .int .u32 u] = bcs (b.set 0 ⟨l, u⟩) := rfl
theorem bput1 {b : Bx} {l u : Int} : putAt (bcs b) 2 [.int .u32 l, .int .u32 u] = bcs (b.set 1 ⟨l, u⟩) := rfl
theorem bput2 {b : Bx} {l u : Int} : putAt (bcs b) 4 [.int .u32 l, .int .u32 u] = bcs (b.set 2 ⟨l, u⟩) := rfl
theorem bput3 {b : Bx} {l u : Int} : putAt (bcs b) 6 [.int .u32 l, .int .u32 u] = bcs (b.set 3 ⟨l, u⟩) := rfl
theorem bput4 {b : Bx} {l u : Int} : putAt (bcs b) 8 [.int .u32 l, .int .u32 u] = bcs (b.set 4 ⟨l, u⟩) := rfl
def IsBox : Value → World → Prop := fun v _ => ∃ b, v = bv b ∧ Good b
set_option maxHeartbeats 2000000 in
theorem tbox_any {w : World} {n : Nat} {sl : Value} {zs : List Int} {i : Nat} (hZ : ZsOk sl zs) (hT : TapeIn w n sl zs i) :
  Calls Tryz.prog 83 #[.pointer (some ⟨n, 0, none⟩)] w (TPost w n sl zs IsBox) := by
 have hO := own_tape hT
 have hP : ∀ v ∈ [Value.int .u32 6, .int .u32 17, .int .u32 1, .int .u32 0, .int .u32 7, .int .u32 255], ∃ x, v = .int .u32 x ∧ 0 ≤ x ∧ x ≤ 255 := (by repeat (first | exact all_nil | refine all_cons ⟨_, rfl, by omega, by omega⟩ ?_))
 go_enter Tryz.func83, Tryz.ntmps83
 go_wp2_with (first | (refine stN hO ?_; clear hO; intro wv hO) | (refine al9 2 hO ?_; clear hO; intro n2 wv hO) | (refine al9 3 hO ?_; clear hO; intro n3 wv hO) | (go_at_call 85; refine (rfull_any _).mono ?_; rintro e wv ⟨rfl, hb⟩; replace hO := hO.call hb; clear hb) | (go_at_call 21; (with_reducible refine (next_pos _ hZ (hO.tapeIn (by (repeat (first | exact List.mem_cons_self | refine List.mem_cons_of_mem _ ?_))) (fun _ h => h) hT.le) (by omega) (by omega)).mono ?_); rintro e wv ⟨v, i1, rfl, hv, hk, hT1⟩; replace hO := hO.after (by (repeat (first | exact Upd.here | apply Upd.there))) hk hT1.blk; replace hT := hT1; clear hT1 hk; obtain ⟨r, rfl, hr0, hr1⟩ := hv))
 go_loopw [4] (fun q wr => ∃ (k : Nat) (b : Bx) (i : Nat), k ≤ 3 ∧ q = .int .i64 k ∧ Good b ∧ TapeIn wr n sl zs i ∧ Own [n] w [⟨n3, bcs b, 98⟩, ⟨n2, bcs zeroBx, 98⟩, ⟨n, tcs sl i, 93⟩] [] (roS sl (ints zs)) wr) (fun q _ => (intOf q).toNat)
 case atStart => exact ⟨(1 + r).toNat, fullBx, i1, by omega, by congr 1; omega, Good.full, (hO.tapeIn (by (repeat (first | exact List.mem_cons_self | refine List.mem_cons_of_mem _ ?_))) (fun _ h => h) hT.le), hO⟩
 case round =>
  clear hO hT
  obtain ⟨k, b, i, hk, rfl, hg, hT, hO⟩ := hrel
  by_cases hlt : 0 < k
  ·go_wp2_with (first | (refine stN hO ?_; clear hO; intro wv hO) | (go_at_call 21; (with_reducible refine (next_pos _ hZ (hO.tapeIn (by (repeat (first | exact List.mem_cons_self | refine List.mem_cons_of_mem _ ?_))) (fun _ h => h) hT.le) (by omega) (by omega)).mono ?_); rintro e wv ⟨v, i1, rfl, hv, hk, hT1⟩; replace hO := hO.after (by (repeat (first | exact Upd.here | apply Upd.there))) hk hT1.blk; replace hT := hT1; clear hT1 hk; obtain ⟨r, rfl, hr0, hr1⟩ := hv) | (go_at_call 143; (with_reducible refine (addresses_any hZ (hO.tapeIn (by (repeat (first | exact List.mem_cons_self | refine List.mem_cons_of_mem _ ?_))) (fun _ h => h) hT.le)).mono ?_); rintro e wv ⟨v, i1, rfl, hv, hk, hT1⟩; replace hO := hO.after (by (repeat (first | exact Upd.here | apply Upd.there))) hk hT1.blk; replace hT := hT1; clear hT1 hk; obtain ⟨r, s, rfl, hr0, hr1, hr2⟩ := hv) | (go_at_call 144; (with_reducible refine (range_any _ hZ (hO.tapeIn (by (repeat (first | exact List.mem_cons_self | refine List.mem_cons_of_mem _ ?_))) (fun _ h => h) hT.le) (by omega) (by omega)).mono ?_); rintro e wv ⟨v, i1, rfl, hv, hk, hT1⟩; replace hO := hO.after (by (repeat (first | exact Upd.here | apply Upd.there))) hk hT1.blk; replace hT := hT1; clear hT1 hk; obtain ⟨r, s, rfl, hr0, hr1, hr2⟩ := hv) | ((with_reducible refine is_build ?_); (refine' own_buildP (o := ⟨some 31, _, _, _, _, _⟩) [.int .u32 6, .int .u32 17, .int .u32 1, .int .u32 0, .int .u32 7, .int .u32 255] hO (by rfl) rfl slice_u32 rfl rfl (by rfl) (by decide) (by decide) ?_); clear hO; intro n31 wv hO) | ((with_reducible refine is_load ?_); (refine' own_loadE (o := ⟨some 35, _, _, _, _, _⟩) hO (by rfl) rfl rfl ?ht ?hm ?hl ?_); (case ht => (with_reducible (exact one_u32))); (case hm => (repeat (exact List.mem_cons_self))); (case hl => (simp; omega)); intro v hv; obtain ⟨x, rfl, hx, kx⟩ := hP v hv; clear hv))
   ·go_roundw
    case rel => exact ⟨k - 1, b.set 0 ⟨r, s⟩, i1, by omega, by congr 1; omega, hg.set 0 (by omega) (by omega) (fun _ => by simp only [topOf]; omega), (hO.tapeIn (by (repeat (first | exact List.mem_cons_self | refine List.mem_cons_of_mem _ ?_))) (fun _ h => h) hT.le), by rw [← bput0]; exact hO⟩
    case measure => simp [intOf]; omega
   ·go_roundw
    case rel => exact ⟨k - 1, b.set 1 ⟨r, s⟩, i1, by omega, by congr 1; omega, hg.set 1 (by omega) (by omega) (fun _ => by simp only [topOf]; omega), (hO.tapeIn (by (repeat (first | exact List.mem_cons_self | refine List.mem_cons_of_mem _ ?_))) (fun _ h => h) hT.le), by rw [← bput1]; exact hO⟩
    case measure => simp [intOf]; omega
   ·go_roundw
    case rel => exact ⟨k - 1, b.set 2 ⟨x, x⟩, i1, by omega, by congr 1; omega, hg.set 2 (by omega) (by omega) (fun _ => by simp only [topOf]; omega), (hO.tapeIn (by (repeat (first | exact List.mem_cons_self | refine List.mem_cons_of_mem _ ?_))) (fun _ h => h) hT.le), by rw [← bput2]; exact hO.sub (.cons _ (.refl _)) (.refl _) (fun _ h => h)⟩
    case measure => simp [intOf]; omega
   ·go_roundw
    case rel => exact ⟨k - 1, b.set 3 ⟨r, s⟩, i1, by omega, by congr 1; omega, hg.set 3 (by omega) (by omega) (fun _ => by simp only [topOf]; omega), (hO.tapeIn (by (repeat (first | exact List.mem_cons_self | refine List.mem_cons_of_mem _ ?_))) (fun _ h => h) hT.le), by rw [← bput3]; exact hO⟩
    case measure => simp [intOf]; omega
   ·go_roundw
    case rel => exact ⟨k - 1, b.set 4 ⟨r, s⟩, i1, by omega, by congr 1; omega, hg.set 4 (by omega) (by omega) (fun _ => by simp only [topOf]; omega), (hO.tapeIn (by (repeat (first | exact List.mem_cons_self | refine List.mem_cons_of_mem _ ?_))) (fun _ h => h) hT.le), by rw [← bput4]; exact hO⟩
    case measure => simp [intOf]; omega
  ·obtain rfl : k = 0 := by omega
   go_wp2_with (first | refine ldN ?_ | (refine stN hO ?_; clear hO; intro wv hO))
   exact bodyPost_ret (own_res_cell hO Tryz.results83 rfl (by (repeat (first | exact List.mem_cons_self | refine List.mem_cons_of_mem _ ?_))) (by (exact row_len (by (with_reducible (exact row_Box))) (by rfl))) rfl) rfl (tpost hO (by (repeat (first | exact List.mem_cons_self | refine List.mem_cons_of_mem _ ?_))) (fun _ h => h) hT.le ⟨_, rfl, hg⟩)
def IsBx : Value → World → Prop := fun v _ => ∃ b, v = bv b ∧ b.ok
theorem ok_set {b : Bx} (h : b.ok) (k : Nat) {lo hi : Int} (h0 : 0 ≤ lo) (h1 : lo ≤ 4294967295) (h2 : 0 ≤ hi) (h3 : hi ≤ 4294967295) : (b.set k ⟨lo, hi⟩).ok := fun i hi' => by
 rw [Bx.at_set _ _ _ hi']
 split
 ·exact ⟨⟨h0, h1⟩, h2, h3⟩
 ·exact h i hi'
theorem set_at {b : Bx} {k : Nat} (hk : k < 5) (r : Rg) : (b.set k r).at k = r := by rw [Bx.at_set _ _ _ hk, if_pos rfl]
theorem set_set {b : Bx} {k : Nat} (r s : Rg) : (b.set k r).set k s = b.set k s := Bx.of_congr fun i hi => by
 rw [Bx.at_set _ _ _ hi]; split <;> rfl
set_option maxHeartbeats 2000000 in
theorem spoil_any {w : World} {n : Nat} {sl : Value} {zs : List Int} {i : Nat} (b : Bx) (hZ : ZsOk sl zs) (hT : TapeIn w n sl zs i) (hb : b.ok) :
  Calls Tryz.prog 84 #[.pointer (some ⟨n, 0, none⟩), bv b] w (TPost w n sl zs IsBx) := by
 have hO := own_tape hT
 go_enter Tryz.func84, Tryz.ntmps84
 go_wp2_with (first | refine ldN ?_ | ((first | refine stN hO ?_ | refine st1N hO ?_); clear hO; intro wv hO) | (refine bx9 3 hO ?_; clear hO; intro n3 wv hO) | (refine al9 4 hO ?_; clear hO; intro n4 wv hO) | (go_at_call 21; (with_reducible refine (next_pos 5 hZ (hO.tapeIn (by (repeat (first | exact List.mem_cons_self | refine List.mem_cons_of_mem _ ?_))) (fun _ h => h) hT.le) (by omega) (by omega)).mono ?_); rintro e wv ⟨v, i1, rfl, hv, hk, hT1⟩; replace hO := hO.after (by repeat (first | exact Upd.here | apply Upd.there)) hk hT1.blk; replace hT := hT1; clear hT1 hk; obtain ⟨r, rfl, hr0, hr1⟩ := hv; obtain ⟨f, rfl⟩ : ∃ f : Nat, r = f := ⟨r.toNat, by omega⟩; have hf5 : f < 5 := by omega) | (go_at_call 21; (with_reducible refine (next_pos 3 hZ (hO.tapeIn (by (repeat (first | exact List.mem_cons_self | refine List.mem_cons_of_mem _ ?_))) (fun _ h => h) hT.le) (by omega) (by omega)).mono ?_); rintro e wv ⟨v, i1, rfl, hv, hk, hT1⟩; replace hO := hO.after (by (repeat (first | exact Upd.here | apply Upd.there))) hk hT1.blk; replace hT := hT1; clear hT1 hk; obtain ⟨r, rfl, hr0, hr1⟩ := hv))
 ·(refine own_float 10 [1] [0, 2, 3, 4, 5, 6, 7, 8, 9] [] hO (by kernel_rfl) (by kernel_rfl) (by rfl) ?_ (by intro d v c a w h; cases d <;> exact h) ?_); (focus (repeat (exact lasts_nil))); (clear hO; simp only [pickK, floatAct, List.filterMap_cons, List.filterMap_nil, List.getElem?_toArray, List.getElem?_cons_succ, List.getElem?_cons_zero, List.drop_succ_cons, List.drop_zero, Act.put, Act.eval, List.setIfInBounds_toArray, List.set_cons_zero, List.set_cons_succ, Array.getD_eq_getD_getElem?, Option.getD_some]); (repeat (refine loose_plain (by (intro _ hd; cases hd; rfl)) (by rfl) (fun _ h => h) ?_; (go_big_quiet_want; (first | ((with_reducible refine is_loadQ ?_); (refine q_ld (h := ?_)); (try simp only [Act.put]); (try simp only [sI9, sZ9, sS9]); go_big_quiet_on) | (go_big_quiet_op; (first | go_big_quiet_on | ((refine ⟨_, fun _ _ => rfl, ?_⟩); go_big_quiet_on))))); refine wpQuiet_nil ?_)); (refine wpLoose_nil ?_); intro wv hI; have hO := hI.1
  go_wp2_with (first | refine ldN ?_ | ((first | refine stN hO ?_ | refine st1N hO ?_); clear hO; intro wv hO))
  simp only [set_at hf5, set_set] at hO
  refine bodyPost_ret (own_res_cell hO Tryz.results84 rfl List.mem_cons_self (by (exact row_len (by (with_reducible (exact row_Box))) (by rfl))) rfl) rfl (tpost hO (by (repeat (first | exact List.mem_cons_self | refine List.mem_cons_of_mem _ ?_))) (fun _ h => h) hT.le ⟨_, rfl, ok_set hb _ (hb _ hf5).2.1 (hb _ hf5).2.2 (hb _ hf5).1.1 (hb _ hf5).1.2⟩)
 ·refine bodyPost_ret (own_res_cell hO Tryz.results84 rfl List.mem_cons_self (by (exact row_len (by (with_reducible (exact row_Box))) (by rfl))) rfl) rfl (tpost hO (by (repeat (first | exact List.mem_cons_self | refine List.mem_cons_of_mem _ ?_))) (fun _ h => h) hT.le ⟨_, rfl, ok_set hb _ (hb _ hf5).1.1 (hb _ hf5).1.2 (by omega) (by omega)⟩)
 ·refine bodyPost_ret (own_res_cell hO Tryz.results84 rfl List.mem_cons_self (by (exact row_len (by (with_reducible (exact row_Box))) (by rfl))) rfl) rfl (tpost hO (by (repeat (first | exact List.mem_cons_self | refine List.mem_cons_of_mem _ ?_))) (fun _ h => h) hT.le ⟨_, rfl, ok_set hb _ (by omega) (by omega) (by omega) (by omega)⟩)
theorem own_newT {n : Nat} {w0 w : World} {X : List Chunk} {R : List Row} {S : List Ro} (hO : Own [n] w0 X R S w) {v : Value} {k e size : Nat} {xs : List Value} (hm : (⟨v, k, xs, e, size⟩ : Row) ∈ R) (hn : v.ownBlock ≠ some n) : NewFrom w0 v := fun g hg => by
 have := hO.free g (List.mem_append.2 (.inr (List.mem_filterMap.2 ⟨_, hm, hg⟩)))
 rcases this with h | h
 ·obtain rfl : g = n := by simpa using h
  exact absurd hg hn
 ·exact h
theorem nodup_cons_row {c : Chunk} {r : Row} (h : (excl [c] [r]).Nodup) : r.v.ownBlock ≠ some c.n := fun e => by
 simp [excl, e] at h
set_option maxHeartbeats 2000000 in
theorem tboxesR_any {w : World} {n : Nat} {sl : Value} {zs : List Int} {i : Nat} (m : Int) (wild : Bool) (hZ : ZsOk sl zs) (hT : TapeIn w n sl zs i) (h0 : 0 ≤ m) (hm : m ≤ 100) :
  Calls Tryz.prog 35 #[.pointer (some ⟨n, 0, none⟩), .int .i64 m, .bool wild] w (TPost w n sl zs (fun v w' => ∃ l : List Bx, IsBoxes w' v l ∧ NewFrom w v ∧ (∀ b ∈ l, b.ok) ∧ l.length ≤ m ∧ (wild = false → ∀ b ∈ l, Good b) ∧ w'.ownsRow 0 98 10 v l.length (cellsB l))) := by
 have hO := own_tape hT
 go_enter Tryz.func35, Tryz.ntmps35
 go_wp2_with (go_at_call 21; (with_reducible refine (next_pos _ hZ (hO.tapeIn List.mem_cons_self (fun _ h => h) hT.le) (by omega) (by omega)).mono ?_); rintro e wv ⟨v, i1, rfl, hv, hk, hT1⟩; replace hO := hO.after (by (repeat (exact Upd.here))) hk hT1.blk; replace hT := hT1; clear hT1 hk; obtain ⟨r, rfl, hr0, hr1⟩ := hv)
 replace hO := hO.nilRow 98 10
 have hr := hr1
 obtain ⟨c, rfl⟩ : ∃ c : Nat, r = c := ⟨r.toNat, by omega⟩
 go_loopw [7, 8] (fun v q wr => ∃ (k : Nat) (l : List Bx) (i : Nat), k + l.length ≤ c ∧ q = .int .i64 k ∧ (∀ b ∈ l, b.ok) ∧ (wild = false → ∀ b ∈ l, Good b) ∧ TapeIn wr n sl zs i ∧ Own [n] w [⟨n, tcs sl i, 93⟩] [⟨v, l.length, cellsB l, 98, 10⟩] (roS sl (ints zs)) wr) (fun _ q _ => (intOf q).toNat)
 case atStart => exact ⟨c, [], i1, by simp, rfl, by simp, by simp, (hO.tapeIn List.mem_cons_self (fun _ h => h) hT.le), hO⟩
 case round =>
  clear hO hT
  obtain ⟨k, l, i, hk, rfl, hl, hg, hT, hO⟩ := hrel
  by_cases hlt : 0 < k
  ·cases wild
   ·go_wp2_with (first | refine ldN ?_ | (refine stN hO ?_; clear hO; intro wv hO) | (refine al9 9 hO ?_; clear hO; intro n9 wv hO) | (refine bl9 31 hO ?_; clear hO; intro n31 wv hO) | (refine ap9 32 hO ?_; clear hO; intro g32 c32 wv hO) | (go_at_call 83; (with_reducible refine (tbox_any hZ (hO.tapeIn List.mem_cons_self (fun _ h => h) hT.le)).mono ?_); rintro e wv ⟨v, i1, rfl, hv, hk, hT1⟩; replace hO := hO.after (by (repeat (exact Upd.here))) hk hT1.blk; replace hT := hT1; clear hT1 hk; obtain ⟨b, rfl, hgb⟩ := hv))
    go_roundw
    case rel =>
     refine ⟨k - 1, l ++ [b], i1, by simp; omega, by congr 1; omega, fun x hx => ?_, fun _ x hx => ?_, (hO.tapeIn (by (repeat (first | exact List.mem_cons_self | refine List.mem_cons_of_mem _ ?_))) (fun _ h => h) hT.le), ?_⟩
     ·rcases List.mem_append.1 hx with hx | hx
      ·exact hl x hx
      ·obtain rfl := List.mem_singleton.1 hx; exact hgb.ok
     ·rcases List.mem_append.1 hx with hx | hx
      ·exact hg trivial x hx
      ·obtain rfl := List.mem_singleton.1 hx; exact hgb
     ·simp only [cellsB_append, cellsB_one, List.length_append, List.length_cons, List.length_nil]
      exact hO.sub (.cons _ (.cons _ (.refl _))) (.refl _) (fun _ h => h)
    case measure => simp [intOf]; omega
   ·go_wp2_with (first | refine ldN ?_ | (refine stN hO ?_; clear hO; intro wv hO) | (refine al9 9 hO ?_; clear hO; intro n9 wv hO) | (refine bl9 31 hO ?_; clear hO; intro n31 wv hO) | (refine ap9 32 hO ?_; clear hO; intro g32 c32 wv hO) | (go_at_call 83; (with_reducible refine (tbox_any hZ (hO.tapeIn List.mem_cons_self (fun _ h => h) hT.le)).mono ?_); rintro e wv ⟨v, i1, rfl, hv, hk, hT1⟩; replace hO := hO.after (by (repeat (exact Upd.here))) hk hT1.blk; replace hT := hT1; clear hT1 hk; obtain ⟨b, rfl, hgb⟩ := hv) | (go_at_call 21; (with_reducible refine (next_pos _ hZ (hO.tapeIn (by (repeat (first | exact List.mem_cons_self | refine List.mem_cons_of_mem _ ?_))) (fun _ h => h) hT.le) (by omega) (by omega)).mono ?_); rintro e wv ⟨v, i1, rfl, hv, hk, hT1⟩; replace hO := hO.after (by (repeat (first | exact Upd.here | apply Upd.there))) hk hT1.blk; replace hT := hT1; clear hT1 hk; obtain ⟨r, rfl, hr0, hr1⟩ := hv) | (go_at_call 84; (with_reducible refine (spoil_any b hZ (hO.tapeIn (by (repeat (first | exact List.mem_cons_self | refine List.mem_cons_of_mem _ ?_))) (fun _ h => h) hT.le) hgb.ok).mono ?_); rintro e wv ⟨v, i1, rfl, hv, hk, hT1⟩; replace hO := hO.after (by (repeat (first | exact Upd.here | apply Upd.there))) hk hT1.blk; replace hT := hT1; clear hT1 hk; obtain ⟨b', rfl, hgb'⟩ := hv))
    ·go_roundw
     case rel =>
      refine ⟨k - 1, l ++ [b'], i1, by simp; omega, by congr 1; omega, fun x hx => ?_, (fun h => (by cases h)), (hO.tapeIn (by (repeat (first | exact List.mem_cons_self | refine List.mem_cons_of_mem _ ?_))) (fun _ h => h) hT.le), ?_⟩
      ·rcases List.mem_append.1 hx with hx | hx
       ·exact hl x hx
       ·obtain rfl := List.mem_singleton.1 hx; exact hgb'
      ·simp only [cellsB_append, cellsB_one, List.length_append, List.length_cons, List.length_nil]
       exact hO.sub (.cons _ (.cons _ (.refl _))) (.refl _) (fun _ h => h)
     case measure => simp [intOf]; omega
    ·go_roundw
     case rel =>
      refine ⟨k - 1, l ++ [b], i1, by simp; omega, by congr 1; omega, fun x hx => ?_, (fun h => (by cases h)), (hO.tapeIn (by (repeat (first | exact List.mem_cons_self | refine List.mem_cons_of_mem _ ?_))) (fun _ h => h) hT.le), ?_⟩
      ·rcases List.mem_append.1 hx with hx | hx
       ·exact hl x hx
       ·obtain rfl := List.mem_singleton.1 hx; exact hgb.ok
      ·simp only [cellsB_append, cellsB_one, List.length_append, List.length_cons, List.length_nil]
       exact hO.sub (.cons _ (.cons _ (.refl _))) (.refl _) (fun _ h => h)
     case measure => simp [intOf]; omega
  ·obtain rfl : k = 0 := by omega
   go_wp2_with fail
   go_ret
   exact tpost hO List.mem_cons_self (fun _ h => h) hT.le ⟨l, own_boxes hO List.mem_cons_self, own_newT hO List.mem_cons_self (nodup_cons_row hO.nd), hl, by omega, hg, hO.row _ List.mem_cons_self⟩
theorem tboxes_any {w : World} {n : Nat} {sl : Value} {zs : List Int} {i : Nat} (m : Int) (wild : Bool) (hZ : ZsOk sl zs) (hT : TapeIn w n sl zs i) (h0 : 0 ≤ m) (hm : m ≤ 100) :
  Calls Tryz.prog 35 #[.pointer (some ⟨n, 0, none⟩), .int .i64 m, .bool wild] w (TPost w n sl zs (fun v w' => ∃ l : List Bx, IsBoxes w' v l ∧ NewFrom w v ∧ (∀ b ∈ l, b.ok) ∧ l.length ≤ m ∧ (wild = false → ∀ b ∈ l, Good b))) :=
 (tboxesR_any m wild hZ hT h0 hm).mono fun _ _ h => h.mono fun _ _ ⟨l, h1, h2, h3, h4, h5, _⟩ => ⟨l, h1, h2, h3, h4, h5⟩
def IsElt (L : List Nat) (p : Value → Prop) : Fact := fun v w => ∃ b off u, v = .pointer (some ⟨b, off, none⟩) ∧ w.cell? ⟨b, off, none⟩ = some u ∧ p u ∧ b ∉ L ∧ b < w.heap.size
theorem IsElt.keep {L M : List Nat} {p : Value → Prop} {v : Value} {w w' : World} (h : IsElt L p v w) (hk : Keep M w w') (hM : ∀ x ∈ M, x ∈ L) : IsElt L p v w' := by
 obtain ⟨b, off, u, h1, h2, h3, h4, h5⟩ := h
 refine ⟨b, off, u, h1, ?_, h3, h4, Nat.lt_of_lt_of_le h5 hk.size⟩
 rw [World.cell?_of_block (w := w) (hk.block b h5 (fun hm => h4 (hM b hm)))]; exact h2
theorem elt_of {L : List Nat} {p : Value → Prop} {w : World} {len : Nat} {cs : List Value} {b : Nat} {r : Int} (h : IsLit L len cs (.slice (some ⟨b, 0, none⟩) len len) w) (hp : ∀ u ∈ cs, p u) (h0 : 0 ≤ r) (h1 : r < cs.length) : IsElt L p (.pointer (some ⟨b, r.toNat, none⟩)) w := by
 obtain ⟨b', h2, h3, h4, h5⟩ := h
 cases h2
 have hl : r.toNat < cs.length := by omega
 refine ⟨b, r.toNat, cs[r.toNat], rfl, ?_, hp _ (List.getElem_mem hl), h4, h5⟩
 have := h3 r.toNat _ (List.getElem?_eq_getElem hl)
 simpa using this
theorem loose_elt {P : Program} {C : World → Prop} {M L : List Nat} {w : World} {o : Oper} {a : Act} {t : TypeId} {x : Operand} {p : Value → Prop} {v : Value} (hC : C w) (ho : o.op = .load t x) (hv : a.eval x = v) (h : IsElt L p v w) (ht : OneT P t) :
  looseUpon P C M (fun u _ => p u) w ((execOp a.eval o).run P w) := by
 obtain ⟨b, off, u, h1, h2, h3, _, _⟩ := h
 rw [rx_load1 ho (hv.trans h1) ht h2]
 exact ⟨Keep.refl _ _, hC, h3⟩
theorem slice_u8 : SliceT Tryz.prog 198 5 1 1 := ⟨Tryz.underlying198, by omega, by
 obtain ⟨i, h1, h2, h3, h4⟩ := info_parts (show (Tryz.prog.info? 5).map (fun i => (i.zero, i.size, i.bytes)) = some (some (.int .u8 0), 1, 1) by kernel_rfl)
 exact ⟨i, _, h1, h2, h3, h4, rfl⟩⟩
def IsHd : Value → World → Prop := fun v _ => ∃ h, v = hv h ∧ h.ok
def PU32 : Value → Prop := fun v => ∃ x, v = .int .u32 x ∧ 0 ≤ x ∧ x ≤ 4294967295
def PU8 : Value → Prop := fun v => ∃ x, v = .int .u8 x ∧ 0 ≤ x ∧ x ≤ 255
set_option maxHeartbeats 2000000 in
theorem theader_any {w : World} {n : Nat} {sl : Value} {zs : List Int} {i : Nat} (hZ : ZsOk sl zs) (hT : TapeIn w n sl zs i) :
  Calls Tryz.prog 97 #[.pointer (some ⟨n, 0, none⟩)] w (TPost w n sl zs IsHd) := by
 have hO := own_tape hT
 have hP : ∀ v ∈ [Value.int .u8 6, .int .u8 17, .int .u8 1, .int .u8 0, .int .u8 7, .int .u8 255], PU8 v := (by repeat (first | exact all_nil | refine all_cons ⟨_, rfl, by omega, by omega⟩ ?_))
 go_enter Tryz.func97, Tryz.ntmps97
 go_wp2_with (refine al9 2 hO ?_; clear hO; intro n2 wv hO)
 (try simp only [Act.put]); (try simp only [sI9, sZ9, sS9]); (refine own_tloose 16 [(4, U32 4294967295), (6, U32 4294967295), (7, IsLit [n, n2] 6 [.int .u8 6, .int .u8 17, .int .u8 1, .int .u8 0, .int .u8 7, .int .u8 255]), (9, fun v _ => ∃ r, v = .int .i64 r ∧ 0 ≤ r ∧ r < 6), (10, IsElt [n, n2] PU8), (11, fun v _ => PU8 v), (13, U32 65535), (16, U32 65535)] hO hT (by repeat (first | exact Pick.here | apply Pick.there)) (by kernel_rfl) (by kernel_rfl) (by rfl) (by repeat (first | exact Split.zero _ | apply Split.succ)) ?_ ?_); (focus (repeat (first | exact lasts_nil | (refine lasts_cons (fun v w w' _ _ hk h => ?_) ?_; focus (first | exact h | exact IsLit.keep h hk (by simp) | exact IsElt.keep h hk (by simp)))))); clear hO; (repeat (first | (refine loose_plain (by (intro _ hd; cases hd; rfl)) (by rfl) (fun _ h => TC.own h) ?_; (go_big_quiet_want; (go_big_quiet_op; (first | go_big_quiet_on | ((refine ⟨_, fun _ _ => rfl, ?_⟩); go_big_quiet_on)))); refine wpQuiet_nil ?_) | (refine loose_fact (by rfl) rfl (by rfl) ?_ ?_ (Nat.le_of_ble_eq_true rfl); (focus (intro w1 hC hF; (first | (exact loose_lit hC rfl (by first | exact slice_u32 | exact slice_u8) rfl rfl (by rfl) (by decide) (by decide) (by simp [excl])) | (exact loose_elt hC rfl rfl (hF 10 (by simp [insF]) List.mem_cons_self _ rfl) one_u8) | (obtain ⟨i1, hi1, hO⟩ := hC; go_simp; (first | (go_at_call 21; (with_reducible refine (next_pos _ hZ (hO.tapeIn List.mem_cons_self (fun _ h => h) hi1) (by omega) (by omega)).mono ?_); rintro e w3 ⟨v, i2, rfl, hv, hk, hT1⟩; exact ⟨_, rfl, hk, TC.next hO hk hT1, hv⟩) | (go_at_call 160; (with_reducible refine (addr_any hZ (hO.tapeIn List.mem_cons_self (fun _ h => h) hi1)).mono ?_); rintro e w3 ⟨v, i2, rfl, hv, hk, hT1⟩; exact ⟨_, rfl, hk, TC.next hO hk hT1, hv⟩) | (go_at_call 161; (with_reducible refine (number_any _ hZ (hO.tapeIn List.mem_cons_self (fun _ h => h) hi1) (by omega) (by omega)).mono ?_); rintro e w3 ⟨v, i2, rfl, hv, hk, hT1⟩; exact ⟨_, rfl, hk, TC.next hO hk hT1, hv⟩) | (exact ⟨Keep.refl _ _, ⟨i1, hi1, hO⟩, elt_of (hF 7 (by simp [insF]) List.mem_cons_self _ rfl) hP (by omega) (by simp; omega)⟩)))))); (intro u w1 hC hu; (first | obtain ⟨r, rfl, hr0, hr1⟩ := hu | (skip)); (try simp only [Act.put]); (try simp only [sI9, sZ9, sS9]))))); (refine wpLoose_nil ?_); intro wv hI; obtain ⟨⟨i1, hi1, hO⟩, hF⟩ := hI; have hT := hO.tapeIn List.mem_cons_self (fun _ h => h) hi1
 go_wp2_with (refine stN hO ?_; clear hO; intro wv hO)
 exact bodyPost_ret (own_res_cell hO Tryz.results97 rfl (by (repeat (first | exact List.mem_cons_self | refine List.mem_cons_of_mem _ ?_))) (by (exact row_len (by (with_reducible (exact row_Header))) (by rfl))) rfl) rfl (tpost hO List.mem_cons_self (fun _ h => h) hT.le ⟨⟨_, _, _, _, _⟩, rfl, ⟨by omega, by omega⟩, ⟨by omega, by omega⟩, ⟨by omega, by omega⟩, ⟨by omega, by omega⟩, by omega, by omega⟩)
theorem Hd.of_ok {q : Nat → Int} (h : ∀ j, j < 5 → 0 ≤ q j ∧ q j ≤ topOf j) : (Hd.of q).ok :=
 ⟨⟨(h 0 (by omega)).1, (h 0 (by omega)).2⟩, ⟨(h 1 (by omega)).1, (h 1 (by omega)).2⟩, ⟨(h 2 (by omega)).1, (h 2 (by omega)).2⟩, ⟨(h 3 (by omega)).1, (h 3 (by omega)).2⟩, (h 4 (by omega)).1, (h 4 (by omega)).2⟩
theorem topOf_pos (k : Nat) : 0 ≤ topOf k := by unfold topOf; split <;> decide
set_option maxHeartbeats 4000000 in
theorem near_any {w : World} {n : Nat} {sl : Value} {zs : List Int} {i : Nat} (v : Value) (l : List Bx) (hZ : ZsOk sl zs) (hT : TapeIn w n sl zs i) (hv : IsBoxes w v l) (hn : v.ownBlock ≠ some n) (hl : ∀ b ∈ l, b.ok) (hm : l.length ≤ 4611686018427387904) :
  Calls Tryz.prog 40 #[.pointer (some ⟨n, 0, none⟩), v] w (TPost w n sl zs IsHd) := by
 have hO : Own [n] w [⟨n, tcs sl i, 93⟩] [] (roS v (cellsB l) ++ roS sl (ints zs)) w := by
  have h0 := own_tape hT
  rcases hv with ⟨rfl, rfl⟩ | ⟨g, o, c, rfl, _, hr⟩
  ·exact h0
  ·exact h0.addRo ⟨g, o, cellsB l⟩ hr (fun _ => by simp [excl]; intro e; exact hn (by simp [Value.ownBlock, e]))
 obtain ⟨a, c, rfl, ha⟩ := hv.view
 clear hv hn
 cases l with
 | nil =>
  go_enter Tryz.func40, Tryz.ntmps40
  go_wp2_with (first | (refine stN hO ?_; clear hO; intro wv hO) | (refine al9 4 hO ?_; clear hO; intro n4 wv hO) | (go_at_call 97; (with_reducible refine (theader_any hZ (hO.tapeIn (by (repeat (first | exact List.mem_cons_self | refine List.mem_cons_of_mem _ ?_))) (by (intro s hs; repeat (first | exact hs | apply List.mem_append_right))) hT.le)).mono ?_); rintro e wv ⟨v, i1, rfl, hv, hk, hT1⟩; replace hO := hO.after (by (repeat (first | exact Upd.here | apply Upd.there))) hk hT1.blk; replace hT := hT1; clear hT1 hk; obtain ⟨h, rfl, hh⟩ := hv))
  exact bodyPost_ret (own_res_cell hO Tryz.results40 rfl List.mem_cons_self (by (exact row_len (by (with_reducible (exact row_Header))) (by rfl))) rfl) rfl (tpost hO (by (repeat (first | exact List.mem_cons_self | refine List.mem_cons_of_mem _ ?_))) (by (intro s hs; repeat (first | exact hs | apply List.mem_append_right))) hT.le ⟨_, rfl, hh⟩)
 | cons b0 l0 =>
  have hpos : 0 < (b0 :: l0).length := by simp
  generalize b0 :: l0 = l at *
  have q : ((l.length : Int) == 0) = false := by simp; intro e; subst e; simp at hpos
  obtain ⟨g, o, rfl⟩ := ha hpos
  replace hO : Own [n] w [⟨n, tcs sl i, 93⟩] [] (⟨g, o, cellsB l⟩ :: roS sl (ints zs)) w := hO
  have HL := Lib.hid hl
  clear ha hl
  go_enter Tryz.func40, Tryz.ntmps40
  go_wp2_with (first | refine ldN ?_ | (refine stN hO ?_; clear hO; intro wv hO) | (refine al9 4 hO ?_; clear hO; intro n4 wv hO) | (refine al9 5 hO ?_; clear hO; intro n5 wv hO) | (refine al9 6 hO ?_; clear hO; intro n6 wv hO) | (go_at_call 21; (with_reducible refine (next_pos 4 hZ (hO.tapeIn (by (repeat (first | exact List.mem_cons_self | refine List.mem_cons_of_mem _ ?_))) (by (intro s hs; repeat (first | exact hs | apply List.mem_cons_of_mem))) hT.le) (by omega) (by omega)).mono ?_); rintro e wv ⟨v, i1, rfl, hv, hk, hT1⟩; replace hO := hO.after (by (repeat (first | exact Upd.here | apply Upd.there))) hk hT1.blk; replace hT := hT1; clear hT1 hk; obtain ⟨r, rfl, hr0, hr1⟩ := hv) | (go_at_call 97; (with_reducible refine (theader_any hZ (hO.tapeIn (by (repeat (first | exact List.mem_cons_self | refine List.mem_cons_of_mem _ ?_))) (by (intro s hs; repeat (first | exact hs | apply List.mem_cons_of_mem))) hT.le)).mono ?_); rintro e wv ⟨v, i1, rfl, hv, hk, hT1⟩; replace hO := hO.after (by (repeat (first | exact Upd.here | apply Upd.there))) hk hT1.blk; replace hT := hT1; clear hT1 hk; obtain ⟨h, rfl, hh⟩ := hv) | (go_at_call 21; (with_reducible refine (next_pos _ hZ (hO.tapeIn (by (repeat (first | exact List.mem_cons_self | refine List.mem_cons_of_mem _ ?_))) (by (intro s hs; repeat (first | exact hs | apply List.mem_cons_of_mem))) hT.le) (by omega) (by omega)).mono ?_); rintro e wv ⟨v, i1, rfl, hv, hk, hT1⟩; replace hO := hO.after (by repeat (first | exact Upd.here | apply Upd.there)) hk hT1.blk; replace hT := hT1; clear hT1 hk; obtain ⟨r, rfl, hr0, hr1⟩ := hv; obtain ⟨j, rfl⟩ : ∃ j : Nat, r = j := ⟨r.toNat, by omega⟩; have hj : j < l.length := by omega))
  ·exact bodyPost_ret (own_res_cell hO Tryz.results40 rfl List.mem_cons_self (by (exact row_len (by (with_reducible (exact row_Header))) (by rfl))) rfl) rfl (tpost hO (by (repeat (first | exact List.mem_cons_self | refine List.mem_cons_of_mem _ ?_))) (by (intro s hs; repeat (first | exact hs | apply List.mem_cons_of_mem))) hT.le ⟨_, rfl, hh⟩)
  ·have hbk := HL.out _ (List.getElem_mem hj)
   generalize l[j] = b at *
   go_loopw [7] (fun q wr => ∃ (k : Nat) (p : Nat → Int) (i : Nat), k ≤ 5 ∧ q = .int .i64 k ∧ (∀ j, j < 5 → 0 ≤ p j ∧ p j ≤ topOf j) ∧ TapeIn wr n sl zs i ∧ Own [n] w [⟨n6, fcs p, 158⟩, ⟨n5, bcs b, 98⟩, ⟨n4, [.int .u32 0, .int .u32 0, .int .u8 0, .int .u16 0, .int .u16 0], 48⟩, ⟨n, tcs sl i, 93⟩] [] (⟨g, o, cellsB l⟩ :: roS sl (ints zs)) wr) (fun q _ => 5 - (intOf q).toNat)
   case atStart => exact ⟨0, fun _ => 0, i1, by omega, rfl, fun j _ => ⟨Int.le_refl 0, topOf_pos j⟩, (hO.tapeIn (by (repeat (first | exact List.mem_cons_self | refine List.mem_cons_of_mem _ ?_))) (by (intro s hs; repeat (first | exact hs | apply List.mem_cons_of_mem))) hT.le), hO⟩
   case round =>
    clear hO hT
    obtain ⟨k, p, i, hk, rfl, hp, hT, hO⟩ := hrel
    by_cases hlt : k < 5
    ·have HP := Lib.hid hp
     clear hp
     obtain ⟨⟨A1, A2⟩, A3, A4⟩ := hbk k hlt
     go_wp2_with fail
     have hQ : ∀ v ∈ [Value.int .u32 (b.at k).lo, .int .u32 (b.at k).hi, .int .u32 (((b.at k).lo - 1) % 4294967296), .int .u32 (((b.at k).hi + 1) % 4294967296), .int .u32 (((b.at k).lo + ((b.at k).hi - (b.at k).lo) % 4294967296 / 2) % 4294967296)], PU32 v := (by repeat (first | exact all_nil | refine all_cons ⟨_, rfl, by omega, by omega⟩ ?_))
     (refine own_tloose 39 [(63, IsLit [n, n6, n5, n4] 5 [.int .u32 (b.at k).lo, .int .u32 (b.at k).hi, .int .u32 (((b.at k).lo - 1) % 4294967296), .int .u32 (((b.at k).hi + 1) % 4294967296), .int .u32 (((b.at k).lo + ((b.at k).hi - (b.at k).lo) % 4294967296 / 2) % 4294967296)]), (65, fun v _ => ∃ r, v = .int .i64 r ∧ 0 ≤ r ∧ r < 5), (66, IsElt [n, n6, n5, n4] PU32), (67, fun v _ => PU32 v)] hO hT (by repeat (first | exact Pick.here | apply Pick.there)) (by kernel_rfl) (by kernel_rfl) (by rfl) (by repeat (first | exact Split.zero _ | apply Split.succ)) ?_ ?_); (focus (repeat (first | exact lasts_nil | (refine lasts_cons (fun v w w' _ _ hk h => ?_) ?_; focus (first | exact h | exact IsLit.keep h hk (by simp) | exact IsElt.keep h hk (by simp)))))); clear hO; (repeat (first | (refine loose_plain (by (intro _ hd; cases hd; rfl)) (by rfl) (fun _ h => TC.own h) ?_; (go_big_quiet_want; (first | ((with_reducible refine is_loadQ ?_); (refine q_ld (h := ?_)); (try simp only [Act.put]); (try simp only [sI9, sZ9, sS9]); go_big_quiet_on) | (go_big_quiet_op; (first | go_big_quiet_on | ((refine ⟨_, fun _ _ => rfl, ?_⟩); go_big_quiet_on))))); refine wpQuiet_nil ?_) | (refine loose_fact (by rfl) rfl (by rfl) ?_ ?_ (Nat.le_of_ble_eq_true rfl); (focus (intro w1 hC hF; (first | (exact loose_lit hC rfl (by (exact slice_u32)) rfl rfl (by rfl) (by decide) (by decide) (by simp [excl])) | (exact loose_elt hC rfl rfl (hF 66 (by simp [insF]) List.mem_cons_self _ rfl) one_u32) | (obtain ⟨i1, hi1, hO⟩ := hC; go_simp; (first | (go_at_call 21; (with_reducible refine (next_pos _ hZ (hO.tapeIn List.mem_cons_self (by (intro s hs; repeat (first | exact hs | apply List.mem_cons_of_mem))) hi1) (by omega) (by omega)).mono ?_); rintro e w3 ⟨v, i2, rfl, hv, hk, hT1⟩; exact ⟨_, rfl, hk, TC.next hO hk hT1, hv⟩) | (exact ⟨Keep.refl _ _, ⟨i1, hi1, hO⟩, elt_of (hF 63 (by simp [insF]) List.mem_cons_self _ rfl) hQ (by omega) (by simp; omega)⟩)))))); (intro u w1 hC hu; (first | obtain ⟨r, rfl, hr0, hr1⟩ := hu | (skip)); (try simp only [Act.put]); (try simp only [sI9, sZ9, sS9]))))); (refine wpLoose_nil ?_); intro wv hI; obtain ⟨⟨i1, hi1, hO⟩, hF⟩ := hI; have hT := hO.tapeIn List.mem_cons_self (by (intro s hs; repeat (first | exact hs | apply List.mem_cons_of_mem))) hi1
     go_wp2_with (refine st1N hO ?_; clear hO; intro wv hO)
     clear hF
     (refine own_tail 8 hO (by kernel_rfl) (by kernel_rfl) (by repeat (first | exact Split.zero _ | apply Split.succ)) ?_; clear hO; intro wv hO; (repeat ((refine wpStill_step (fun K hK => ?_)); (first | ((rw [if_pos (by rfl)]); (with_reducible refine is_loadS ?_); (refine s_ld (h := ?_)); (try simp only [Act.put]); (try simp only [sI9, sZ9, sS9]); (refine hK _ ?_); clear hK K) | (go_simp; (refine hK _ ?_); clear hK K) | (go_simp; apply Exists.intro; (refine ⟨?_, hK _ ?_⟩); (focus ((go_at_call 98; exact (rtop_any _ _ hlt).mono fun _ _ h => ⟨h.1, h.2.symm⟩))); clear hK K)))); (refine wpStill_nil ?_))
     go_wp2_with (refine st1N hO ?_; clear hO; intro wv hO)
     have hval : fupd p k r k = r := by simp [fupd]
     have htp := topOf_pos k
     go_roundw
     case rel =>
      refine ⟨k + 1, _, i1, by omega, by go_num, fun j hj => ?_, hO.tapeIn (by repeat (exact List.mem_cons_self)) (by intro s hs; repeat (first | exact hs | apply List.mem_cons_of_mem)) hi1, hO.perm (.trans (.swap _ _ _) (.cons _ (.trans (.swap _ _ _) (.cons _ (.swap _ _ _)))))⟩
      unfold fupd
      have := HP.out j hj
      by_cases e : j = k
      ·subst e; simp; omega
      ·simp [e]; omega
     case measure => simp [intOf]; omega
    ·obtain rfl : k = 5 := by omega
     go_wp2_with (first | refine ldN ?_ | (refine stN hO ?_; clear hO; intro wv hO) | (go_at_call 99; refine (rheader_any _ _ (Hd.of_ok hp)).mono ?_; rintro e wv ⟨rfl, hb⟩; replace hO := hO.call hb; clear hb))
     exact bodyPost_ret (own_res_cell hO Tryz.results40 rfl (by (repeat (first | exact List.mem_cons_self | refine List.mem_cons_of_mem _ ?_))) (by (exact row_len (by (with_reducible (exact row_Header))) (by rfl))) rfl) rfl (tpost hO (by (repeat (first | exact List.mem_cons_self | refine List.mem_cons_of_mem _ ?_))) (by (intro s hs; repeat (first | exact hs | apply List.mem_cons_of_mem))) hT.le ⟨_, rfl, Hd.of_ok hp⟩)
theorem new_any {w : World} (a : Option Addr) (len c : Nat) : Calls Tryz.prog 11 #[.slice a len c] w fun e w' => ∃ n, e = .returned (.pointer (some ⟨n, 0, none⟩)) ∧ Blk w' n (tcs (.slice a len c) 0) 93 ∧ w.heap.size ≤ n ∧ Below w.heap.size w w' := by
 have hO := own_start [] w
 go_enter Tryz.func11, Tryz.ntmps11
 go_wp2_with (refine bx9 5 hO ?_; clear hO; intro n5 wv hO)
 go_ret
 exact ⟨_, rfl, hO.chunk _ List.mem_cons_self, by simpa [excl] using hO.free n5 (by simp [excl]), hO.keep.below⟩
theorem own_law {w : World} {sl : Value} {zs : List Int} (hr : ∀ s ∈ roS sl (ints zs), w.rangeAt s.g s.o s.xs) : Own [] w [] [] (roS sl (ints zs)) w :=
 ⟨Keep.refl _ _, fun c hc => (by cases hc), fun r hr => (by cases hr), hr, by simp [excl], by simp [excl], by simp [excl]⟩
theorem Own.gain {M : List Nat} {w0 w w' : World} {X : List Chunk} {R : List Row} {S : List Ro} (hO : Own M w0 X R S w) (hb : Below w.heap.size w w') {n : Nat} {cs : List Value} {t : TypeId} (hB : Blk w' n cs t) (hn : w.heap.size ≤ n) : Own M w0 (⟨n, cs, t⟩ :: X) R S w' := by
 have h1 := hO.call hb
 refine ⟨h1.keep, fun c hc => ?_, h1.row, h1.ro, ?_, fun k hk => ?_, fun s hs hne hm => ?_⟩
 ·rcases List.mem_cons.1 hc with rfl | hc
  ·exact hB
  ·exact h1.chunk c hc
 ·show (n :: excl X R).Nodup
  exact List.nodup_cons.2 ⟨fun hm => by have := hO.lt n hm; omega, hO.nd⟩
 ·rcases List.mem_cons.1 (show k ∈ n :: excl X R from hk) with rfl | hk
  ·exact .inr (Nat.le_trans hO.keep.size hn)
  ·exact hO.free k hk
 ·rcases List.mem_cons.1 (show s.g ∈ n :: excl X R from hm) with e | hm
  ·have := ro_lt (hO.ro s hs) hne
   omega
  ·exact hO.apart s hs hne hm
theorem tk_box0 (l : List Bx) (h : 0 < l.length) : (cellsB l).take (bcs l[0]).length = bcs l[0] := by
 have := tk_box l h
 simpa using this
theorem tk_boxOne (x : Bx) : (cellsB [x]).take (bcs x).length = bcs x := by rw [cellsB_one]; exact List.take_length
end Go.Proofs.YtbdfblgdmappeaaGreatDoor
namespace Go.Proofs.YtbdfblgdmappeaaGreatDoor
open Go.ChangeShapes Go.WideShapes Go.ChangeAt Go.RowKit
section
variable {H : Type} {enc : TypeId × Value → H} {P : Program} {w w' : World} {T : TypeId → Prop} {sp : Nat → Bool}
theorem sameAt_of_below {p : MemPlace} (hb : Below w.heap.size w w') (hp : p.block < w.heap.size) : w.sameAt w' p := by
 cases p with
 | cell b off => exact hb.cell (p := ⟨b, off, none⟩) hp
 | map b => exact hb.block b hp
theorem trodAll_stays (K : Kids P T) (hsz : ∀ {t e : TypeId}, T t → P.underlying t = some (.slice e) → 0 < P.cellsOf e) (hb : Below w.heap.size w w') :
  ∀ {ts : List TypeId} {vs : List Value} {ds : List (DataW H)} {ps : List MemPlace}, (∀ t ∈ ts, T t) → DataW.TrodAll enc P w 0 (fun _ => true) true ts vs ds ps → (∀ p ∈ ps, sp p.block = true) → DataW.TrodAll enc P w' 0 sp true ts vs ds ps
 | [], [], [], _, _, h, _ => h
 | _ :: _, _ :: _, _ :: _, _, hT, ⟨p, q, ⟨n, h1⟩, h2, e⟩, hs =>
  ⟨p, q, ⟨n, DataW.trod_stays K hsz (fun h => by cases h) (hT _ (List.mem_cons.2 (.inl rfl))) h1 (fun x hx => sameAt_of_below hb (DataW.trod_lt _ _ _ _ h1 x hx)) (fun x hx => hs x (by rw [e]; exact List.mem_append_left _ hx))⟩,
   trodAll_stays K hsz hb (fun t ht => hT t (List.mem_cons.2 (.inr ht))) h2 (fun x hx => hs x (by rw [e]; exact List.mem_append_right _ hx)), e⟩
theorem law_post {f : Func} {s : ChangeSpec} {W W' : World} {args : Array Value} {ds gs : List (DataW H)} {before : List MemPlace} {tb : TypeId} (K : Kids P T) (hsz : ∀ {t e : TypeId}, T t → P.underlying t = some (.slice e) → 0 < P.cellsOf e)
  (hT : ∀ t ∈ f.params.toList, T t) (hv : s.vars = []) (hrt : f.resultTypes = #[tb]) (htb : P.underlying tb = some .bool)
  (hW : DataW.Whole enc P f.params.toList s.vars false W args.toList ds gs before) (hb : Below W.heap.size W W')
  (hr : (s.fn H ds).results = [.lit (.bool true)]) (ha : (s.fn H ds).args = ds) (hvs : (s.fn H ds).vars = []) :
  s.post enc P f false true false false W args (.bool true) W' := by
 have hold : ∀ p ∈ before, (fun b => decide (b < W.heap.size)) p.block = true := fun p hp => by simpa using hW.lt p hp
 have hlt := hW.lt
 have hW' := hW
 obtain ⟨p, q, hA, hV, rfl, hz, hn⟩ := hW
 rw [hv] at hV
 obtain ⟨rfl, rfl⟩ := trodVars_none hV
 simp only [List.append_nil] at *
 have hargs : ∀ sp : Nat → Bool, (∀ x ∈ p, sp x.block = true) → DataW.TrodAll enc P W' 0 sp true f.params.toList args.toList (s.fn H (ds ++ [])).args p := fun sp hs => by
  rw [List.append_nil, ha]; exact trodAll_stays K hsz hb hT hA hs
 have hvars : ∀ sp : Nat → Bool, DataW.TrodVars enc P W' sp s.vars (s.fn H (ds ++ [])).vars [] := fun sp => by rw [List.append_nil, hvs, hv]; rfl
 have hres : ∀ (b : Nat) (sp : Nat → Bool) (hd : Bool), DataW.TrodAll enc P W' b sp hd f.resultTypes.toList ((Value.bool true).resultList f.resultTypes.size) (s.fn H (ds ++ [])).results [] := fun b sp hd => by
  rw [List.append_nil, hr, hrt]
  exact trodAll_cons_mk (shut_bool htb _) trodAll_mk0
 refine ⟨ds, [], p, [], p, [], hW', hres _ _ _, hargs _ hold, hvars _, World.keptBut_mono (fun x hx => ⟨hx, .inr (.inl hx)⟩) (hb.frame (· ∈ p)), fun _ => ?_⟩
 refine ⟨ok_one hrt rfl (okWide_bool_mk htb _), _, _, ([] ++ p) ++ [], ⟨[] ++ p, [], trodAll_append (hargs _ (fun _ _ => rfl)) (hres _ _ _), hvars _, rfl, ?_, ?_⟩, ?_⟩
 ·intro b off hp
  have hp' : MemPlace.cell b off ∈ p := by simpa using hp
  rw [hb.frozen (p := ⟨b, off, none⟩) (hlt _ hp')]
  exact hz b off hp'
 ·intro h; cases h
 ·intro x hx _
  simpa using hx
end
end Go.Proofs.YtbdfblgdmappeaaGreatDoor
namespace Go.Proofs.YtbdfblgdmappeaaGreatDoor
open Go.ChangeShapes Go.WideShapes Go.ChangeAt Go.RowKit
set_option maxRecDepth 100000
theorem kids : Kids Tryz.prog (· < (Tryz.prog).types.size) := kids_rows (by kernel_rfl) (by kernel_rfl)
theorem full : ∀ {t e : TypeId}, t < (Tryz.prog).types.size → (Tryz.prog).underlying t = some (.slice e) → 0 < (Tryz.prog).cellsOf e := fun {t e} => slices_full_of _ (by kernel_rfl) t e
theorem own : ownKnob (Tryz.prog).godebug = none := by kernel_rfl
section
variable {H : Type} {enc : TypeId × Value → H} {w : World} {base : Nat} {spare : Nat → Bool} {held : Bool}
theorem two_cells {k : IntKind} {n : Nat} {t : TypeId} {c : Value} {x : DataW H × List MemPlace} (ht : (Tryz.prog).underlying t = some (.int k)) (h : DataW.trod enc Tryz.prog w base spare held n t [c] = some x) : ∃ z, c = .int k z ∧ (Lit.int k z).wf = true := by
 obtain ⟨z, h1, _, h2⟩ := DataW.trod_int ht h
 simp only [List.cons.injEq, and_true] at h1
 exact ⟨z, h1, h2⟩
theorem open_range {n : Nat} {c d : Value} {x : DataW H × List MemPlace} (h : DataW.trod enc Tryz.prog w base spare held n 96 [c, d] = some x) :
  ∃ lo hi, c = .int .u32 lo ∧ d = .int .u32 hi ∧ (0 ≤ lo ∧ lo ≤ 4294967295) ∧ (0 ≤ hi ∧ hi ≤ 4294967295) := by
 obtain ⟨xs, m, _, _, _, _, hf⟩ := DataW.trod_struct Tryz.underlying96 h
 have h0 : DataW.trod enc Tryz.prog w base spare held m 45 (List.take ((Tryz.prog).cellsOf 45) (List.drop 0 [c, d])) = xs[0]? := hf 0 _ rfl
 have h1 : DataW.trod enc Tryz.prog w base spare held m 45 (List.take ((Tryz.prog).cellsOf 45) (List.drop 1 [c, d])) = xs[1]? := hf 1 _ rfl
 have c1 : (Tryz.prog).cellsOf 45 = 1 := by kernel_rfl
 simp only [c1, List.drop_zero, List.drop_succ_cons, List.take_succ_cons, List.take_zero] at h0 h1
 have hl : ∀ i, i < 2 → ∃ y, xs[i]? = some y := fun i hi => by
  have : xs.length = 2 := by assumption
  exact ⟨_, List.getElem?_eq_getElem (by omega)⟩
 obtain ⟨y0, e0⟩ := hl 0 (by omega)
 obtain ⟨y1, e1⟩ := hl 1 (by omega)
 rw [e0] at h0
 rw [e1] at h1
 obtain ⟨lo, rfl, w0⟩ := two_cells Tryz.underlying45 h0
 obtain ⟨hi, rfl, w1⟩ := two_cells Tryz.underlying45 h1
 exact ⟨lo, hi, rfl, rfl, bounds_u32 w0, bounds_u32 w1⟩
theorem ten {α : Type} (l : List α) (h : l.length = 10) : ∃ a b c d e f g i j k, l = [a, b, c, d, e, f, g, i, j, k] := by
 match l, h with
 | [a, b, c, d, e, f, g, i, j, k], _ => exact ⟨a, b, c, d, e, f, g, i, j, k, rfl⟩
theorem open_boxCells {n : Nat} {cs : List Value} {x : DataW H × List MemPlace} (h : DataW.trod enc Tryz.prog w base spare held n 98 cs = some x) : ∃ b : Bx, cs = bcs b ∧ b.ok := by
 have c2 : (Tryz.prog).cellsOf 96 = 2 := by kernel_rfl
 have c10 : (Tryz.prog).cellsOf 98 = 10 := by kernel_rfl
 obtain ⟨xs, m, _, _, hl, hxl, hf⟩ := DataW.trod_array Tryz.underlying98 h
 rw [c10] at hl
 obtain ⟨a0, a1, b0, b1, c0, c1, d0, d1, e0, e1, rfl⟩ := ten cs hl
 simp only [c2] at hf
 have get : ∀ i, i < 5 → ∃ y, xs[i]? = some y := fun i hi => ⟨_, List.getElem?_eq_getElem (by omega)⟩
 obtain ⟨y0, z0⟩ := get 0 (by omega)
 obtain ⟨y1, z1⟩ := get 1 (by omega)
 obtain ⟨y2, z2⟩ := get 2 (by omega)
 obtain ⟨y3, z3⟩ := get 3 (by omega)
 obtain ⟨y4, z4⟩ := get 4 (by omega)
 obtain ⟨l0, h0, rfl, rfl, p0⟩ := open_range ((hf 0 (by omega)).trans z0)
 obtain ⟨l1, h1, rfl, rfl, p1⟩ := open_range ((hf 1 (by omega)).trans z1)
 obtain ⟨l2, h2, rfl, rfl, p2⟩ := open_range ((hf 2 (by omega)).trans z2)
 obtain ⟨l3, h3, rfl, rfl, p3⟩ := open_range ((hf 3 (by omega)).trans z3)
 obtain ⟨l4, h4, rfl, rfl, p4⟩ := open_range ((hf 4 (by omega)).trans z4)
 refine ⟨⟨⟨l0, h0⟩, ⟨l1, h1⟩, ⟨l2, h2⟩, ⟨l3, h3⟩, ⟨l4, h4⟩⟩, rfl, fun k hk => ?_⟩
 rcases five hk with rfl | rfl | rfl | rfl | rfl <;> assumption
theorem five_cells {α : Type} (l : List α) (h : l.length = 5) : ∃ a b c d e, l = [a, b, c, d, e] := by
 match l, h with
 | [a, b, c, d, e], _ => exact ⟨a, b, c, d, e, rfl⟩
theorem open_header {r : Reach} {b0 : Nat} {v : Value} {d : DataW H} {p : List MemPlace} (hval : Value.okWide Tryz.prog w r b0 48 v) (h : DataW.Trod enc Tryz.prog w base spare held 48 v d p) : ∃ x : Hd, v = hv x ∧ x.ok := by
 obtain ⟨cs, rfl⟩ : ∃ cs, v = .agg cs := by
  simp only [Value.okWide, Tryz.underlying48] at hval
  obtain ⟨cs, h1, _⟩ := hval
  exact ⟨cs, h1⟩
 obtain ⟨n, hn⟩ := h
 have c5 : (Tryz.prog).cellsOf 48 = 5 := by kernel_rfl
 have c1 : (Tryz.prog).cellsOf 45 = 1 := by kernel_rfl
 have c2 : (Tryz.prog).cellsOf 5 = 1 := by kernel_rfl
 have c3 : (Tryz.prog).cellsOf 46 = 1 := by kernel_rfl
 obtain ⟨xs, m, _, _, hl, hxl, hf⟩ := DataW.trod_struct Tryz.underlying48 hn
 rw [c5] at hl
 simp only [Value.cells] at hl hf
 obtain ⟨l⟩ := cs
 obtain ⟨a, b, c, e, f, rfl⟩ := five_cells l hl
 have get : ∀ i, i < 5 → ∃ y, xs[i]? = some y := fun i hi => ⟨_, List.getElem?_eq_getElem (by have : xs.length = 5 := hxl; omega)⟩
 have h0 : DataW.trod enc Tryz.prog w base spare held m 45 (List.take ((Tryz.prog).cellsOf 45) (List.drop 0 [a, b, c, e, f])) = xs[0]? := hf 0 _ rfl
 have h1 : DataW.trod enc Tryz.prog w base spare held m 45 (List.take ((Tryz.prog).cellsOf 45) (List.drop 1 [a, b, c, e, f])) = xs[1]? := hf 1 _ rfl
 have h2 : DataW.trod enc Tryz.prog w base spare held m 5 (List.take ((Tryz.prog).cellsOf 5) (List.drop 2 [a, b, c, e, f])) = xs[2]? := hf 2 _ rfl
 have h3 : DataW.trod enc Tryz.prog w base spare held m 46 (List.take ((Tryz.prog).cellsOf 46) (List.drop 3 [a, b, c, e, f])) = xs[3]? := hf 3 _ rfl
 have h4 : DataW.trod enc Tryz.prog w base spare held m 46 (List.take ((Tryz.prog).cellsOf 46) (List.drop 4 [a, b, c, e, f])) = xs[4]? := hf 4 _ rfl
 obtain ⟨y0, z0⟩ := get 0 (by omega)
 obtain ⟨y1, z1⟩ := get 1 (by omega)
 obtain ⟨y2, z2⟩ := get 2 (by omega)
 obtain ⟨y3, z3⟩ := get 3 (by omega)
 obtain ⟨y4, z4⟩ := get 4 (by omega)
 simp only [c1, c2, c3, List.drop_zero, List.drop_succ_cons, List.take_succ_cons, List.take_zero, z0, z1, z2, z3, z4] at h0 h1 h2 h3 h4
 obtain ⟨s, rfl, w0⟩ := two_cells Tryz.underlying45 h0
 obtain ⟨d', rfl, w1⟩ := two_cells Tryz.underlying45 h1
 obtain ⟨pr, rfl, w2⟩ := two_cells Tryz.underlying5 h2
 obtain ⟨sp, rfl, w3⟩ := two_cells Tryz.underlying46 h3
 obtain ⟨dp, rfl, w4⟩ := two_cells Tryz.underlying46 h4
 exact ⟨⟨s, d', pr, sp, dp⟩, rfl, bounds_u32 w0, bounds_u32 w1, bounds_u8 w2, bounds_u16 w3, bounds_u16 w4⟩
end
theorem tops_of {W : World} (h : laidMetH Tryz.prog [("netsegment/box.tops", Rows.laid_netsegment_box_tops)] W) : Tops W := by
 have ht : Lib.TabIs Tryz.prog W "netsegment/box.tops" .u32 [4294967295, 4294967295, 255, 65535, 65535] :=
  Lib.tabIs_of_head (rest := []) (show (Tryz.prog).globalNamed "netsegment/box.tops" = some 0 by kernel_rfl) (show ((Tryz.prog).globals[0]?).map (·.type) = some 158 by kernel_rfl) Tryz.underlying158 Tryz.underlying45 (by kernel_rfl) (by kernel_rfl) h
 intro k hk
 rcases five hk with rfl | rfl | rfl | rfl | rfl <;> exact ht.cell (by kernel_rfl) _ (by decide)
end Go.Proofs.YtbdfblgdmappeaaGreatDoor
namespace Go.Proofs.YtbdfblgdmappeaaGreatDoor
open Go.ChangeShapes Go.WideShapes Go.ChangeAt Go.RowKit
set_option maxRecDepth 100000
section
variable {H : Type} {enc : TypeId × Value → H} {w : World} {base : Nat} {spare : Nat → Bool} {held : Bool}
theorem addr_plain {a : Addr} {v : Value} (h : w.cell? a = some v) : a = ⟨a.block, a.off, none⟩ := by
 unfold World.cell? at h
 obtain ⟨b, o, s⟩ := a
 cases s with
 | none => rfl
 | some s => split at h <;> simp at h
theorem isInts_of {r : Reach} {b0 : Nat} {v : Value} {d : DataW H} {p : List MemPlace} (hv : Value.okWide Tryz.prog w r b0 22 v) (h : DataW.Trod enc Tryz.prog w base spare held 22 v d p) :
  ∃ zs, ZsOk v zs ∧ ∀ s ∈ roS v (ints zs), w.rangeAt s.g s.o s.xs := by
 obtain ⟨n, hn⟩ := h
 rcases open_ints (P := Tryz.prog) (k := .i64) Tryz.underlying22 Tryz.underlying3 (by kernel_rfl) hn with ⟨h1, _⟩ | ⟨a, len, cap, zs, h1, _, hlc, hcm, hzl, _, hcell, hwf⟩
 ·have : v = .slice none 0 0 := by
   cases v with
   | slice a l c => simpa [Value.cells] using h1
   | agg cs => exfalso; simp only [Value.okWide, Tryz.underlying22] at hv; (try (obtain ⟨_, _, _, h, _⟩ := hv; cases h)); (try (cases hv))
   | _ => simp [Value.cells] at h1
  subst this
  exact ⟨[], ⟨⟨none, 0, rfl, by simp⟩, by simp, by simp⟩, by simp [roS]⟩
 ·have hvs : v = .slice (some a) len cap := by
   cases v with
   | slice a' l c => simpa [Value.cells] using h1
   | agg cs => exfalso; simp only [Value.okWide, Tryz.underlying22] at hv; (try (obtain ⟨_, _, _, h, _⟩ := hv; cases h)); (try (cases hv))
   | _ => simp [Value.cells] at h1
  have hle : len ≤ zs.length := by rw [hzl]; split <;> omega
  have hlen : (zs.take len).length = len := by simp; omega
  have hpl : 0 < len → a = ⟨a.block, a.off, none⟩ := fun h0 => by
   have := hcell 0 (by omega)
   exact addr_plain (by simpa [Addr.add] using this)
  subst hvs
  refine ⟨zs.take len, ⟨⟨some a, cap, by rw [hlen], fun h0 => ⟨a.block, a.off, by rw [← hpl (by omega)]⟩⟩, fun z hz => bounds_i64 (hwf z (List.mem_of_mem_take hz)), by rw [hlen]; unfold maxLen at hcm; omega⟩, ?_⟩
  intro s hs
  obtain rfl : s = ⟨a.block, a.off, ints (zs.take len)⟩ := by simpa [roS] using hs
  intro j u hj
  have hjl := (List.getElem?_eq_some_iff.1 hj).1
  simp only [List.length_map, hlen] at hjl
  have hz : j < zs.length := by omega
  have h2 := hcell j hz
  rw [hpl (by omega)] at h2
  have e : (⟨a.block, a.off, none⟩ : Addr).add j = ⟨a.block, a.off + j, none⟩ := by
   unfold Addr.add
   by_cases h0 : j = 0
   ·rw [if_pos h0, h0]; rfl
   ·rw [if_neg h0]
  rw [e] at h2
  rw [h2, ← hj]
  simp [hjl, hz, List.getD]
end
end Go.Proofs.YtbdfblgdmappeaaGreatDoor
namespace Go.Proofs.YtbdfblgdmappeaaGreatDoor
open Go.RowKit
section
variable {P : Program} {ops : Array Oper} {rest : List Oper} {o : Oper} {a : Act} {Q : Exit → Act → World → Prop} {M : List Nat} {w0 w w' : World} {X : List Chunk} {R : List Row} {S : List Ro}
def IsNew (B : Nat) (X : List Chunk) (R : List Row) (S : List Ro) (cs : List Value) (t : TypeId) : Fact := fun v w => ∃ b, v = .pointer (some ⟨b, 0, none⟩) ∧ Blk w b cs t ∧ B ≤ b ∧ b ∉ excl X R ∧ ∀ s ∈ S, s.xs ≠ [] → s.g ≠ b
theorem IsNew.keep {B : Nat} {cs : List Value} {t : TypeId} {v : Value} (h : IsNew B X R S cs t v w) (hk : Keep [] w w') : IsNew B X R S cs t v w' := by
 obtain ⟨b, h1, h2, h3⟩ := h
 exact ⟨b, h1, h2.below hk.below h2.lt, h3⟩
theorem own_appendA (hO : Own M w0 X R S w) (hgd : o.guard = none) {s x : Operand} {t e : TypeId} (ho : o.op = .call { callee := .builtin .append, args := #[s, x], argTypes := #[t, t] }) {size bytes : Nat} (ht : SliceT P t e size bytes)
  {v : Value} (hs : a.eval s = v) {A : Option Addr} {m c : Nat} (hx : a.eval x = .slice A m c) {news : List Value} (hr : SrcAt w size A m news) (h1 : news.all (·.oneCell') = true)
  {k : Nat} {xs : List Value} {R1 : Value → List Row} (hu : ∀ v', UpdR R ⟨v, k, xs, e, size⟩ ⟨v', k + m, xs ++ news, e, size⟩ (R1 v')) (hbytes : (k + m) * bytes ≤ 140737488355328) (hk : k + m ≤ maxLen)
  (h : ∀ A cap w', Own M w0 X (R1 (.slice A (k + m) cap)) S w' → wpList P ops Q rest (a.put o.dst (.slice A (k + m) cap)) w') : wpList P ops Q (o :: rest) a w := by
 refine own_appendS hO hgd ho ht hs hx hr h1 hu hbytes hk fun v' w' hO' => ?_
 obtain ⟨A0, B0, _, hR⟩ := (hu v').split
 have hrow := hO'.row ⟨v', k + m, xs ++ news, e, size⟩ (by rw [hR]; exact List.mem_append.2 (.inr List.mem_cons_self))
 rcases hrow.2 with ⟨h2, h3⟩ | ⟨g, cap, cur, h2, _⟩
 ·have h2' : v' = .slice none 0 0 := h2
  have h3' : k + m = 0 := h3
  subst h2'
  have h4 := h none 0 w'
  rw [h3'] at h4
  exact h4 hO'
 ·have h2' : v' = .slice (some ⟨g, 0, none⟩) (k + m) cap := h2
  subst h2'
  exact h _ cap w' hO'
end
inductive PutL : List Value → Nat → List Value → List Value → Prop
 | nil (cs : List Value) : PutL cs 0 [] cs
 | put {c v : Value} {cs vs cs' : List Value} (h : PutL cs 0 vs cs') : PutL (c :: cs) 0 (v :: vs) (v :: cs')
 | skip {c : Value} {cs vs cs' : List Value} {n : Nat} (h : PutL cs n vs cs') : PutL (c :: cs) (n + 1) vs (c :: cs')
theorem putAt_cons (c : Value) (vs : List Value) : ∀ (cs : List Value) (n : Nat), putAt (c :: cs) (n + 1) vs = c :: putAt cs n vs := by
 induction vs with
 | nil => intro cs n; rfl
 | cons v vs ih => intro cs n; show putAt ((c :: cs).set (n + 1) v) (n + 1 + 1) vs = c :: putAt (cs.set n v) (n + 1) vs; rw [List.set_cons_succ, ih]
theorem PutL.eq {cs vs cs' : List Value} {n : Nat} (h : PutL cs n vs cs') : putAt cs n vs = cs' := by
 induction h with
 | nil cs => rfl
 | @put c v cs vs cs' _ ih => show putAt (v :: cs) (0 + 1) vs = _; rw [putAt_cons, ih]
 | skip _ ih => rw [putAt_cons, ih]
section
variable {P : Program} {ops : Array Oper} {rest : List Oper} {o : Oper} {a : Act} {w w0 w' : World} {Q : Exit → Act → World → Prop} {M : List Nat} {X X' : List Chunk} {R : List Row} {S : List Ro}
end
inductive TakeL : List Value → Nat → Nat → List Value → Prop
 | nil (cs : List Value) : TakeL cs 0 0 []
 | take {c : Value} {cs vs : List Value} {s : Nat} (h : TakeL cs 0 s vs) : TakeL (c :: cs) 0 (s + 1) (c :: vs)
 | skip {c : Value} {cs vs : List Value} {n s : Nat} (h : TakeL cs n s vs) : TakeL (c :: cs) (n + 1) s vs
theorem TakeL.eq {cs vs : List Value} {n s : Nat} (h : TakeL cs n s vs) : vs.length = s ∧ (cs.drop n).take vs.length = vs := by
 induction h with
 | nil cs => exact ⟨rfl, by simp⟩
 | take _ ih => exact ⟨by simp [ih.1], by simpa using ih.2⟩
 | skip _ ih => exact ⟨ih.1, by simpa using ih.2⟩
section
variable {P : Program} {ops : Array Oper} {rest : List Oper} {o : Oper} {a : Act} {w w0 w' : World} {Q : Exit → Act → World → Prop} {M : List Nat} {X X' : List Chunk} {R : List Row} {S : List Ro}
end
end Go.Proofs.YtbdfblgdmappeaaGreatDoor
