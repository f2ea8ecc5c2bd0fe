/- More laws of ownership: new blocks in drawn regions, append with a form, blocks that come in. For any program. -/
import Derived.Test.YtnhjcbmlplfpmaaDoorAppS
import Derived.Test.YtnhjcbmlplfpmaaDoorLooseW
import Derived.Test.YtnhjcbmlplfpmaaDoorAuto
namespace Go.Proofs.YtnhjcbmlplfpmaaDoor
open Go.RowKit
section
variable {P : Program} {ops : Array Oper} {rest : List Oper} {o : Oper} {a : Act} {Q : Exit → Act → World → Prop} {M : List Nat} {w0 w w' : World} {X : List Chunk} {R : List Row} {S : List Ro}
/-- a new block -/
def IsNew (B : Nat) (X : List Chunk) (R : List Row) (S : List Ro) (cs : List Value) (t : TypeId) : Fact := fun v w => ∃ b, v = .pointer (some ⟨b, 0, none⟩) ∧ Blk w b cs t ∧ B ≤ b ∧ b ∉ excl X R ∧ ∀ s ∈ S, s.xs ≠ [] → s.g ≠ b
theorem IsNew.keep {B : Nat} {cs : List Value} {t : TypeId} {v : Value} (h : IsNew B X R S cs t v w) (hk : Keep [] w w') : IsNew B X R S cs t v w' := by
  obtain ⟨b, h1, h2, h3⟩ := h
  exact ⟨b, h1, h2.below hk.below h2.lt, h3⟩
theorem own_isNew (hO : Own M w0 X R S w) {cs : List Value} {t : TypeId} {v : Value} (h : IsNew w0.heap.size X R S cs t v w) : ∃ b, v = .pointer (some ⟨b, 0, none⟩) ∧ Own M w0 (⟨b, cs, t⟩ :: X) R S w := by
  obtain ⟨b, h1, h2, h3, h4, h5⟩ := h
  refine ⟨b, h1, hO.keep, fun c hc => ?_, hO.row, hO.ro, ?_, fun n hn => ?_, fun s hs hne hm => ?_⟩
  · rcases List.mem_cons.1 hc with rfl | hc
    · exact h2
    · exact hO.chunk c hc
  · show (b :: excl X R).Nodup
    exact List.nodup_cons.2 ⟨h4, hO.nd⟩
  · rcases List.mem_cons.1 (show n ∈ b :: excl X R from hn) with rfl | hn
    · exact .inr h3
    · exact hO.free n hn
  · rcases List.mem_cons.1 (show s.g ∈ b :: excl X R from hm) with e | hm
    · exact h5 s hs hne e
    · exact hO.apart s hs hne hm
theorem loose_alloc (hO : Own M w0 X R S w) {t : TypeId} (ho : o.op = .alloc t) {cs : List Value} (hz : ZeroT P t cs) : looseUpon P (Own M w0 X R S) [] (IsNew w0.heap.size X R S cs t) w ((execOp a.eval o).run P w) := by
  rw [rx_alloc ho hz]
  refine ⟨keep_alloc _ _ _, hO.frame rfl rfl rfl (by simp) fun k hk => Below.heap_alloc _ _ _ hk, w.heap.size, rfl, Blk.new w cs t, hO.keep.size, fun hm => Nat.lt_irrefl _ (hO.lt _ hm), fun s hs hne e => ?_⟩
  have := ro_lt (hO.ro s hs) hne
  omega
/-- append, where the result is a slice: its form -/
theorem own_appendA (hO : Own M w0 X R S w) (hgd : o.guard = none) {s x : Operand} {t e : TypeId} (ho : o.op = .call { callee := .builtin .append, args := #[s, x], argTypes := #[t, t] }) {size bytes : Nat} (ht : SliceT P t e size bytes)
    {v : Value} (hs : a.eval s = v) {A : Option Addr} {m c : Nat} (hx : a.eval x = .slice A m c) {news : List Value} (hr : SrcAt w size A m news) (h1 : news.all (·.oneCell') = true)
    {k : Nat} {xs : List Value} {R1 : Value → List Row} (hu : ∀ v', UpdR R ⟨v, k, xs, e, size⟩ ⟨v', k + m, xs ++ news, e, size⟩ (R1 v')) (hbytes : (k + m) * bytes ≤ 140737488355328) (hk : k + m ≤ maxLen)
    (h : ∀ A cap w', Own M w0 X (R1 (.slice A (k + m) cap)) S w' → wpList P ops Q rest (a.put o.dst (.slice A (k + m) cap)) w') : wpList P ops Q (o :: rest) a w := by
  refine own_appendS hO hgd ho ht hs hx hr h1 hu hbytes hk fun v' w' hO' => ?_
  obtain ⟨A0, B0, _, hR⟩ := (hu v').split
  have hrow := hO'.row ⟨v', k + m, xs ++ news, e, size⟩ (by rw [hR]; exact List.mem_append.2 (.inr List.mem_cons_self))
  rcases hrow.2 with ⟨h2, h3⟩ | ⟨g, cap, cur, h2, _⟩
  · have h2' : v' = .slice none 0 0 := h2
    have h3' : k + m = 0 := h3
    subst h2'
    have h4 := h none 0 w'
    rw [h3'] at h4
    exact h4 hO'
  · have h2' : v' = .slice (some ⟨g, 0, none⟩) (k + m) cap := h2
    subst h2'
    exact h _ cap w' hO'
/-- a block and a slice that come in -/
theorem own_takeC {n g off : Nat} {cs xs : List Value} {t : TypeId} (hb : Blk w n cs t) (hr : w.rangeAt g off xs) (hne : g ≠ n) : Own [n] w [⟨n, cs, t⟩] [] [⟨g, off, xs⟩] w :=
  ⟨Keep.refl _ _, fun c hc => by obtain rfl := List.mem_singleton.1 hc; exact hb, fun r hr => (by cases hr), fun s hs => by obtain rfl := List.mem_singleton.1 hs; exact hr, by simp [excl], fun n' hn' => .inl (by simpa [excl] using hn'), fun s hs _ hm => by obtain rfl := List.mem_singleton.1 hs; exact hne (by simpa [excl] using hm)⟩
end
/-- some cells of a list overwritten, cell by cell -/
inductive PutL : List Value → Nat → List Value → List Value → Prop
  | nil (cs : List Value) : PutL cs 0 [] cs
  | put {c v : Value} {cs vs cs' : List Value} (h : PutL cs 0 vs cs') : PutL (c :: cs) 0 (v :: vs) (v :: cs')
  | skip {c : Value} {cs vs cs' : List Value} {n : Nat} (h : PutL cs n vs cs') : PutL (c :: cs) (n + 1) vs (c :: cs')
theorem putAt_cons (c : Value) (vs : List Value) : ∀ (cs : List Value) (n : Nat), putAt (c :: cs) (n + 1) vs = c :: putAt cs n vs := by
  induction vs with
  | nil => intro cs n; rfl
  | cons v vs ih => intro cs n; show putAt ((c :: cs).set (n + 1) v) (n + 1 + 1) vs = c :: putAt (cs.set n v) (n + 1) vs; rw [List.set_cons_succ, ih]
theorem PutL.eq {cs vs cs' : List Value} {n : Nat} (h : PutL cs n vs cs') : putAt cs n vs = cs' := by
  induction h with
  | nil cs => rfl
  | @put c v cs vs cs' _ ih => show putAt (v :: cs) (0 + 1) vs = _; rw [putAt_cons, ih]
  | skip _ ih => rw [putAt_cons, ih]
section
variable {P : Program} {ops : Array Oper} {rest : List Oper} {o : Oper} {a : Act} {w w0 w' : World} {Q : Exit → Act → World → Prop} {M : List Nat} {X X' : List Chunk} {R : List Row} {S : List Ro}
theorem own_stRp (hO : Own M w0 X R S w) (hw : Region.wanted o (yielded ops a.tmps) = true := by rfl) {t : TypeId} {x y : Operand} (ho : o.op = .store t x y := by rfl) {n off s : Nat} (hx : a.eval x = .pointer (some ⟨n, off, none⟩) := by rfl)
    {vs : List Value} (hy : a.eval y = .agg vs.toArray := by rfl) (ht : RowT P t s := by (with_reducible (first | exact row_Box | exact row_Range | exact row_Header | exact row_Five | exact row_Tape | exact row_Prefix | exact row_Truths | exact row_Packet))) (hs : vs.length = s := by rfl) {cs cs2 : List Value} {t' : TypeId} (hu : Upd X ⟨n, cs, t'⟩ ⟨n, cs2, t'⟩ X' := by (repeat (first | exact Upd.here | apply Upd.there))) (hn : PutL cs off vs cs2 := by (repeat (first | (with_reducible exact PutL.nil _) | (with_reducible apply PutL.put) | (with_reducible apply PutL.skip)))) (hl : off + s ≤ cs.length := by (first | (simp; done) | (show _ < 10; omega) | (show _ < 5; omega) | (show _ ≤ 10; omega) | omega)) (h1 : vs.all (·.oneCell') = true := by rfl)
    (h : ∀ w', Own M w0 X' R S w' → wpList P ops Q rest (a.put o.dst undef) w') : wpList P ops Q (o :: rest) a w := by
  have := hn.eq
  subst this
  exact own_store hO hw ho hx hy ht hs hu hl h1 h
theorem own_st1p (hO : Own M w0 X R S w) (hw : Region.wanted o (yielded ops a.tmps) = true := by rfl) {t : TypeId} {x y : Operand} (ho : o.op = .store t x y := by rfl) {n off : Nat} (hx : a.eval x = .pointer (some ⟨n, off, none⟩) := by rfl)
    {v : Value} (hy : a.eval y = v := by (first | exact (rfl : _ = Value.int _ _) | exact (rfl : _ = Value.bool _) | exact (rfl : _ = Value.slice _ _ _) | exact (rfl : _ = Value.pointer _) | exact (rfl : _ = Value.string _))) (ht : OneT P t := by (with_reducible (first | exact one_u32 | exact one_int | exact one_u16 | exact one_u8 | exact one_ints | exact one_bool | exact one_bytes | exact one_u64 | exact one_set))) {cs cs2 : List Value} {t' : TypeId} (hu : Upd X ⟨n, cs, t'⟩ ⟨n, cs2, t'⟩ X' := by (repeat (first | exact Upd.here | apply Upd.there))) (hn : PutL cs off [v] cs2 := by (repeat (first | (with_reducible exact PutL.nil _) | (with_reducible apply PutL.put) | (with_reducible apply PutL.skip)))) (hl : off < cs.length := by (first | (simp; done) | (show _ < 10; omega) | (show _ < 5; omega) | (show _ ≤ 10; omega) | omega)) (h1 : v.oneCell' = true := by rfl)
    (h : ∀ w', Own M w0 X' R S w' → wpList P ops Q rest (a.put o.dst undef) w') : wpList P ops Q (o :: rest) a w := by
  have e : cs.set off v = cs2 := hn.eq
  subst e
  exact own_store1 hO hw ho hx hy ht hu hl h1 h
end
/-- some cells of a list, cell by cell -/
inductive TakeL : List Value → Nat → Nat → List Value → Prop
  | nil (cs : List Value) : TakeL cs 0 0 []
  | take {c : Value} {cs vs : List Value} {s : Nat} (h : TakeL cs 0 s vs) : TakeL (c :: cs) 0 (s + 1) (c :: vs)
  | skip {c : Value} {cs vs : List Value} {n s : Nat} (h : TakeL cs n s vs) : TakeL (c :: cs) (n + 1) s vs
theorem TakeL.eq {cs vs : List Value} {n s : Nat} (h : TakeL cs n s vs) : vs.length = s ∧ (cs.drop n).take vs.length = vs := by
  induction h with
  | nil cs => exact ⟨rfl, by simp⟩
  | take _ ih => exact ⟨by simp [ih.1], by simpa using ih.2⟩
  | skip _ ih => exact ⟨ih.1, by simpa using ih.2⟩
section
variable {P : Program} {ops : Array Oper} {rest : List Oper} {o : Oper} {a : Act} {w w0 w' : World} {Q : Exit → Act → World → Prop} {M : List Nat} {X X' : List Chunk} {R : List Row} {S : List Ro}
theorem own_ldP (hO : Own M w0 X R S w) (hw : Region.wanted o (yielded ops a.tmps) = true := by rfl) {t : TypeId} {x : Operand} (ho : o.op = .load t x := by rfl) {n off s : Nat} (hx : a.eval x = .pointer (some ⟨n, off, none⟩) := by rfl)
    (ht : RowT P t s := by (with_reducible (first | exact row_Box | exact row_Range | exact row_Header | exact row_Five | exact row_Tape | exact row_Prefix | exact row_Truths | exact row_Packet))) {cs vs : List Value} {t' : TypeId} (hm : (⟨n, cs, t'⟩ : Chunk) ∈ X := by (repeat (first | exact List.mem_cons_self | refine List.mem_cons_of_mem _ ?_))) (hv : TakeL cs off s vs := by (repeat (first | (with_reducible exact TakeL.nil _) | (with_reducible apply TakeL.take) | (with_reducible apply TakeL.skip))))
    (h : wpList P ops Q rest (a.put o.dst (.agg vs.toArray)) w) : wpList P ops Q (o :: rest) a w :=
  own_load hO hw ho hx ht hm hv.eq.2 hv.eq.1 h
end
end Go.Proofs.YtnhjcbmlplfpmaaDoor
