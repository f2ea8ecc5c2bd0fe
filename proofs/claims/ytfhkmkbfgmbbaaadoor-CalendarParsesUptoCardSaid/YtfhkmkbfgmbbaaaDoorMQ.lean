/- The tape's texts: []byte of a string, one store or append, and back. -/
import Derived.Deep.AppendSrc
import Derived.Laws.IdiomStrings
import Derived.Deep.DeepCutAuto
import Derived.Test.YtfhkmkbfgmbbaaaDoorMC
import Derived.Test.YtfhkmkbfgmbbaaaDoorMB
namespace Go.Proofs.YtfhkmkbfgmbbaaaDoor
open Go.RowKit
set_option maxRecDepth 100000
theorem one_u8K : OneT Tryd.prog 5 := ⟨_, Tryd.underlying5, rfl, by kernel_rfl⟩
theorem bcK_len (l : List Int) : (bcK l).length = l.length := by simp [bcK]
theorem bcK_one (l : List Int) : ∀ u ∈ bcK l, u.oneCell' = true := fun u hu => by
  obtain ⟨_, _, rfl⟩ := List.mem_map.1 hu
  rfl
/-- a block of bytes that may be written -/
structure BRow (w : World) (g : Nat) (F : List Int) : Prop where
  rd : w.rangeAt g 0 (bcK F)
  th : w.there g 0 F.length
  lt : g < w.heap.size
theorem rangeAt_blk {w w' : World} {g o : Nat} {xs : List Value} (h : w.rangeAt g o xs) (hb : w'.heap[g]? = w.heap[g]?) : w'.rangeAt g o xs := fun j v hv => by
  rw [World.cell?_of_block (w := w) (a := ⟨g, o + j, none⟩) hb]
  exact h j v hv
theorem there_blk {w w' : World} {g o n : Nat} (h : w.there g o n) (hb : w'.heap[g]? = w.heap[g]?) : w'.there g o n := fun j hj => by
  obtain ⟨h1, h2⟩ := h j hj
  refine ⟨by rw [World.cell?_of_block (w := w) (a := ⟨g, o + j, none⟩) hb]; exact h1, ?_⟩
  unfold World.frozen? at *
  rw [show w'.heap[(⟨g, o + j, none⟩ : Addr).block]? = w.heap[(⟨g, o + j, none⟩ : Addr).block]? from hb]
  exact h2
theorem BRow.keep {w w' : World} {g : Nat} {F : List Int} {M : List Nat} (h : BRow w g F) (hk : Keep M w w') (hn : g ∉ M) : BRow w' g F :=
  have hb := hk.block g h.lt hn
  ⟨rangeAt_blk h.rd hb, there_blk h.th hb, Nat.lt_of_lt_of_le h.lt hk.size⟩
theorem keep_setCells (g : Nat) : ∀ (vs : List Value) (o : Nat) (w : World), Keep [g] w (w.setCells g o vs)
  | [], _, _ => Keep.refl _ _
  | v :: r, o, w => by
    rw [World.setCells]
    refine Keep.trans ?_ (keep_setCells g r (o + 1) _)
    exact ⟨rfl, rfl, rfl, by simp [World.setCell], fun k _ hn => heap_setCell_other _ _ _ _ (by simpa using hn)⟩
theorem keep_allocB (M : List Nat) (w : World) (o : Obj) : Keep M w (w.drew.alloc o) := ⟨rfl, rfl, rfl, by simp, fun k hk _ => Below.heap_alloc w.drew o k hk⟩
section
variable {M : List Nat} {w0 w w' : World} {X : List Chunk} {S : List Ro}
/-- a store into a new block that is none of the call's exclusive ones -/
theorem Own.scrib (hO : Own M w0 X [] S w) {g : Nat} (hk : Keep [g] w w') (h1 : g ∉ excl X []) (h2 : ∀ s ∈ S, s.xs ≠ [] → s.g ≠ g) (h3 : w0.heap.size ≤ g) : Own M w0 X [] S w' := by
  refine ⟨⟨hk.os.trans hO.keep.os, hk.tape.trans hO.keep.tape, hk.output.trans hO.keep.output, Nat.le_trans hO.keep.size hk.size, fun k hl hm => ?_⟩, fun c hc => ?_, fun r hr => (by cases hr), fun s hs => ?_, hO.nd, hO.free, hO.apart⟩
  · rw [hk.block k (Nat.lt_of_lt_of_le hl hO.keep.size) (by simp; omega)]
    exact hO.keep.block k hl hm
  · have h := hO.chunk c hc
    unfold Blk
    rw [hk.block c.n h.lt (by
      intro e
      obtain rfl := List.mem_singleton.1 e
      exact h1 (List.mem_append.2 (.inl (List.mem_map.2 ⟨_, hc, rfl⟩))))]
    exact h
  · intro j v hv
    have hne : s.xs ≠ [] := by intro e; rw [e] at hv; cases hv
    exact rangeAt_blk (hO.ro s hs) (hk.block _ (ro_lt (hO.ro s hs) hne) (by simpa using h2 s hs hne)) j v hv
theorem Own.unroot {wB : World} (hO : Own M wB X [] S w) (hk : Keep M w0 wB) : Own M w0 X [] S w :=
  ⟨hk.trans hO.keep, hO.chunk, hO.row, hO.ro, hO.nd, fun n hn => (hO.free n hn).imp id fun h => Nat.le_trans hk.size h, hO.apart⟩
end
theorem run_apB (w : World) (ty : TypeId) {b sLen sCap g o m c : Nat} {F N : List Int} (hB : BRow w b F) (hF : F.length = sCap) (hl : sLen ≤ sCap) (hN : N.length = m) (hr : w.rangeAt g o (bcK N)) (hsz : sLen + m ≤ 1000000) :
    ∃ g' cap' w', (Builtin.append_ #[56, 56] ty #[.slice (some ⟨b, 0, none⟩) sLen sCap, .slice (some ⟨g, o, none⟩) m c]).run Tryd.prog w = .ok (.slice (some ⟨g', 0, none⟩) (sLen + m) cap') w' ∧
      w'.rangeAt g' 0 (bcK (F.take sLen ++ N)) ∧ Keep [b] w w' := by
  obtain ⟨hu, -, i, z, hi, hz, hi1, hi2, -⟩ := slice_u8
  have hadd : ∀ w : World, w.rangeAt g o (bcK N) → ∀ j u, (bcK N)[j]? = some u → w.cell? ((⟨g, o, none⟩ : Addr).add j) = some u := fun w h j u hj => by
    rw [Addr.add_mid]
    exact h j u hj
  have hS : Src Tryd.prog i.size 56 (.slice (some ⟨g, o, none⟩) m c) m (bcK N) w := Src.ofSlice w hu _ m c _ (by rw [bcK_len, hi1, hN]; omega) (hadd w hr) (bcK_one N)
  by_cases hroom : sLen + m ≤ sCap
  · have hle : ∀ j, j < (bcK N).length → (w.cell? ⟨b, 0 + sLen * i.size + j, none⟩).isSome = true ∧ w.frozen? ⟨b, 0 + sLen * i.size + j, none⟩ = false := fun j hj => by
      rw [bcK_len] at hj
      have := hB.th (sLen + j) (by omega)
      rw [hi1, Nat.mul_one, Nat.zero_add]
      rwa [Nat.zero_add] at this
    refine ⟨b, sCap, _, run_append_room_src w _ _ ty _ i hu hi b 0 sLen sCap _ m _ hS hroom (fun j hj => (hle j hj).1) (fun j hj => (hle j hj).2), ?_, keep_setCells b _ _ w⟩
    rw [hi1, Nat.mul_one, Nat.zero_add]
    have ht : w.there b sLen (bcK N).length := fun j hj => by
      have := hle j hj
      rwa [hi1, Nat.mul_one, Nat.zero_add] at this
    intro j v hv
    rw [show bcK (F.take sLen ++ N) = bcK (F.take sLen) ++ bcK N by simp [bcK]] at hv
    have hlen : (bcK (F.take sLen)).length = sLen := by rw [bcK_len, List.length_take]; omega
    rcases Nat.lt_or_ge j sLen with h | h
    · rw [List.getElem?_append_left (by omega)] at hv
      rw [World.cell?_setCells_out b _ _ w _ (fun _ _ => .inl (by show 0 + j < sLen; omega))]
      refine hB.rd j v ?_
      rw [show bcK F = bcK (F.take sLen ++ F.drop sLen) by rw [List.take_append_drop], show bcK (F.take sLen ++ F.drop sLen) = bcK (F.take sLen) ++ bcK (F.drop sLen) by simp [bcK], List.getElem?_append_left (by omega)]
      exact hv
    · rw [List.getElem?_append_right (by omega), hlen] at hv
      have := World.rangeAt_setCells_same w b sLen (bcK N) ht (j - sLen) v hv
      rwa [show sLen + (j - sLen) = 0 + j by omega] at this
  · have hold : (Builtin.firstCells i.size sLen (.slice (some ⟨b, 0, none⟩) sLen sCap)).run Tryd.prog w.drew = .ok (bcK (F.take sLen)).toArray w.drew :=
      run_firstCells_some w.drew i.size sLen ⟨b, 0, none⟩ sLen sCap _ (by rw [bcK_len, hi1, List.length_take]; omega) (fun j u hj => by
        rw [Addr.add_mid]
        show w.cell? ⟨b, 0 + j, none⟩ = some u
        refine hB.rd j u ?_
        have hlt : j < sLen := by
          have := (List.getElem?_eq_some_iff.1 hj).1
          rw [bcK_len, List.length_take] at this
          omega
        rw [show bcK F = bcK (F.take sLen ++ F.drop sLen) by rw [List.take_append_drop], show bcK (F.take sLen ++ F.drop sLen) = bcK (F.take sLen) ++ bcK (F.drop sLen) by simp [bcK], List.getElem?_append_left (by rw [bcK_len, List.length_take]; omega)]
        exact hj)
    have hcap : Builtin.nextslicecap (sLen + m) sCap ≤ 2 * (sLen + m) := nextslicecap_le (by omega)
    refine ⟨w.heap.size, _, _, run_append_grow_src w _ _ ty _ i z hu hi hz _ sLen sCap _ hold _ m _ hS (by omega) (by omega) (by rw [hi2]; omega), ?_, keep_allocB _ w _⟩
    intro j v hv
    rw [cell_of_row (w.drew.alloc _) w.heap.size (0 + j) _ _ _ (heap_alloc_new w.drew _)]
    rw [show bcK (F.take sLen ++ N) = bcK (F.take sLen) ++ bcK N by simp [bcK]] at hv
    have hj := (List.getElem?_eq_some_iff.1 hv).1
    rw [Nat.zero_add, Array.getElem?_append_left (by simpa using hj)]
    simpa using hv
section
variable {ops : Array Oper} {rest : List Oper} {o : Oper} {a : Act} {Q : Exit → Act → World → Prop} {w : World} {M : List Nat} {w0 : World} {X : List Chunk} {S : List Ro}
theorem is_cvB {d ty pos af g x} (h : wpList Tryd.prog ops Q (⟨d, .convert 9 56 x, ty, pos, af, g⟩ :: rest) a w) : wpList Tryd.prog ops Q (⟨d, .convert 9 56 x, ty, pos, af, g⟩ :: rest) a w := h
theorem own_cvB (hO : Own M w0 X [] S w) (hgd : o.guard = none) {x : Operand} (ho : o.op = .convert 9 56 x) {s : Bs} (hx : a.eval x = .string ⟨s.toArray⟩)
    (h : ∀ cap F wB, Own M w0 X [] S wB → BRow wB w.heap.size F → F.length = cap → s.length ≤ cap → w0.heap.size ≤ w.heap.size → w.heap.size ∉ excl X [] → (∀ t ∈ S, t.xs ≠ [] → t.g ≠ w.heap.size) → wpList Tryd.prog ops Q rest (a.put o.dst (.slice (some ⟨w.heap.size, 0, none⟩) s.length cap)) wB) : wpList Tryd.prog ops Q (o :: rest) a w := by
  have run := run_bytes_of_string (P := Tryd.prog) w 9 56 5 ⟨s.toArray⟩ Tryd.underlying9 Tryd.underlying56 Tryd.underlying5
  refine wpList_plain hgd fun K hK => ?_
  unfold Oper.wp execOp
  simp only [ho, hx, Sem.run_bind, Sem.run_pure, Result.andThen_ok, run]
  refine hK _ _ ?_
  have hge := grownCap_ge w s.length 0 5
  rw [show (⟨s.toArray⟩ : ByteArray).size = s.length from by simp [ByteArray.size]]
  generalize grownCap w s.length 0 5 = cap at *
  have hrow : bytesRow ⟨s.toArray⟩ cap = (bcK (s.map (fun b => (b.toNat : Int)) ++ List.replicate (cap - s.length) 0)).toArray := by
    unfold bytesRow bcK
    rw [show (⟨s.toArray⟩ : ByteArray).size = s.length from by simp [ByteArray.size]]
    apply Array.ext'
    simp
  rw [hrow]
  generalize hFF : s.map (fun b => (b.toNat : Int)) ++ List.replicate (cap - s.length) 0 = F
  have hFl : F.length = cap := by rw [← hFF]; simp; omega
  clear hrow run
  refine h cap F _ (hO.frame rfl rfl rfl (by simp) fun k hk => Below.heap_alloc _ _ _ hk) ⟨?_, ?_, by simp⟩ hFl hge hO.keep.size (fun hm => Nat.lt_irrefl _ (hO.lt _ hm)) (fun t ht hne e => Nat.lt_irrefl _ (e ▸ ro_lt (hO.ro t ht) hne))
  · intro j v hv
    rw [cell_of_row (w.drew.alloc _) w.heap.size (0 + j) _ _ _ (heap_alloc_new w.drew _), Nat.zero_add]
    simpa using hv
  · intro j hj
    refine ⟨?_, ?_⟩
    · rw [cell_of_row (w.drew.alloc _) w.heap.size (0 + j) _ _ _ (heap_alloc_new w.drew _), Nat.zero_add]
      simp [bcK, hj]
    · unfold World.frozen?
      rw [show (w.drew.alloc _).heap[(⟨w.heap.size, 0 + j, none⟩ : Addr).block]? = _ from heap_alloc_new w.drew _]
      simp [bcK]
      omega
theorem own_stB (hO : Own M w0 X [] S w) (hw : Region.wanted o (yielded ops a.tmps) = true) {x y : Operand} (ho : o.op = .store 5 x y) {g off : Nat} (hx : a.eval x = .pointer (some ⟨g, off, none⟩)) {c : Int} (hy : a.eval y = .int .u8 c)
    {F : List Int} (hB : BRow w g F) (hl : off < F.length) (h1 : g ∉ excl X []) (h2 : ∀ s ∈ S, s.xs ≠ [] → s.g ≠ g) (h3 : w0.heap.size ≤ g)
    (h : ∀ w', Own M w0 X [] S w' → w'.rangeAt g 0 (bcK (F.set off c)) → wpList Tryd.prog ops Q rest (a.put o.dst undef) w') : wpList Tryd.prog ops Q (o :: rest) a w := by
  have ht := hB.th off hl
  rw [Nat.zero_add] at ht
  obtain ⟨u, hu⟩ := Option.isSome_iff_exists.1 ht.1
  refine wpList_skp hw _ (rx_store1 ho hx hy one_u8K ht.1 ht.2 rfl) (h _ (hO.scrib (g := g) (keep_setCells g [.int .u8 c] off w) h1 h2 h3) ?_)
  intro j v hv
  rw [show bcK (F.set off c) = (bcK F).set off (.int .u8 c) by simp [bcK]] at hv
  rw [List.getElem?_set] at hv
  by_cases e : off = j
  · subst e
    rw [if_pos rfl, if_pos (by rw [bcK_len]; exact hl)] at hv
    cases hv
    rw [Nat.zero_add]
    exact World.cell?_setCell_same _ _ _ hu
  · rw [if_neg e] at hv
    rw [World.cell?_setCell_other _ _ _ _ (by intro e2; cases e2; omega)]
    exact hB.rd j v hv
theorem own_apB (hO : Own M w0 X [] S w) (hgd : o.guard = none) {s x : Operand} (ho : o.op = .call { callee := .builtin .append, args := #[s, x], argTypes := #[56, 56] }) {b sLen sCap g off m c : Nat} (hs : a.eval s = .slice (some ⟨b, 0, none⟩) sLen sCap) (hx : a.eval x = .slice (some ⟨g, off, none⟩) m c)
    {F N : List Int} (hB : BRow w b F) (hF : F.length = sCap) (hl : sLen ≤ sCap) (hN : N.length = m) (hr : w.rangeAt g off (bcK N)) (hsz : sLen + m ≤ 1000000) (h1 : b ∉ excl X []) (h2 : ∀ s ∈ S, s.xs ≠ [] → s.g ≠ b) (h3 : w0.heap.size ≤ b)
    (h : ∀ g' cap' w', Own M w0 X [] S w' → w'.rangeAt g' 0 (bcK (F.take sLen ++ N)) → Keep [b] w w' → wpList Tryd.prog ops Q rest (a.put o.dst (.slice (some ⟨g', 0, none⟩) (sLen + m) cap')) w') : wpList Tryd.prog ops Q (o :: rest) a w := by
  obtain ⟨g', cap', w', r1, r2, r3⟩ := run_apB w o.type (c := c) hB hF hl hN hr hsz
  refine wpList_plain hgd fun K hK => ?_
  unfold Oper.wp execOp
  simp only [ho, resolve, invoke, builtin, Sem.run_bind, Sem.run_pure, Result.andThen_ok, List.map_toArray, List.map_cons, List.map_nil, hs, hx, r1]
  exact hK _ _ (h g' cap' w' (hO.scrib r3 h1 h2 h3) r2 r3)
end
end Go.Proofs.YtfhkmkbfgmbbaaaDoor

/- Tape.Text: the walk. -/
namespace Go.Proofs.YtfhkmkbfgmbbaaaDoor
open Go.RowKit
set_option maxRecDepth 100000
def txC : List Value := [.int .u8 32, .int .u8 44, .int .u8 61, .int .u8 45, .int .u8 48, .int .u8 57, .int .u8 97, .int .u8 35, .int .u8 10, .int .u8 47, .int .u8 46, .int .u8 0, .int .u8 128, .int .u8 58, .int .u8 62]
theorem tx_cell {a : Nat} (h : a < 15) : ∃ x : Int, txC[a]? = some (.int .u8 x) := by
  rcases (show a = 0 ∨ a = 1 ∨ a = 2 ∨ a = 3 ∨ a = 4 ∨ a = 5 ∨ a = 6 ∨ a = 7 ∨ a = 8 ∨ a = 9 ∨ a = 10 ∨ a = 11 ∨ a = 12 ∨ a = 13 ∨ a = 14 by omega) with rfl | rfl | rfl | rfl | rfl | rfl | rfl | rfl | rfl | rfl | rfl | rfl | rfl | rfl | rfl <;> exact ⟨_, rfl⟩
theorem BRow.part {w : World} {g : Nat} {F : List Int} (h : BRow w g F) (a b : Nat) : w.rangeAt g a (bcK ((F.take b).drop a)) := fun j v hv => by
  refine (show (⟨g, a + j, none⟩ : Addr) = ⟨g, 0 + (a + j), none⟩ by rw [Nat.zero_add]) ▸ h.rd (a + j) v ?_
  have hj := (List.getElem?_eq_some_iff.1 hv).1
  rw [bcK_len, List.length_drop, List.length_take] at hj
  unfold bcK at *
  rw [List.map_drop, List.map_take, List.getElem?_drop, List.getElem?_take_of_lt (by omega)] at hv
  exact hv
theorem brow_chunk {M : List Nat} {w0 w : World} {X : List Chunk} {R : List Row} {S : List Ro} (hO : Own M w0 X R S w) {n : Nat} {F : List Int} {t : TypeId} (hm : (⟨n, bcK F, t⟩ : Chunk) ∈ X) : BRow w n F :=
  have h := hO.chunk _ hm
  ⟨own_chunkAt hO hm, fun j hj => ⟨by rw [h.cell (0 + j)]; simp [bcK, hj], h.free _⟩, h.lt⟩
theorem range_take {w : World} {g : Nat} {F : List Int} (h : w.rangeAt g 0 (bcK F)) (k : Nat) : w.rangeAt g 0 (bcK (F.take k)) := fun j v hv => by
  refine h j v ?_
  have hj := (List.getElem?_eq_some_iff.1 hv).1
  rw [bcK_len, List.length_take] at hj
  unfold bcK at *
  rw [List.map_take, List.getElem?_take_of_lt (by omega)] at hv
  exact hv
theorem ins_facts {w0 w : World} {n n2 : Nat} {c : Int} {t t2 : TypeId} {cs : List Value} {S : List Ro} (hO : Own [n] w0 [⟨n2, [.int .u8 c], t⟩, ⟨n, cs, t2⟩] [] S w) :
    BRow w n2 [c] ∧ n2 ∉ excl [⟨n, cs, t2⟩] [] ∧ (∀ s ∈ S, s.xs ≠ [] → s.g ≠ n2) ∧ w0.heap.size ≤ n2 ∧ Own [n] w0 [⟨n, cs, t2⟩] [] S w := by
  have h1 : n2 ∉ excl [⟨n, cs, t2⟩] [] := (List.nodup_cons.1 hO.nd).1
  refine ⟨brow_chunk (F := [c]) hO List.mem_cons_self, h1, fun s hs hne e => hO.apart s hs hne (e ▸ List.mem_cons_self), ?_, hO.sub (.cons _ (.refl _)) (.refl _) (fun _ h => h)⟩
  rcases hO.free n2 List.mem_cons_self with h | h
  · exact absurd h h1
  · exact h
theorem txt_out {len : Nat} {l : List Int} (h : l.length ≤ len + 1) : ∃ y : Bs, Value.string ⟨(bsK l).toArray⟩ = .string ⟨y.toArray⟩ ∧ y.length ≤ len + 1 := ⟨bsK l, rfl, by rw [bsK, List.length_map]; exact h⟩
set_option maxHeartbeats 8000000 in
theorem text_any {w : World} {n : Nat} {sl : Value} {zs : List Int} {i : Nat} (hZ : ZsOk sl zs) (hT : TapeIn w n sl zs i) (x : Bs) (hx : x.length ≤ 1000) :
    Calls Tryd.prog 11 #[.pointer (some ⟨n, 0, none⟩), .string ⟨x.toArray⟩] w (TPost w n sl zs fun v _ => ∃ y : Bs, v = .string ⟨y.toArray⟩ ∧ y.length ≤ x.length + 1) := by
  have hO := own_tape hT
  have hnw := hT.blk.lt
  obtain ⟨sa, sc, rfl, -⟩ := hZ.view
  generalize hX : x.length = len at *
  go_enter Tryd.func11, Tryd.ntmps11
  go_upto_region 5 with (first | ((with_reducible refine is_load ?_); (refine own_ldV (h := ?_))) | ((with_reducible refine is_cvB ?_); (refine own_cvB hO (by rfl) rfl rfl ?_); rw [hX]; intro cap F wB hO9 hB hFc hlc hg h1 h2; clear hO; have hO := hO9; clear hO9; have hK0 := hO.keep; have hT9 := hO.tapeIn List.mem_cons_self (fun _ h => h) hT.le; clear hT; have hT := hT9; clear hT9; replace hO := own_tape hT) | ((fail_if_success (have := p0)); (go_at_call 19; (with_reducible refine (next_any (len : Int) hZ (hO.tapeIn List.mem_cons_self (fun _ h => h) hT.le) (by omega)).mono ?_); rintro e wv ⟨v, i1, rfl, ⟨p0, rfl, p1, p2⟩, hk9, hT1⟩; replace hO := hO.after (by (repeat (exact Upd.here))) hk9 hT1.blk; replace hT := hT1; clear hT1 hk9)) | ((with_reducible refine is_build ?_); (refine' own_buildP (o := ⟨some 14, _, _, _, _, _⟩) [.int .u8 32, .int .u8 44, .int .u8 61, .int .u8 45, .int .u8 48, .int .u8 57, .int .u8 97, .int .u8 35, .int .u8 10, .int .u8 47, .int .u8 46, .int .u8 0, .int .u8 128, .int .u8 58, .int .u8 62] hO (by rfl) rfl slice_u8 rfl rfl (by rfl) (by decide) (by decide) ?_); clear hO; intro n14 wv hO) | ((fail_if_success (have := p5)); (go_at_call 19; (with_reducible refine (next_pos 15 hZ (hO.tapeIn (by (repeat (first | exact List.mem_cons_self | refine List.mem_cons_of_mem _ ?_))) (fun _ h => h) hT.le) (by omega) (by omega)).mono ?_); rintro e wv ⟨v, i5, rfl, ⟨p5, rfl, p50, p51⟩, hk9, hT1⟩; replace hO := hO.after (by (repeat (first | exact Upd.here | apply Upd.there))) hk9 hT1.blk; replace hT := hT1; clear hT1 hk9; obtain ⟨k5, rfl⟩ : ∃ k : Nat, p5 = k := ⟨p5.toNat, by omega⟩; obtain ⟨c, hc0⟩ := tx_cell (a := k5) (by omega))) | ((fail_if_success (have := p7)); (go_at_call 19; (with_reducible refine (next_pos 5 hZ (hO.tapeIn (by (repeat (first | exact List.mem_cons_self | refine List.mem_cons_of_mem _ ?_))) (fun _ h => h) hT.le) (by omega) (by omega)).mono ?_); rintro e wv ⟨v, i7, rfl, ⟨p7, rfl, p70, p71⟩, hk9, hT1⟩; replace hO := hO.after (by (repeat (first | exact Upd.here | apply Upd.there))) hk9 hT1.blk; replace hT := hT1; clear hT1 hk9)))
  have hgn : w.heap.size ∉ [n] := by simp; omega
  have hBw := hB.keep hO.keep hgn
  have hgw := hBw.lt
  have hK9 := hK0.trans hO.keep
  have hT9 := own_tape hT
  clear hB hK0 hO hX hc0 p50 p51
  have hgx : w.heap.size ∉ excl [⟨n, tcs (.slice sa zs.length sc) i7, 54⟩] [] := h1
  clear h1
  have hO := hT9
  obtain ⟨p, rfl⟩ : ∃ k : Nat, p0 = k := ⟨p0.toNat, by omega⟩
  have hp2 : p ≤ len := by omega
  have hp3 : p < len ∨ p = 0 := by omega
  clear p1 p2
  obtain ⟨g, hgg⟩ : ∃ g, w.heap.size = g := ⟨_, rfl⟩
  rw [hgg] at hgn hBw hgw hgx h2 hg
  rw [hgg]
  replace hg : w.heap.size ≤ g := by omega
  have hng : n < g := by omega
  clear hgg hnw
  have s1 : IntKind.i64.wrap ((p : Int) + 1) = (p : Int) + 1 := IntWalk.i64_in _ (by omega)
  rcases (show p7 = 0 ∨ p7 = 1 ∨ p7 = 2 ∨ p7 = 3 ∨ p7 = 4 by omega) with rfl | rfl | rfl | rfl | rfl
  · clear hT9
    by_cases h0 : 0 < len
    · have g1 : decide ((len : Int) > 0) = true := decide_eq_true (by omega)
      go_wp2_with (first | ((with_reducible refine is_store ?_); (refine own_stB (hO.unroot hK9) (by rfl) rfl rfl rfl (hBw.keep hO.keep hgn) (by omega) hgx h2 hg ?_); clear hO; intro wv hO hR1) | ((with_reducible refine is_convK ?_); (refine own_convK (l := (F.set p c).take len) (by rfl) rfl rfl (range_take hR1 len) (by simp <;> omega) ?_)))
      go_ret
      exact tpost hO List.mem_cons_self (fun _ h => h) hT.le (txt_out (by simp <;> omega))
    · have g1 : decide ((len : Int) > 0) = false := decide_eq_false (by omega)
      go_wp2_with ((with_reducible refine is_convK ?_); (refine own_convK (l := F.take len) (by rfl) rfl rfl ((hBw.keep hO.keep hgn).part 0 len) (by simp <;> omega) ?_))
      go_ret
      exact (have hO := hO.unroot hK9; tpost hO List.mem_cons_self (fun _ h => h) hT.le (txt_out (by simp <;> omega)))
  · clear hT9
    by_cases h0 : 0 < len
    · have g1 : decide ((len : Int) > 0) = true := decide_eq_true (by omega)
      by_cases e9 : cap = p + 1
      · subst e9
        obtain rfl : len = p + 1 := by omega
        go_wp2_with fail
        refine wp_region_any (by kernel_rfl) ?_
        replace hO := hO.drew
        have ix9 := Ix.mk [0, 1, 2, 3, 4, 5, 6]
        iterate 7 (refine wpAny_tk ix9 ?_; replace ix9 := ix9.tail; (first | go_big_quiet_skip | (go_big_quiet_want; (go_big_quiet_op; (first | go_big_quiet_on | ((refine ⟨_, fun _ _ => rfl, ?_⟩); go_big_quiet_on))))); (refine wpQuiet_nil ?_); (try simp only [Act.put]); (try simp only [List.setIfInBounds_toArray, List.set_cons_zero, List.set_cons_succ]))
        clear ix9
        refine wpAny_all (rs := [7]) (by kernel_rfl) (by simp) (ord_cons ?_ ord_nil)
        rotate_left 1
        all_goals
          refine wpOp_of_listL rfl ?_
          ((refine wpList_step (fun K hK => ?_)); go_simp; ((refine hK _ _ ?_); clear hK K))
          refine wpList_done (qk_intro ?_)
        refine wpAny_all (rs := [8]) (by kernel_rfl) (by simp) (ord_cons ?_ ord_nil)
        rotate_left 1
        all_goals
          refine wpOp_of_listL rfl ?_
          ((refine wpList_step (fun K hK => ?_)); go_simp; ((refine hK _ _ ?_); clear hK K))
          refine wpList_done (qk_intro ?_)
        refine wpAny_done (by kernel_rfl) ?_ _
        rotate_left
        all_goals
          go_wp2_with ((with_reducible refine is_convK ?_); (refine own_convK (l := F.take p) (by rfl) rfl rfl ((hBw.keep hO.keep hgn).part 0 p) (by simp <;> omega) ?_))
          go_ret
          exact (have hO := hO.unroot hK9; tpost hO List.mem_cons_self (fun _ h => h) hT.le (txt_out (by simp <;> omega)))
      · go_wp2_with fail
        refine wp_region_any (by kernel_rfl) ?_
        replace hO := hO.drew
        have ix9 := Ix.mk [0, 1, 2, 3, 4, 5, 6]
        iterate 7 (refine wpAny_tk ix9 ?_; replace ix9 := ix9.tail; (first | go_big_quiet_skip | (go_big_quiet_want; (go_big_quiet_op; (first | go_big_quiet_on | ((refine ⟨_, fun _ _ => rfl, ?_⟩); go_big_quiet_on))))); (refine wpQuiet_nil ?_); (try simp only [Act.put]); (try simp only [List.setIfInBounds_toArray, List.set_cons_zero, List.set_cons_succ]))
        clear ix9
        refine wpAny_all (rs := [7]) (by kernel_rfl) (by simp) (ord_cons ?_ ord_nil)
        rotate_left 1
        all_goals
          refine wpOp_of_listL rfl ?_
          ((with_reducible refine is_append ?_); (refine own_apB (hO.unroot hK9) (by rfl) rfl rfl rfl (hBw.keep hO.keep hgn) (by omega) (by omega) (N := (F.take len).drop (p + 1)) (by simp <;> omega) ((hBw.keep hO.keep hgn).part (p + 1) len) (by omega) hgx h2 hg ?_); clear hO; intro g1 cap1 wv hO hR1 hk1; clear hk1); (try simp only [Act.put]); (try simp only [List.setIfInBounds_toArray, List.set_cons_zero, List.set_cons_succ])
          refine wpList_done (qk_intro ?_)
        refine wpAny_all (rs := [8]) (by kernel_rfl) (by simp) (ord_cons ?_ ord_nil)
        rotate_left 1
        all_goals
          refine wpOp_of_listL rfl ?_
          ((refine wpList_step (fun K hK => ?_)); go_simp; ((refine hK _ _ ?_); clear hK K))
          refine wpList_done (qk_intro ?_)
        refine wpAny_done (by kernel_rfl) ?_ _
        rotate_left
        all_goals
          go_wp2_with ((with_reducible refine is_convK ?_); (refine own_convK (l := F.take p ++ (F.take len).drop (p + 1)) (by rfl) rfl rfl (hR1) (by simp <;> omega) ?_))
          go_ret
          exact tpost hO List.mem_cons_self (fun _ h => h) hT.le (txt_out (by simp <;> omega))
    · have g1 : decide ((len : Int) > 0) = false := decide_eq_false (by omega)
      go_wp2_with ((with_reducible refine is_convK ?_); (refine own_convK (l := F.take len) (by rfl) rfl rfl ((hBw.keep hO.keep hgn).part 0 len) (by simp <;> omega) ?_))
      go_ret
      exact (have hO := hO.unroot hK9; tpost hO List.mem_cons_self (fun _ h => h) hT.le (txt_out (by simp <;> omega)))
  · clear hT9
    by_cases e9 : cap = p
    · subst e9
      obtain rfl : cap = 0 := by omega
      obtain rfl : len = 0 := by omega
      go_wp2_with fail
      refine wp_region_any (by kernel_rfl) ?_
      replace hO := hO.drew
      have ix9 := Ix.mk [0, 1, 2, 3, 5, 6, 7]
      iterate 7 (refine wpAny_tk ix9 ?_; replace ix9 := ix9.tail; (first | go_big_quiet_skip | (go_big_quiet_want; (go_big_quiet_op; (first | go_big_quiet_on | ((refine ⟨_, fun _ _ => rfl, ?_⟩); go_big_quiet_on))))); (refine wpQuiet_nil ?_); (try simp only [Act.put]); (try simp only [List.setIfInBounds_toArray, List.set_cons_zero, List.set_cons_succ]))
      clear ix9
      refine wpAny_all (rs := [4]) (by kernel_rfl) (by simp) (ord_cons ?_ ord_nil)
      rotate_left 1
      all_goals
        refine wpOp_of_listL rfl ?_
        ((with_reducible refine is_build ?_); (refine' own_buildP (o := ⟨some 49, _, _, _, _, _⟩) [.int .u8 c] hO (by rfl) rfl slice_u8 rfl rfl (by rfl) (by decide) (by decide) ?_); clear hO; intro n49 wv hO); (try simp only [Act.put]); (try simp only [List.setIfInBounds_toArray, List.set_cons_zero, List.set_cons_succ])
        refine wpList_done (qk_intro ?_)
      refine wpAny_all (rs := [8]) (by kernel_rfl) (by simp) (ord_cons ?_ ord_nil)
      rotate_left 1
      all_goals
        refine wpOp_of_listL rfl ?_
        ((refine wpList_step (fun K hK => ?_)); go_simp; ((refine hK _ _ ?_); clear hK K))
        refine wpList_done (qk_intro ?_)
      refine wpAny_all (rs := [9]) (by kernel_rfl) (by simp) (ord_cons ?_ ord_nil)
      rotate_left 1
      all_goals
        refine wpOp_of_listL rfl ?_
        ((with_reducible refine is_append ?_); (obtain ⟨hc2, hx2, hs2, hf2, hO2⟩ := ins_facts hO); (have hB2 := hBw.keep hO.keep hgn); (refine own_apB (hO2.unroot hK9) (by rfl) rfl rfl rfl hB2 (by omega) (by omega) (N := [c]) (by rfl) hc2.rd (by omega) hgx h2 hg ?_); clear hO hO2; intro g2 cap2 wv hO hR2 hk2; clear hB2 hk2 hs2 hx2 hf2 hc2); (try simp only [Act.put]); (try simp only [List.setIfInBounds_toArray, List.set_cons_zero, List.set_cons_succ])
        refine wpList_done (qk_intro ?_)
      refine wpAny_all (rs := [10]) (by kernel_rfl) (by simp) (ord_cons ?_ ord_nil)
      rotate_left 1
      all_goals
        refine wpOp_of_listL rfl ?_
        ((refine wpList_step (fun K hK => ?_)); go_simp; ((refine hK _ _ ?_); clear hK K))
        refine wpList_done (qk_intro ?_)
      refine wpAny_done (by kernel_rfl) ?_ _
      rotate_left
      all_goals
        go_wp2_with ((with_reducible refine is_convK ?_); (refine own_convK (l := F.take 0 ++ [c]) (by rfl) rfl rfl (hR2) (by simp <;> omega) ?_))
        go_ret
        exact tpost hO List.mem_cons_self (fun _ h => h) hT.le (txt_out (by simp <;> omega))
    · go_wp2_with fail
      refine wp_region_any (by kernel_rfl) ?_
      replace hO := hO.drew
      have ix9 := Ix.mk [0, 1, 2, 3, 5, 6, 7]
      iterate 7 (refine wpAny_tk ix9 ?_; replace ix9 := ix9.tail; (first | go_big_quiet_skip | (go_big_quiet_want; (go_big_quiet_op; (first | go_big_quiet_on | ((refine ⟨_, fun _ _ => rfl, ?_⟩); go_big_quiet_on))))); (refine wpQuiet_nil ?_); (try simp only [Act.put]); (try simp only [List.setIfInBounds_toArray, List.set_cons_zero, List.set_cons_succ]))
      clear ix9
      refine wpAny_all (rs := [4]) (by kernel_rfl) (by simp) (ord_cons ?_ ord_nil)
      rotate_left 1
      all_goals
        refine wpOp_of_listL rfl ?_
        ((with_reducible refine is_build ?_); (refine' own_buildP (o := ⟨some 49, _, _, _, _, _⟩) [.int .u8 c] hO (by rfl) rfl slice_u8 rfl rfl (by rfl) (by decide) (by decide) ?_); clear hO; intro n49 wv hO); (try simp only [Act.put]); (try simp only [List.setIfInBounds_toArray, List.set_cons_zero, List.set_cons_succ])
        refine wpList_done (qk_intro ?_)
      refine wpAny_all (rs := [8]) (by kernel_rfl) (by simp) (ord_cons ?_ ord_nil)
      rotate_left 1
      all_goals
        refine wpOp_of_listL rfl ?_
        ((with_reducible refine is_append ?_); (fail_if_success (have := hR1)); (obtain ⟨hc2, hx2, hs2, hf2, hO2⟩ := ins_facts hO); (have hB2 := hBw.keep hO.keep hgn); (refine own_apB hO2 (by rfl) rfl rfl rfl hc2 rfl (by simp) (N := (F.take len).drop p) (by simp <;> omega) (hB2.part p len) (by omega) hx2 hs2 hf2 ?_); clear hO hO2; intro g1 cap1 wv hO hR1 hk1; have hB3 := hB2.keep hk1 (by simp; omega); replace hO := hO.unroot hK9; clear hB2 hk1 hs2 hx2 hf2 hc2); (try simp only [Act.put]); (try simp only [List.setIfInBounds_toArray, List.set_cons_zero, List.set_cons_succ])
        refine wpList_done (qk_intro ?_)
      refine wpAny_all (rs := [9]) (by kernel_rfl) (by simp) (ord_cons ?_ ord_nil)
      rotate_left 1
      all_goals
        refine wpOp_of_listL rfl ?_
        ((with_reducible refine is_append ?_); (fail_if_success (have := hR2)); (refine own_apB hO (by rfl) rfl rfl rfl hB3 (by omega) (by omega) (N := [c] ++ (F.take len).drop p) (by simp <;> omega) hR1 (by omega) hgx h2 hg ?_); clear hO; intro g2 cap2 wv hO hR2 hk2; clear hk2); (try simp only [Act.put]); (try simp only [List.setIfInBounds_toArray, List.set_cons_zero, List.set_cons_succ])
        refine wpList_done (qk_intro ?_)
      refine wpAny_all (rs := [10]) (by kernel_rfl) (by simp) (ord_cons ?_ ord_nil)
      rotate_left 1
      all_goals
        refine wpOp_of_listL rfl ?_
        ((refine wpList_step (fun K hK => ?_)); go_simp; ((refine hK _ _ ?_); clear hK K))
        refine wpList_done (qk_intro ?_)
      refine wpAny_done (by kernel_rfl) ?_ _
      rotate_left
      all_goals
        go_wp2_with ((with_reducible refine is_convK ?_); (refine own_convK (l := F.take p ++ ([c] ++ (F.take len).drop p)) (by rfl) rfl rfl (hR2) (by simp <;> omega) ?_))
        go_ret
        exact tpost hO List.mem_cons_self (fun _ h => h) hT.le (txt_out (by simp <;> omega))
  · clear hT9
    go_wp2_with ((with_reducible refine is_convK ?_); (refine own_convK (l := F.take p) (by rfl) rfl rfl ((hBw.keep hO.keep hgn).part 0 p) (by simp <;> omega) ?_))
    go_ret
    exact (have hO := hO.unroot hK9; tpost hO List.mem_cons_self (fun _ h => h) hT.le (txt_out (by simp <;> omega)))
  · clear hT9
    go_wp2_with ((with_reducible refine is_convK ?_); (refine own_convK (l := F.take len) (by rfl) rfl rfl ((hBw.keep hO.keep hgn).part 0 len) (by simp <;> omega) ?_))
    go_ret
    exact (have hO := hO.unroot hK9; tpost hO List.mem_cons_self (fun _ h => h) hT.le (txt_out (by simp <;> omega)))
end Go.Proofs.YtfhkmkbfgmbbaaaDoor
