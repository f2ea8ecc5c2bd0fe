/- Bytes of packets: reading and writing numbers in them. -/
import Derived.IntWalk
import Derived.Test.YtjfiipbjphabeaaDoorMB
namespace Go.Proofs.YtjfiipbjphabeaaDoor
open Go.RowKit
set_option maxRecDepth 100000

/-- the cells of some bytes -/
def bc (l : List Int) : List Value := l.map (Value.int .u8)
def BOk (l : List Int) : Prop := ∀ x ∈ l, 0 ≤ x ∧ x ≤ 255
/-- a byte at an index -/
def gt (l : List Int) (k : Nat) : Int := l.getD k 0
/-- a slice that reads as these bytes -/
def IsB (w : World) (v : Value) (l : List Int) : Prop := IsCells w v l.length (bc l)
theorem bc_length (l : List Int) : (bc l).length = l.length := by simp [bc]
theorem bc_at {l : List Int} {k : Nat} (h : k < l.length) : (bc l)[k]? = some (.int .u8 (gt l k)) := by
  simp [bc, gt, List.getElem?_map, List.getElem?_eq_getElem h]
theorem gt_bd {l : List Int} (hb : BOk l) (k : Nat) : 0 ≤ gt l k ∧ gt l k ≤ 255 := by
  unfold gt
  rw [List.getD_eq_getElem?_getD]
  rcases Nat.lt_or_ge k l.length with h | h
  · rw [List.getElem?_eq_getElem h]; exact hb _ (List.getElem_mem h)
  · rw [List.getElem?_eq_none h]; simp
theorem bc_set (l : List Int) (k : Nat) (x : Int) : (bc l).set k (.int .u8 x) = bc (l.set k x) := by simp [bc, List.map_set]
theorem IsB.pos {w : World} {v : Value} {l : List Int} (h : IsB w v l) (h0 : 0 < l.length) : ∃ g o c, v = .slice (some ⟨g, o, none⟩) l.length c ∧ l.length ≤ c ∧ Own [] w [] [] [⟨g, o, bc l⟩] w := by
  have hO := own_roC h
  rcases h with ⟨_, h1, _⟩ | ⟨g, o, c, rfl, hc, _⟩
  · omega
  · exact ⟨g, o, c, rfl, hc, hO⟩

def g16 (l : List Int) (k : Nat) : Int := gt l k * 256 + gt l (k + 1)
def g32 (l : List Int) (k : Nat) : Int := g16 l k * 65536 + g16 l (k + 2)
theorem g16_bd {l : List Int} (hb : BOk l) (k : Nat) : 0 ≤ g16 l k ∧ g16 l k ≤ 65535 := by
  have h1 := gt_bd hb k
  have h2 := gt_bd hb (k + 1)
  unfold g16; omega
theorem g32_bd {l : List Int} (hb : BOk l) (k : Nat) : 0 ≤ g32 l k ∧ g32 l k ≤ 4294967295 := by
  have h1 := g16_bd hb k
  have h2 := g16_bd hb (k + 2)
  unfold g32; omega
set_option maxHeartbeats 1000000 in
theorem get16_any {v : Value} {l : List Int} (k : Nat) (w : World) (hv : IsB w v l) (hb : BOk l) (hk : k + 1 < l.length) (hl : l.length ≤ 140737488355328) :
    Calls Tryd.prog 54 #[v, .int .i64 k] w fun e w' => e = .returned (.int .u16 (g16 l k)) ∧ Below w.heap.size w w' := by
  obtain ⟨g, o, c, rfl, hc, hO⟩ := hv.pos (by omega)
  have c1 := bc_at (show k < l.length by omega)
  have c2 := bc_at hk
  obtain ⟨b1, b2⟩ := gt_bd hb k
  obtain ⟨b3, b4⟩ := gt_bd hb (k + 1)
  have E := Lib.hid (show g16 l k = gt l k * 256 + gt l (k + 1) from rfl)
  generalize gt l k = x at *
  generalize gt l (k + 1) = y at *
  have s0 := or_u16 b1 (by omega) b3 (by omega)
  have s1 : IntKind.i64.wrap ((k : Int) + 1) = (k : Int) + 1 := IntWalk.i64_in _ (by omega)
  have s2 : ((k : Int) + 1).toNat = k + 1 := by omega
  clear hb hv
  go_enter Tryd.func54, Tryd.ntmps54
  go_wp2_with (first | ((with_reducible refine is_load ?_); (first | (refine own_ldP hO (h := ?_)) | (refine own_ld (h := ?_)))) | ((with_reducible refine is_store ?_); (first | (refine own_stRp (hO := hO) (h := ?_); clear hO; intro wv hO) | (refine own_st1p (hO := hO) (h := ?_); clear hO; intro wv hO) | (refine own_stR (hO := hO) (h := ?_); clear hO; intro wv hO) | (refine own_st1 (hO := hO) (h := ?_); clear hO; intro wv hO))) | ((with_reducible refine is_load ?_); (refine own_ldW (hO := hO) (h := ?_))) | ((with_reducible refine is_store ?_); (refine own_stW (hO := hO) (h := ?_); clear hO; intro wv hO)))
  (try simp only [Act.put]); (refine own_quiet hO (by kernel_rfl) (by kernel_rfl) ?_; clear hO; (repeat (first | go_big_quiet_skip | (go_big_quiet_want; (first | ((with_reducible refine is_loadQ ?_); (first | (refine q_ldP (h := ?_)) | (refine q_ld (h := ?_))); (try simp only [Act.put]); (try simp only [List.setIfInBounds_toArray, List.set_cons_zero, List.set_cons_succ]); go_big_quiet_on) | (go_big_quiet_op; (first | go_big_quiet_on | ((refine ⟨_, fun _ _ => rfl, ?_⟩); go_big_quiet_on) | go_big_quiet_call (fail))))))); (refine wpQuiet_nil ?_); intro wv hO)
  go_wp2_with (first | ((with_reducible refine is_load ?_); (first | (refine own_ldP hO (h := ?_)) | (refine own_ld (h := ?_)))) | ((with_reducible refine is_store ?_); (first | (refine own_stRp (hO := hO) (h := ?_); clear hO; intro wv hO) | (refine own_st1p (hO := hO) (h := ?_); clear hO; intro wv hO) | (refine own_stR (hO := hO) (h := ?_); clear hO; intro wv hO) | (refine own_st1 (hO := hO) (h := ?_); clear hO; intro wv hO))) | ((with_reducible refine is_load ?_); (refine own_ldW (hO := hO) (h := ?_))) | ((with_reducible refine is_store ?_); (refine own_stW (hO := hO) (h := ?_); clear hO; intro wv hO)))
  go_ret
  exact ⟨ret_int E.out.symm, hO.keep.below⟩
set_option maxHeartbeats 1000000 in
theorem get32_any {v : Value} {l : List Int} (k : Nat) (w : World) (hv : IsB w v l) (hb : BOk l) (hk : k + 3 < l.length) (hl : l.length ≤ 140737488355328) :
    Calls Tryd.prog 55 #[v, .int .i64 k] w fun e w' => e = .returned (.int .u32 (g32 l k)) ∧ Below w.heap.size w w' := by
  have hO := own_start [] w
  obtain ⟨b1, b2⟩ := g16_bd hb k
  obtain ⟨b3, b4⟩ := g16_bd hb (k + 2)
  have E := Lib.hid (show g32 l k = g16 l k * 65536 + g16 l (k + 2) from rfl)
  have h1 := fun w hv => get16_any (v := v) (l := l) k w hv hb (by omega) hl
  have h2 := fun w hv => get16_any (v := v) (l := l) (k + 2) w hv hb (by omega) hl
  generalize g16 l k = x at *
  generalize g16 l (k + 2) = y at *
  have s0 := or_u32h b1 (by omega) b3 (by omega)
  have s1 : ((k + 2 : Nat) : Int) = (k : Int) + 2 := by omega
  rw [s1] at h2
  clear hb s1
  go_enter Tryd.func55, Tryd.ntmps55
  go_wp2_with (first | ((with_reducible refine is_load ?_); (first | (refine own_ld (h := ?_)))) | ((with_reducible refine is_store ?_); (first | (refine own_stR (hO := hO) (h := ?_); clear hO; intro wv hO) | (refine own_st1 (hO := hO) (h := ?_); clear hO; intro wv hO))) | (go_at_call 54; refine (h1 _ (hv.below hO.keep.below)).mono ?_; rintro e wv ⟨rfl, hb⟩; replace hO := hO.call hb; clear hb h1) | (go_at_call 54; refine (h2 _ (hv.below hO.keep.below)).mono ?_; rintro e wv ⟨rfl, hb⟩; replace hO := hO.call hb; clear hb))
  go_ret
  exact ⟨ret_int E.out.symm, hO.keep.below⟩

/-- what 'num' reads of the first n bytes -/
def nm (l : List Int) (k : Nat) : Nat → Int
  | 0 => 0
  | n + 1 => nm l k n * 256 + gt l (k + n)
theorem nm_bd {l : List Int} (hb : BOk l) (k : Nat) : ∀ n, 0 ≤ nm l k n ∧ nm l k n < 256 ^ n
  | 0 => by simp [nm]
  | n + 1 => by
    have h1 := nm_bd hb k n
    have h2 := gt_bd hb (k + n)
    have e : (256 : Int) ^ (n + 1) = 256 ^ n * 256 := rfl
    unfold nm
    rw [e]
    generalize (256 : Int) ^ n = p at *
    omega
theorem nm_2 (l : List Int) (k : Nat) : nm l k 2 = g16 l k := by simp [nm, g16]
theorem nm_4 (l : List Int) (k : Nat) : nm l k 4 = g32 l k := by simp only [nm, g32, g16, Nat.add_zero, Nat.add_assoc, Nat.reduceAdd]; omega
set_option maxHeartbeats 1000000 in
theorem num_any {v : Value} {l : List Int} (k n : Nat) (w : World) (hv : IsB w v l) (hb : BOk l) (hk : k + n ≤ l.length) (hn : n ≤ 4) (hl : l.length ≤ 140737488355328) :
    Calls Tryd.prog 63 #[v, .int .i64 k, .int .i64 n] w fun e w' => e = .returned (.int .u32 (nm l k n)) ∧ Below w.heap.size w w' := by
  have hO := own_roC hv
  obtain ⟨a, c, rfl, hc, -, h0, h1⟩ := IsCells.view hv
  clear hv
  go_enter Tryd.func63, Tryd.ntmps63
  go_wp2_with (first | ((with_reducible refine is_load ?_); (first | (refine own_ldP hO (h := ?_)) | (refine own_ld (h := ?_)))) | ((with_reducible refine is_store ?_); (first | (refine own_stRp (hO := hO) (h := ?_); clear hO; intro wv hO) | (refine own_st1p (hO := hO) (h := ?_); clear hO; intro wv hO) | (refine own_stR (hO := hO) (h := ?_); clear hO; intro wv hO) | (refine own_st1 (hO := hO) (h := ?_); clear hO; intro wv hO))) | ((with_reducible refine is_load ?_); (refine own_ldW (hO := hO) (h := ?_))) | ((with_reducible refine is_store ?_); (refine own_stW (hO := hO) (h := ?_); clear hO; intro wv hO)))
  go_loopw [7, 8] (fun s q wr => ∃ j : Nat, j ≤ n ∧ q = .int .i64 j ∧ s = .int .u32 (nm l k j) ∧ Own [] w [] [] (roC (.slice a l.length c) (bc l)) wr) (fun _ q _ => n - (intOf q).toNat)
  case atStart => exact ⟨0, by omega, rfl, rfl, hO⟩
  case round =>
    clear hO
    obtain ⟨j, hj, rfl, rfl, hO⟩ := hrel
    by_cases hlt : j < n
    · obtain ⟨g, o, rfl⟩ := h1 (by intro e; have := (h0 e).1; omega)
      have c1 := bc_at (show k + j < l.length by omega)
      obtain ⟨b1, b2⟩ := gt_bd hb (k + j)
      obtain ⟨b3, b4⟩ := nm_bd hb k j
      have hp : (256 : Int) ^ j ≤ 16777216 := by
        have : j = 0 ∨ j = 1 ∨ j = 2 ∨ j = 3 := by omega
        rcases this with rfl | rfl | rfl | rfl <;> decide
      have b5 : nm l k j < 16777216 := by omega
      have E := Lib.hid (show nm l k (j + 1) = nm l k j * 256 + gt l (k + j) from rfl)
      have HB := Lib.hid hb
      clear b4 hp hb h0 h1
      generalize nm l k j = x at *
      generalize gt l (k + j) = y at *
      have s0 := or_u32 b3 b5 b1 (by omega)
      replace hO : Own [] w [] [] [⟨g, o, bc l⟩] wr := hO
      go_wp2_with (first | ((with_reducible refine is_load ?_); (first | (refine own_ldP hO (h := ?_)) | (refine own_ld (h := ?_)))) | ((with_reducible refine is_store ?_); (first | (refine own_stRp (hO := hO) (h := ?_); clear hO; intro wv hO) | (refine own_st1p (hO := hO) (h := ?_); clear hO; intro wv hO) | (refine own_stR (hO := hO) (h := ?_); clear hO; intro wv hO) | (refine own_st1 (hO := hO) (h := ?_); clear hO; intro wv hO))) | ((with_reducible refine is_load ?_); (refine own_ldW (hO := hO) (h := ?_))) | ((with_reducible refine is_store ?_); (refine own_stW (hO := hO) (h := ?_); clear hO; intro wv hO)))
      go_roundw
      case rel => exact ⟨j + 1, by omega, by go_num, by rw [E.out], hO⟩
      case measure => simp [intOf]; omega
    · obtain rfl : j = n := by omega
      go_wp2_with (first | ((with_reducible refine is_load ?_); (first | (refine own_ldP hO (h := ?_)) | (refine own_ld (h := ?_)))) | ((with_reducible refine is_store ?_); (first | (refine own_stRp (hO := hO) (h := ?_); clear hO; intro wv hO) | (refine own_st1p (hO := hO) (h := ?_); clear hO; intro wv hO) | (refine own_stR (hO := hO) (h := ?_); clear hO; intro wv hO) | (refine own_st1 (hO := hO) (h := ?_); clear hO; intro wv hO))) | ((with_reducible refine is_load ?_); (refine own_ldW (hO := hO) (h := ?_))) | ((with_reducible refine is_store ?_); (refine own_stW (hO := hO) (h := ?_); clear hO; intro wv hO)))
      go_ret
      exact ⟨rfl, hO.keep.below⟩
end Go.Proofs.YtjfiipbjphabeaaDoor

/- Opening lists of bytes. -/
namespace Go.Proofs.YtjfiipbjphabeaaDoor
open Go.ChangeShapes Go.WideShapes Go.ChangeAt Go.RowKit
set_option maxRecDepth 100000
section
variable {H : Type} {enc : TypeId × Value → H} {w : World} {base : Nat} {spare : Nat → Bool} {held : Bool}
theorem isBytes_of {r : Reach} {b0 : Nat} {v : Value} {d : DataW H} {p : List MemPlace} (hv : Value.okWide Tryd.prog w r b0 22 v) (h : DataW.Trod enc Tryd.prog w base spare held 22 v d p) :
    ∃ l, IsB w v l ∧ BOk l ∧ l.length ≤ 9223372036854775807 := by
  obtain ⟨n, hn⟩ := h
  rcases open_ints (P := Tryd.prog) (k := .u8) Tryd.underlying22 Tryd.underlying5 (by kernel_rfl) hn with ⟨h1, _⟩ | ⟨a, len, cap, zs, h1, _, hlc, hcm, hzl, _, hcell, hwf⟩
  · have : v = .slice none 0 0 := by
      cases v with
      | slice a l c => simpa [Value.cells] using h1
      | agg cs => exfalso; simp only [Value.okWide, Tryd.underlying22] at hv; (try (obtain ⟨_, _, _, h, _⟩ := hv; cases h)); (try (cases hv))
      | _ => simp [Value.cells] at h1
    subst this
    exact ⟨[], .inl ⟨rfl, rfl, rfl⟩, (fun x hx => by cases hx), by simp⟩
  · have hvs : v = .slice (some a) len cap := by
      cases v with
      | slice a' l c => simpa [Value.cells] using h1
      | agg cs => exfalso; simp only [Value.okWide, Tryd.underlying22] at hv; (try (obtain ⟨_, _, _, h, _⟩ := hv; cases h)); (try (cases hv))
      | _ => simp [Value.cells] at h1
    have hle : len ≤ zs.length := by rw [hzl]; split <;> omega
    have hlen : (zs.take len).length = len := by simp; omega
    subst hvs
    have hbd : ∀ z ∈ zs.take len, 0 ≤ z ∧ z ≤ 255 := fun z hz => bounds_u8 (hwf z (List.mem_of_mem_take hz))
    have hml : len ≤ 9223372036854775807 := by unfold maxLen at hcm; omega
    have hsp : a.spot = none := by
      unfold Value.okWide at hv
      rw [Tryd.underlying22] at hv
      unfold Cell.okWide at hv
      rw [Tryd.underlying22] at hv
      unfold Cell.ok at hv
      rw [Tryd.underlying22] at hv
      exact hv.2.2.2.1
    obtain ⟨g, o, sp⟩ := a
    dsimp only at hsp
    subst hsp
    refine ⟨zs.take len, .inr ⟨g, o, cap, by rw [hlen], by rw [hlen]; exact hlc, ?_⟩, hbd, by rw [hlen]; exact hml⟩
    intro j u hj
    have hjl := (List.getElem?_eq_some_iff.1 hj).1
    simp only [bc_length, hlen] at hjl
    have h2 := hcell j (by omega)
    have e : (⟨g, o, none⟩ : Addr).add j = ⟨g, o + j, none⟩ := by
      unfold Addr.add
      by_cases h0 : j = 0
      · rw [if_pos h0, h0]; rfl
      · rw [if_neg h0]
    rw [e] at h2
    rw [h2, ← hj]
    simp [bc, hjl, show j < zs.length by omega, List.getD]
end
end Go.Proofs.YtjfiipbjphabeaaDoor

/- The two checksums. -/
namespace Go.Proofs.YtjfiipbjphabeaaDoor
open Go.RowKit
set_option maxRecDepth 100000

set_option maxHeartbeats 2000000 in
theorem cksum_any {v : Value} {l : List Int} (w : World) (hv : IsB w v l) (hb : BOk l) (hl : l.length ≤ 70368744177664) :
    Calls Tryd.prog 14 #[v] w fun e w' => e = .returned (.int .u16 (ck l)) ∧ Below w.heap.size w w' := by
  have hO := own_roC hv
  obtain ⟨a, c, rfl, hc, -, h0, h1⟩ := IsCells.view hv
  clear hv
  go_enter Tryd.func14, Tryd.ntmps14
  go_wp2_with (first | ((with_reducible refine is_load ?_); (first | (refine own_ldP hO (h := ?_)) | (refine own_ld (h := ?_)))) | ((with_reducible refine is_store ?_); (first | (refine own_stRp (hO := hO) (h := ?_); clear hO; intro wv hO) | (refine own_st1p (hO := hO) (h := ?_); clear hO; intro wv hO) | (refine own_stR (hO := hO) (h := ?_); clear hO; intro wv hO) | (refine own_st1 (hO := hO) (h := ?_); clear hO; intro wv hO))) | ((with_reducible refine is_load ?_); (refine own_ldW (hO := hO) (h := ?_))) | ((with_reducible refine is_store ?_); (refine own_stW (hO := hO) (h := ?_); clear hO; intro wv hO)))
  go_loopw [3, 8] (fun s i wr => ∃ k : Nat, k ≤ l.length ∧ i = .int .i64 k ∧ s = .int .u64 (ws l k) ∧ Own [] w [] [] (roC (.slice a l.length c) (bc l)) wr) (fun _ i _ => l.length - (intOf i).toNat)
  case atStart => exact ⟨0, by omega, rfl, rfl, hO⟩
  case round =>
    clear hO
    obtain ⟨k, hk, rfl, rfl, hO⟩ := hrel
    by_cases hlt : k < l.length
    · skip
      obtain ⟨g, o, rfl⟩ := h1 (by intro e; have := (h0 e).1; omega)
      have c1 := bc_at hlt
      obtain ⟨b1, b2⟩ := gt_bd hb k
      obtain ⟨b3, b4⟩ := ws_bd hb k
      have HB := Lib.hid hb
      have H0 := Lib.hid h0
      have H1 := Lib.hid h1
      clear hb h0 h1
      replace hO : Own [] w [] [] [⟨g, o, bc l⟩] wr := hO
      have b5 : ws l k ≤ 9223372036854775807 := by omega
      clear b4
      by_cases hp : k % 2 = 0
      · have E := Lib.hid (show ws l (k + 1) = ws l k + gt l k * 256 from ws_even hp)
        generalize ws l k = x at *
        generalize gt l k = y at *
        have q : ((k : Int) % 2 == 0) = true := by simp; omega
        clear hp
        go_wp2_with (first | ((with_reducible refine is_load ?_); (first | (refine own_ldP hO (h := ?_)) | (refine own_ld (h := ?_)))) | ((with_reducible refine is_store ?_); (first | (refine own_stRp (hO := hO) (h := ?_); clear hO; intro wv hO) | (refine own_st1p (hO := hO) (h := ?_); clear hO; intro wv hO) | (refine own_stR (hO := hO) (h := ?_); clear hO; intro wv hO) | (refine own_st1 (hO := hO) (h := ?_); clear hO; intro wv hO))) | ((with_reducible refine is_load ?_); (refine own_ldW (hO := hO) (h := ?_))) | ((with_reducible refine is_store ?_); (refine own_stW (hO := hO) (h := ?_); clear hO; intro wv hO)))
        go_roundw
        case rel => exact ⟨k + 1, by omega, by go_num, by rw [E.out], hO⟩
        case measure => simp [intOf]; omega
      · have E := Lib.hid (show ws l (k + 1) = ws l k + gt l k from ws_odd hp)
        generalize ws l k = x at *
        generalize gt l k = y at *
        have q : ((k : Int) % 2 == 0) = false := by simp; omega
        clear hp
        go_wp2_with (first | ((with_reducible refine is_load ?_); (first | (refine own_ldP hO (h := ?_)) | (refine own_ld (h := ?_)))) | ((with_reducible refine is_store ?_); (first | (refine own_stRp (hO := hO) (h := ?_); clear hO; intro wv hO) | (refine own_st1p (hO := hO) (h := ?_); clear hO; intro wv hO) | (refine own_stR (hO := hO) (h := ?_); clear hO; intro wv hO) | (refine own_st1 (hO := hO) (h := ?_); clear hO; intro wv hO))) | ((with_reducible refine is_load ?_); (refine own_ldW (hO := hO) (h := ?_))) | ((with_reducible refine is_store ?_); (refine own_stW (hO := hO) (h := ?_); clear hO; intro wv hO)))
        go_roundw
        case rel => exact ⟨k + 1, by omega, by go_num, by rw [E.out], hO⟩
        case measure => simp [intOf]; omega
    · skip
      obtain rfl : k = l.length := by omega
      obtain ⟨b3, b4⟩ := ws_bd hb l.length
      have b5 : ws l l.length ≤ 9223372036854775807 := by omega
      have E := Lib.hid (show ck l = 65535 - foldC (ws l l.length) from rfl)
      clear b4 hb
      generalize ws l l.length = s at *
      go_wp2_with (first | ((with_reducible refine is_load ?_); (first | (refine own_ldP hO (h := ?_)) | (refine own_ld (h := ?_)))) | ((with_reducible refine is_store ?_); (first | (refine own_stRp (hO := hO) (h := ?_); clear hO; intro wv hO) | (refine own_st1p (hO := hO) (h := ?_); clear hO; intro wv hO) | (refine own_stR (hO := hO) (h := ?_); clear hO; intro wv hO) | (refine own_st1 (hO := hO) (h := ?_); clear hO; intro wv hO))) | ((with_reducible refine is_load ?_); (refine own_ldW (hO := hO) (h := ?_))) | ((with_reducible refine is_store ?_); (refine own_stW (hO := hO) (h := ?_); clear hO; intro wv hO)))
      go_loopw [3] (fun q wr => ∃ x : Int, 0 ≤ x ∧ x ≤ 9223372036854775807 ∧ q = .int .u64 x ∧ foldC x = foldC s ∧ Own [] w [] [] (roC (.slice a l.length c) (bc l)) wr) (fun q _ => (intOf q).toNat)
      case atStart => exact ⟨s, b3, b5, rfl, rfl, hO⟩
      case round =>
        clear hO
        obtain ⟨x, x0, x1, rfl, hx, hO⟩ := hrel
        have HX := Lib.hid hx
        clear hx
        by_cases hlt : 65535 < x
        · have s0 := and_u64 x0 (by omega)
          go_wp2_with (first | ((with_reducible refine is_load ?_); (first | (refine own_ldP hO (h := ?_)) | (refine own_ld (h := ?_)))) | ((with_reducible refine is_store ?_); (first | (refine own_stRp (hO := hO) (h := ?_); clear hO; intro wv hO) | (refine own_st1p (hO := hO) (h := ?_); clear hO; intro wv hO) | (refine own_stR (hO := hO) (h := ?_); clear hO; intro wv hO) | (refine own_st1 (hO := hO) (h := ?_); clear hO; intro wv hO))) | ((with_reducible refine is_load ?_); (refine own_ldW (hO := hO) (h := ?_))) | ((with_reducible refine is_store ?_); (refine own_stW (hO := hO) (h := ?_); clear hO; intro wv hO)))
          go_roundw
          case rel => exact ⟨_, by omega, by omega, rfl, (foldC_step hlt).trans HX.out, hO⟩
          case measure => simp [intOf]; omega
        · have e1 := Lib.hid (show ck l = 65535 - x by rw [E.out, ← HX.out, foldC_small x0 (by omega)])
          have x2 : x ≤ 65535 := by omega
          have y1 : IntKind.u16.signed = false := rfl
          have y2 := xor_u16 x0 x2
          go_wp2_with (first | ((with_reducible refine is_load ?_); (first | (refine own_ldP hO (h := ?_)) | (refine own_ld (h := ?_)))) | ((with_reducible refine is_store ?_); (first | (refine own_stRp (hO := hO) (h := ?_); clear hO; intro wv hO) | (refine own_st1p (hO := hO) (h := ?_); clear hO; intro wv hO) | (refine own_stR (hO := hO) (h := ?_); clear hO; intro wv hO) | (refine own_st1 (hO := hO) (h := ?_); clear hO; intro wv hO))) | ((with_reducible refine is_load ?_); (refine own_ldW (hO := hO) (h := ?_))) | ((with_reducible refine is_store ?_); (refine own_stW (hO := hO) (h := ?_); clear hO; intro wv hO)))
          go_ret
          exact ⟨ret_int (by rw [e1.out]), hO.keep.below⟩
set_option maxHeartbeats 2000000 in
theorem rcksum_any {v : Value} {l : List Int} (w : World) (hv : IsB w v l) (hb : BOk l) (hl : l.length ≤ 70368744177664) :
    Calls Tryd.prog 15 #[v] w fun e w' => e = .returned (.int .u16 (ck l)) ∧ Below w.heap.size w w' := by
  have hO := own_roC hv
  obtain ⟨a, c, rfl, hc, -, h0, h1⟩ := IsCells.view hv
  clear hv
  go_enter Tryd.func15, Tryd.ntmps15
  go_wp2_with (first | ((with_reducible refine is_load ?_); (first | (refine own_ldP hO (h := ?_)) | (refine own_ld (h := ?_)))) | ((with_reducible refine is_store ?_); (first | (refine own_stRp (hO := hO) (h := ?_); clear hO; intro wv hO) | (refine own_st1p (hO := hO) (h := ?_); clear hO; intro wv hO) | (refine own_stR (hO := hO) (h := ?_); clear hO; intro wv hO) | (refine own_st1 (hO := hO) (h := ?_); clear hO; intro wv hO))) | ((with_reducible refine is_load ?_); (refine own_ldW (hO := hO) (h := ?_))) | ((with_reducible refine is_store ?_); (refine own_stW (hO := hO) (h := ?_); clear hO; intro wv hO)))
  go_loopw [3, 4] (fun s i wr => ∃ k : Nat, k ≤ l.length ∧ i = .int .i64 k ∧ s = .int .u64 (ws l k) ∧ Own [] w [] [] (roC (.slice a l.length c) (bc l)) wr) (fun _ i _ => l.length - (intOf i).toNat)
  case atStart => exact ⟨0, by omega, rfl, rfl, hO⟩
  case round =>
    clear hO
    obtain ⟨k, hk, rfl, rfl, hO⟩ := hrel
    by_cases hlt : k < l.length
    · skip
      obtain ⟨g, o, rfl⟩ := h1 (by intro e; have := (h0 e).1; omega)
      have c1 := bc_at hlt
      obtain ⟨b1, b2⟩ := gt_bd hb k
      obtain ⟨b3, b4⟩ := ws_bd hb k
      have HB := Lib.hid hb
      have H0 := Lib.hid h0
      have H1 := Lib.hid h1
      clear hb h0 h1
      replace hO : Own [] w [] [] [⟨g, o, bc l⟩] wr := hO
      have b5 : ws l k ≤ 9223372036854775807 := by omega
      clear b4
      by_cases hp : k % 2 = 0
      · have E := Lib.hid (show ws l (k + 1) = ws l k + gt l k * 256 from ws_even hp)
        generalize ws l k = x at *
        generalize gt l k = y at *
        have q : ((k : Int) % 2 == 0) = true := by simp; omega
        clear hp
        go_wp2_with (first | ((with_reducible refine is_load ?_); (first | (refine own_ldP hO (h := ?_)) | (refine own_ld (h := ?_)))) | ((with_reducible refine is_store ?_); (first | (refine own_stRp (hO := hO) (h := ?_); clear hO; intro wv hO) | (refine own_st1p (hO := hO) (h := ?_); clear hO; intro wv hO) | (refine own_stR (hO := hO) (h := ?_); clear hO; intro wv hO) | (refine own_st1 (hO := hO) (h := ?_); clear hO; intro wv hO))) | ((with_reducible refine is_load ?_); (refine own_ldW (hO := hO) (h := ?_))) | ((with_reducible refine is_store ?_); (refine own_stW (hO := hO) (h := ?_); clear hO; intro wv hO)))
        go_roundw
        case rel => exact ⟨k + 1, by omega, by go_num, by rw [E.out], hO⟩
        case measure => simp [intOf]; omega
      · have E := Lib.hid (show ws l (k + 1) = ws l k + gt l k from ws_odd hp)
        generalize ws l k = x at *
        generalize gt l k = y at *
        have q : ((k : Int) % 2 == 0) = false := by simp; omega
        clear hp
        go_wp2_with (first | ((with_reducible refine is_load ?_); (first | (refine own_ldP hO (h := ?_)) | (refine own_ld (h := ?_)))) | ((with_reducible refine is_store ?_); (first | (refine own_stRp (hO := hO) (h := ?_); clear hO; intro wv hO) | (refine own_st1p (hO := hO) (h := ?_); clear hO; intro wv hO) | (refine own_stR (hO := hO) (h := ?_); clear hO; intro wv hO) | (refine own_st1 (hO := hO) (h := ?_); clear hO; intro wv hO))) | ((with_reducible refine is_load ?_); (refine own_ldW (hO := hO) (h := ?_))) | ((with_reducible refine is_store ?_); (refine own_stW (hO := hO) (h := ?_); clear hO; intro wv hO)))
        go_roundw
        case rel => exact ⟨k + 1, by omega, by go_num, by rw [E.out], hO⟩
        case measure => simp [intOf]; omega
    · skip
      obtain rfl : k = l.length := by omega
      obtain ⟨b3, b4⟩ := ws_bd hb l.length
      have b5 : ws l l.length ≤ 9223372036854775807 := by omega
      have E := Lib.hid (show ck l = 65535 - foldC (ws l l.length) from rfl)
      clear b4 hb
      generalize ws l l.length = s at *
      go_wp2_with (first | ((with_reducible refine is_load ?_); (first | (refine own_ldP hO (h := ?_)) | (refine own_ld (h := ?_)))) | ((with_reducible refine is_store ?_); (first | (refine own_stRp (hO := hO) (h := ?_); clear hO; intro wv hO) | (refine own_st1p (hO := hO) (h := ?_); clear hO; intro wv hO) | (refine own_stR (hO := hO) (h := ?_); clear hO; intro wv hO) | (refine own_st1 (hO := hO) (h := ?_); clear hO; intro wv hO))) | ((with_reducible refine is_load ?_); (refine own_ldW (hO := hO) (h := ?_))) | ((with_reducible refine is_store ?_); (refine own_stW (hO := hO) (h := ?_); clear hO; intro wv hO)))
      go_loopw [3] (fun q wr => ∃ x : Int, 0 ≤ x ∧ x ≤ 9223372036854775807 ∧ q = .int .u64 x ∧ foldC x = foldC s ∧ Own [] w [] [] (roC (.slice a l.length c) (bc l)) wr) (fun q _ => (intOf q).toNat)
      case atStart => exact ⟨s, b3, b5, rfl, rfl, hO⟩
      case round =>
        clear hO
        obtain ⟨x, x0, x1, rfl, hx, hO⟩ := hrel
        have HX := Lib.hid hx
        clear hx
        by_cases hlt : 65535 < x
        · have s0 := and_u64 x0 (by omega)
          go_wp2_with (first | ((with_reducible refine is_load ?_); (first | (refine own_ldP hO (h := ?_)) | (refine own_ld (h := ?_)))) | ((with_reducible refine is_store ?_); (first | (refine own_stRp (hO := hO) (h := ?_); clear hO; intro wv hO) | (refine own_st1p (hO := hO) (h := ?_); clear hO; intro wv hO) | (refine own_stR (hO := hO) (h := ?_); clear hO; intro wv hO) | (refine own_st1 (hO := hO) (h := ?_); clear hO; intro wv hO))) | ((with_reducible refine is_load ?_); (refine own_ldW (hO := hO) (h := ?_))) | ((with_reducible refine is_store ?_); (refine own_stW (hO := hO) (h := ?_); clear hO; intro wv hO)))
          go_roundw
          case rel => exact ⟨_, by omega, by omega, rfl, (foldC_step hlt).trans HX.out, hO⟩
          case measure => simp [intOf]; omega
        · have e1 := Lib.hid (show ck l = 65535 - x by rw [E.out, ← HX.out, foldC_small x0 (by omega)])
          have x2 : x ≤ 65535 := by omega
          have y1 : IntKind.u16.signed = false := rfl
          have y2 := xor_u16 x0 x2
          go_wp2_with (first | ((with_reducible refine is_load ?_); (first | (refine own_ldP hO (h := ?_)) | (refine own_ld (h := ?_)))) | ((with_reducible refine is_store ?_); (first | (refine own_stRp (hO := hO) (h := ?_); clear hO; intro wv hO) | (refine own_st1p (hO := hO) (h := ?_); clear hO; intro wv hO) | (refine own_stR (hO := hO) (h := ?_); clear hO; intro wv hO) | (refine own_st1 (hO := hO) (h := ?_); clear hO; intro wv hO))) | ((with_reducible refine is_load ?_); (refine own_ldW (hO := hO) (h := ?_))) | ((with_reducible refine is_store ?_); (refine own_stW (hO := hO) (h := ?_); clear hO; intro wv hO)))
          go_ret
          exact ⟨ret_int (by rw [e1.out]), hO.keep.below⟩
end Go.Proofs.YtjfiipbjphabeaaDoor

/- Small functions of packets: places of checksums, lengths, which packets have encodings, which headers fit. -/
namespace Go.Proofs.YtjfiipbjphabeaaDoor
open Go.RowKit
set_option maxRecDepth 100000

theorem one_bytes : OneT Tryd.prog 22 := ⟨_, Tryd.underlying22, rfl, by kernel_rfl⟩
/-- the cells of a packet -/
abbrev pcs (h : Hd) (t f : Int) (v : Value) : List Value := [.int .u32 h.src, .int .u32 h.dst, .int .u8 h.proto, .int .u16 h.sport, .int .u16 h.dport, .int .i64 t, .int .i64 f, v]
theorem row_Packet : RowT Tryd.prog 43 8 := ⟨_, Tryd.underlying43, rfl, by kernel_rfl⟩
theorem zero_Packet : ZeroT Tryd.prog 43 (pcs zeroHd 0 0 (.slice none 0 0)) := by unfold ZeroT; kernel_rfl

theorem tk_hdP (h : Hd) (t f : Int) (v : Value) : ((pcs h t f v).drop 0).take (hcs h).length = hcs h := rfl
theorem ne_true {b : Bool} (h : b = false) : ¬ b = true := by rw [h]; simp
def sumAtF (p : Int) : Int := if p == 6 then 36 else if p == 17 then 26 else if p == 1 then 22 else 0
def sumAtR (p : Int) : Int := if p == 6 then 36 else if p == 17 then 26 else if p == 1 then 22 else -1
def lenF (p : Int) : Int := if p == 6 then 20 else if p == 17 then 8 else if p == 1 then 8 else 0
def otherF (p : Int) : Bool := p != 6 && p != 17 && p != 1
theorem rsumAt_any (p : Int) (w : World) : Calls Tryd.prog 70 #[.int .u8 p] w fun e w' => e = .returned (.int .i64 (sumAtR p)) ∧ w = w' := by
  go_enter Tryd.func70, Tryd.ntmps70
  go_wp2
  all_goals
    go_ret
    exact ⟨ret_int (by unfold sumAtR; (repeat (first | rfl | rw [if_pos (by assumption)] | rw [if_neg (ne_true (by assumption))] | rw [if_pos (Eq.refl true)] | rw [if_neg Bool.false_ne_true]))), rfl⟩
theorem lenF_any (p : Int) (w : World) : Calls Tryd.prog 46 #[.int .u8 p] w fun e w' => e = .returned (.int .i64 (lenF p)) ∧ w = w' := by
  go_enter Tryd.func46, Tryd.ntmps46
  go_wp2
  all_goals
    go_ret
    exact ⟨ret_int (by unfold lenF; (repeat (first | rfl | rw [if_pos (by assumption)] | rw [if_neg (ne_true (by assumption))] | rw [if_pos (Eq.refl true)] | rw [if_neg Bool.false_ne_true]))), rfl⟩
theorem other_any (p : Int) (w : World) : Calls Tryd.prog 69 #[.int .u8 p] w fun e w' => e = .returned (.bool (otherF p)) ∧ w = w' := by
  go_enter Tryd.func69, Tryd.ntmps69
  go_wp2
  all_goals
    go_ret
    exact ⟨ret_bool (by unfold otherF; first | rfl | simp [*]), rfl⟩
theorem sumAt_any {v : Value} {l : List Int} (w : World) (hv : IsB w v l) (hk : 9 < l.length) (hl : l.length ≤ 140737488355328) : Calls Tryd.prog 65 #[v] w fun e w' => e = .returned (.int .i64 (sumAtF (gt l 9))) ∧ Below w.heap.size w w' := by
  obtain ⟨g, o, c, rfl, hc, hO⟩ := hv.pos (by omega)
  have c1 := bc_at hk
  generalize gt l 9 = p at *
  go_enter Tryd.func65, Tryd.ntmps65
  go_wp2_with (first | ((with_reducible refine is_load ?_); (first | (refine own_ldP hO (h := ?_)) | (refine own_ld (h := ?_)))) | ((with_reducible refine is_store ?_); (first | (refine own_stRp (hO := hO) (h := ?_); clear hO; intro wv hO) | (refine own_st1p (hO := hO) (h := ?_); clear hO; intro wv hO) | (refine own_stR (hO := hO) (h := ?_); clear hO; intro wv hO) | (refine own_st1 (hO := hO) (h := ?_); clear hO; intro wv hO))) | ((with_reducible refine is_load ?_); (refine own_ldW (hO := hO) (h := ?_))) | ((with_reducible refine is_store ?_); (refine own_stW (hO := hO) (h := ?_); clear hO; intro wv hO)))
  all_goals
    go_ret
    exact ⟨ret_int (by unfold sumAtF; (repeat (first | rfl | rw [if_pos (by assumption)] | rw [if_neg (ne_true (by assumption))] | rw [if_pos (Eq.refl true)] | rw [if_neg Bool.false_ne_true]))), hO.keep.below⟩
/-- which headers can stand in a packet -/
def hdOkF (p sp dp : Int) : Bool := if p == 6 then true else if p == 17 then true else if p == 1 then ((sp == 8) != (dp == 8)) else if sp == 0 then dp == 0 else false
/-- which packets have encodings, apart from their length -/
def encOkF (h : Hd) (t f : Int) : Bool :=
  if decide (t < 0) then false else if decide (255 < t) then false else if (bits BinOp.andNot IntKind.i64 f 23 != 0) then false else
  if (f != 0) then (if (h.proto != 6) then false else hdOkF h.proto h.sport h.dport) else hdOkF h.proto h.sport h.dport
set_option maxHeartbeats 4000000 in
theorem encodable_any (h : Hd) (t f : Int) (v : Value) (w : World) :
    Calls Tryd.prog 45 #[.agg (pcs h t f v).toArray] w fun e w' => e = .returned (.bool (encOkF h t f)) ∧ Below w.heap.size w w' := by
  have hO := own_start [] w
  obtain ⟨s, d, p, sp, dp⟩ := h
  go_enter Tryd.func45, Tryd.ntmps45
  (repeat' (first | go_skip | ((first | ((with_reducible apply wp_move_bool); (focus rfl)) | ((with_reducible apply wp_move_boolG); (focus rfl); (focus rfl))); intro cb hcb; (cases cb <;> (first | (with_reducible exact no_tf hcb) | (with_reducible exact no_ft hcb) | skip)); all_goals ((try simp only [Act.put]); (try simp only [List.setIfInBounds_toArray, List.set_cons_zero, List.set_cons_succ]))) | (go_big_may; (first | ((with_reducible refine is_load ?_); (first | (refine own_ldP hO (h := ?_)) | (refine own_ld (h := ?_)))) | ((with_reducible refine is_store ?_); (first | (refine own_stRp (hO := hO) (h := ?_); clear hO; intro wv hO) | (refine own_st1p (hO := hO) (h := ?_); clear hO; intro wv hO) | (refine own_stR (hO := hO) (h := ?_); clear hO; intro wv hO) | (refine own_st1 (hO := hO) (h := ?_); clear hO; intro wv hO))) | ((with_reducible refine is_box ?_); (first | (refine own_bx (o := ⟨some 1, _, _, _, _, _⟩) (hO := hO) (h := ?_); clear hO; intro n1 wv hO))) | ((with_reducible refine is_load ?_); (refine own_ldW (hO := hO) (h := ?_))) | ((with_reducible refine is_store ?_); (refine own_stW (hO := hO) (h := ?_); clear hO; intro wv hO)))) | go_values | go_skip | go_guarded | go_step | go_upon | go_back | (simp only at *; go_simp) | (go_values <;> (try go_simp)) | (go_ite <;> go_prune <;> (try go_simp)) | (split <;> (first | (rename_i hx; exact (hx _ rfl).elim) | go_prune))))
  all_goals
    go_ret
    exact ⟨ret_bool (by unfold encOkF hdOkF; dsimp only; (repeat (first | rfl | rw [if_pos (by assumption)] | rw [if_neg (ne_true (by assumption))] | rw [if_pos (Eq.refl true)] | rw [if_neg Bool.false_ne_true]))), hO.keep.below⟩
theorem hdOk_other {p sp dp : Int} {b : Bool} (h : otherF p = b) (hc : ((p == 1) = false ∨ ((p == 1) = true ∧ ((sp == 8) == (dp == 8)) = false))) : hdOkF p sp dp = (!b || ((sp == 0) && (dp == 0))) := by
  subst h
  unfold hdOkF otherF
  rcases hc with hc | ⟨hc, h2⟩
  · cases h6 : p == 6 <;> cases h17 : p == 17 <;> cases h1 : sp == 0 <;> simp_all
  · have : p = 1 := by simpa using hc
    subst this
    cases h3 : sp == 8 <;> cases h4 : dp == 8 <;> simp_all
theorem fin_t {p sp dp : Int} (h : otherF p = false) (hc : ((p == 1) = false ∨ ((p == 1) = true ∧ ((sp == 8) == (dp == 8)) = false))) : true = hdOkF p sp dp := by rw [hdOk_other h hc]; rfl
theorem fin_0 {p sp dp : Int} (h : otherF p = true) (hc : ((p == 1) = false ∨ ((p == 1) = true ∧ ((sp == 8) == (dp == 8)) = false))) (h0 : (sp == 0) = false) : false = hdOkF p sp dp := by rw [hdOk_other h hc, h0]; rfl
theorem fin_1 {p sp dp : Int} (h : otherF p = true) (hc : ((p == 1) = false ∨ ((p == 1) = true ∧ ((sp == 8) == (dp == 8)) = false))) (h0 : (sp == 0) = true) : (dp == 0) = hdOkF p sp dp := by rw [hdOk_other h hc, h0]; rfl
theorem fin_i {p sp dp : Int} (h : (p == 1) = true) (hc : ((sp == 8) == (dp == 8)) = true) : false = hdOkF p sp dp := by
  have : p = 1 := by simpa using h
  subst this
  unfold hdOkF
  cases h3 : sp == 8 <;> cases h4 : dp == 8 <;> simp_all
set_option maxHeartbeats 4000000 in
theorem rencodable_any (h : Hd) (t f : Int) (v : Value) (w : World) :
    Calls Tryd.prog 50 #[.agg (pcs h t f v).toArray] w fun e w' => e = .returned (.bool (encOkF h t f)) ∧ Below w.heap.size w w' := by
  have hO := own_start [] w
  obtain ⟨s, d, p, sp, dp⟩ := h
  have tk := tk_hdP ⟨s, d, p, sp, dp⟩ t f v
  have ho := fun w => other_any p w
  obtain ⟨b, hb⟩ : ∃ b, otherF p = b := ⟨_, rfl⟩
  have HB := Lib.hid hb
  rw [hb] at ho
  clear hb
  go_enter Tryd.func50, Tryd.ntmps50
  cases b
  all_goals
    (repeat' (first | go_skip | ((first | ((with_reducible apply wp_move_bool); (focus rfl)) | ((with_reducible apply wp_move_boolG); (focus rfl); (focus rfl))); intro cb hcb; (cases cb <;> (first | (with_reducible exact no_tf hcb) | (with_reducible exact no_ft hcb) | skip)); all_goals ((try simp only [Act.put]); (try simp only [List.setIfInBounds_toArray, List.set_cons_zero, List.set_cons_succ]))) | (go_big_may; (first | ((with_reducible refine is_load ?_); (first | (refine own_ldP hO (h := ?_)) | (refine own_ld (h := ?_)))) | ((with_reducible refine is_store ?_); (first | (refine own_stRp (hO := hO) (h := ?_); clear hO; intro wv hO) | (refine own_st1p (hO := hO) (h := ?_); clear hO; intro wv hO) | (refine own_stR (hO := hO) (h := ?_); clear hO; intro wv hO) | (refine own_st1 (hO := hO) (h := ?_); clear hO; intro wv hO))) | ((with_reducible refine is_box ?_); (first | (refine own_bx (o := ⟨some 1, _, _, _, _, _⟩) (hO := hO) (h := ?_); clear hO; intro n1 wv hO))) | ((with_reducible refine is_alloc ?_); (first | (refine own_al (o := ⟨some 3, _, _, _, _, _⟩) (hO := hO) (h := ?_); clear hO; intro n3 wv hO))) | (go_at_call 69; refine (ho _).mono ?_; rintro e _ ⟨rfl, rfl⟩) | ((with_reducible refine is_load ?_); (refine own_ldW (hO := hO) (h := ?_))) | ((with_reducible refine is_store ?_); (refine own_stW (hO := hO) (h := ?_); clear hO; intro wv hO)))) | go_values | go_skip | go_guarded | go_step | go_upon | go_back | (simp only at *; go_simp) | (go_values <;> (try go_simp)) | (go_ite <;> go_prune <;> (try go_simp)) | (split <;> (first | (rename_i hx; exact (hx _ rfl).elim) | go_prune))))
  all_goals
    go_ret
    exact ⟨ret_bool (by unfold encOkF; dsimp only; (repeat (first | rfl | rw [if_pos (by assumption)] | rw [if_neg (ne_true (by assumption))] | rw [if_pos (Eq.refl true)] | rw [if_neg Bool.false_ne_true])); all_goals (first | exact fin_t HB.out (by first | exact .inl (by assumption) | exact .inr ⟨by assumption, by assumption⟩) | exact fin_0 HB.out (by first | exact .inl (by assumption) | exact .inr ⟨by assumption, by assumption⟩) (by assumption) | exact fin_1 HB.out (by first | exact .inl (by assumption) | exact .inr ⟨by assumption, by assumption⟩) (by assumption) | exact fin_i (by assumption) (by assumption))), hO.keep.below⟩
end Go.Proofs.YtjfiipbjphabeaaDoor

/- Functions that write into a packet's bytes. -/
namespace Go.Proofs.YtjfiipbjphabeaaDoor
open Go.RowKit
set_option maxRecDepth 100000

/-- bytes of the call's own -/
abbrev OwnsB (w : World) (base : Nat) (v : Value) (l : List Int) : Prop := w.ownsRow base 5 1 v l.length (bc l)
abbrev rowB (v : Value) (l : List Int) : Row := ⟨v, l.length, bc l, 5, 1⟩
/-- what is left behind a call that writes bytes -/
def WPost (w : World) (v : Value) (l l' : List Int) (r : Value) (en : Ending) (w' : World) : Prop := en = .returned r ∧ Keep v.ownBlock.toList w w' ∧ w'.ownsRow 0 5 1 v l.length (bc l')
theorem OwnsB.pos {w : World} {v : Value} {l : List Int} (h : OwnsB w 0 v l) (h0 : 0 < l.length) : ∃ g c, v = .slice (some ⟨g, 0, none⟩) l.length c ∧ l.length ≤ c := by
  rcases h.2 with ⟨_, h1⟩ | ⟨g, c, _, h1, _, _, h2, _⟩
  · omega
  · exact ⟨g, c, h1, h2⟩
theorem row_one {g c k : Nat} {xs ys : List Value} : UpdR [⟨.slice (some ⟨g, 0, none⟩) k c, k, xs, 5, 1⟩] ⟨.slice (some ⟨g, 0, none⟩) k c, k, xs, 5, 1⟩ ⟨.slice (some ⟨g, 0, none⟩) k c, k, ys, 5, 1⟩ [⟨.slice (some ⟨g, 0, none⟩) k c, k, ys, 5, 1⟩] := UpdR.here
def p16 (l : List Int) (k : Nat) (x : Int) : List Int := (l.set k (x / 256)).set (k + 1) (x % 256)
theorem p16_length (l : List Int) (k : Nat) (x : Int) : (p16 l k x).length = l.length := by simp [p16]
set_option maxHeartbeats 1000000 in
theorem put16_any {v : Value} {l : List Int} (k : Nat) (x : Int) (w : World) (hv : OwnsB w 0 v l) (hk : k + 1 < l.length) (x0 : 0 ≤ x) (x1 : x ≤ 65535) (hl : l.length ≤ 140737488355328) :
    Calls Tryd.prog 47 #[v, .int .i64 k, .int .u16 x] w (WPost w v l (p16 l k x) (.tuple #[])) := by
  obtain ⟨g, c, rfl, hc⟩ := hv.pos (by omega)
  have hO := own_takeRow hv [] (by simp)
  clear hv
  go_enter Tryd.func47, Tryd.ntmps47
  go_wp2_with (first | ((with_reducible refine is_load ?_); (first | (refine own_ldP hO (h := ?_)) | (refine own_ld (h := ?_)))) | ((with_reducible refine is_store ?_); (first | (refine own_stRp (hO := hO) (h := ?_); clear hO; intro wv hO) | (refine own_st1p (hO := hO) (h := ?_); clear hO; intro wv hO) | (refine own_stR (hO := hO) (h := ?_); clear hO; intro wv hO) | (refine own_st1 (hO := hO) (h := ?_); clear hO; intro wv hO))) | ((with_reducible refine is_load ?_); (refine own_ldW (hO := hO) (h := ?_))) | ((with_reducible refine is_store ?_); (refine own_stW (hO := hO) (h := ?_); clear hO; intro wv hO)))
  go_end0
  exact ⟨rfl, hO.keep, hO.row _ List.mem_cons_self⟩
def p32 (l : List Int) (k : Nat) (x : Int) : List Int := p16 (p16 l k (x / 65536)) (k + 2) (x % 65536)
theorem p32_length (l : List Int) (k : Nat) (x : Int) : (p32 l k x).length = l.length := by simp [p32, p16_length]
/-- what 'set' writes: j bytes of n -/
def wrB (l : List Int) (k n : Nat) (x : Int) : Nat → List Int
  | 0 => l
  | j + 1 => (wrB l k n x j).set (k + j) (x / 256 ^ (n - 1 - j) % 256)
theorem wrB_length (l : List Int) (k n : Nat) (x : Int) : ∀ j, (wrB l k n x j).length = l.length
  | 0 => rfl
  | j + 1 => by simp [wrB, wrB_length l k n x j]
theorem wrB_2 (l : List Int) (k : Nat) {x : Int} (x0 : 0 ≤ x) (x1 : x ≤ 65535) : wrB l k 2 x 2 = p16 l k x := by
  simp only [wrB, p16, Nat.add_zero, Nat.reduceSub, Int.pow_succ, Int.pow_zero, Int.one_mul, Int.ediv_one]
  rw [show x / 256 % 256 = x / 256 by omega]
theorem wrB_4 (l : List Int) (k : Nat) {x : Int} (x0 : 0 ≤ x) (x1 : x ≤ 4294967295) : wrB l k 4 x 4 = p32 l k x := by
  simp only [wrB, p32, p16, Nat.add_zero, Nat.reduceSub, Int.pow_succ, Int.pow_zero, Int.one_mul, Int.ediv_one, Nat.add_assoc, Nat.reduceAdd]
  rw [show x / (256 * 256 * 256) % 256 = x / 65536 / 256 by omega, show x / (256 * 256) % 256 = x / 65536 % 256 by omega, show x / 256 % 256 = x % 65536 / 256 by omega, show x % 256 = x % 65536 % 256 by omega]
theorem WPost.own {w w0 w' : World} {M : List Nat} {X : List Chunk} {R R' : List Row} {S : List Ro} (hO : Own M w0 X R S w) {v : Value} {l l' : List Int} {r : Value} {en : Ending} (h : WPost w v l l' r en w') (hu : UpdR R (rowB v l) ⟨v, l.length, bc l', 5, 1⟩ R') : Own M w0 X R' S w' := hO.afterRow hu h.2.1 h.2.2
set_option maxHeartbeats 1000000 in
theorem put32_any {v : Value} {l : List Int} (k : Nat) (x : Int) (w : World) (hv : OwnsB w 0 v l) (hk : k + 3 < l.length) (x0 : 0 ≤ x) (x1 : x ≤ 4294967295) (hl : l.length ≤ 140737488355328) :
    Calls Tryd.prog 67 #[v, .int .i64 k, .int .u32 x] w (WPost w v l (p32 l k x) (.tuple #[])) := by
  have hO := own_takeRow hv [] (by simp)
  have h1 := fun w hv => put16_any (v := v) (l := l) k (x / 65536) w hv (by omega) (by omega) (by omega) hl
  have h2 := fun w hv => put16_any (v := v) (l := p16 l k (x / 65536)) (k + 2) (x % 65536) w hv (by rw [p16_length]; omega) (by omega) (by omega) (by rw [p16_length]; exact hl)
  have s1 : ((k + 2 : Nat) : Int) = (k : Int) + 2 := by omega
  rw [s1] at h2
  have hn := p16_length l k (x / 65536)
  clear hv s1
  go_enter Tryd.func67, Tryd.ntmps67
  go_wp2_with (first | ((with_reducible refine is_load ?_); (first | (refine own_ld (h := ?_)))) | ((with_reducible refine is_store ?_); (first | (refine own_stR (hO := hO) (h := ?_); clear hO; intro wv hO) | (refine own_st1 (hO := hO) (h := ?_); clear hO; intro wv hO))) | (go_at_call 47; refine (h1 _ (hO.row _ List.mem_cons_self)).mono ?_; rintro e wv hw; obtain rfl := hw.1; replace hO := hw.own hO .here; rw [← hn] at hO; clear hw h1) | (go_at_call 47; refine (h2 _ (hO.row _ List.mem_cons_self)).mono ?_; rintro e wv hw; obtain rfl := hw.1; replace hO := hw.own hO .here; clear hw h2))
  go_end0
  rw [hn] at hO
  exact ⟨rfl, hO.keep, hO.row _ List.mem_cons_self⟩
set_option maxHeartbeats 2000000 in
theorem set2_any {v : Value} {l : List Int} (k : Nat) (x : Int) (w : World) (hv : OwnsB w 0 v l) (hk : k + 1 < l.length) (x0 : 0 ≤ x) (x1 : x ≤ 65535) (hl : l.length ≤ 140737488355328) :
    Calls Tryd.prog 51 #[v, .int .i64 k, .int .i64 2, .int .u32 x] w (WPost w v l (p16 l k x) (.tuple #[])) := by
  obtain ⟨g, c, rfl, hc⟩ := hv.pos (by omega)
  have hO := own_takeRow hv [] (by simp)
  have E1 := Lib.hid (wrB_2 l k x0 x1)
  clear hv
  go_enter Tryd.func51, Tryd.ntmps51
  go_wp2_with (first | ((with_reducible refine is_load ?_); (first | (refine own_ldP hO (h := ?_)) | (refine own_ld (h := ?_)))) | ((with_reducible refine is_store ?_); (first | (refine own_stRp (hO := hO) (h := ?_); clear hO; intro wv hO) | (refine own_st1p (hO := hO) (h := ?_); clear hO; intro wv hO) | (refine own_stR (hO := hO) (h := ?_); clear hO; intro wv hO) | (refine own_st1 (hO := hO) (h := ?_); clear hO; intro wv hO))) | ((with_reducible refine is_load ?_); (refine own_ldW (hO := hO) (h := ?_))) | ((with_reducible refine is_store ?_); (refine own_stW (hO := hO) (h := ?_); clear hO; intro wv hO)))
  go_loopw [8] (fun i wr' => ∃ j : Nat, j ≤ 2 ∧ i = .int .i64 j ∧ Own (Value.slice (some ⟨g, 0, none⟩) l.length c).ownBlock.toList w [] [⟨.slice (some ⟨g, 0, none⟩) l.length c, l.length, bc (wrB l k 2 x j), 5, 1⟩] [] wr') (fun i _ => 2 - (intOf i).toNat)
  case atStart => exact ⟨0, by omega, rfl, hO⟩
  case round =>
    clear hO
    obtain ⟨j, hj, rfl, hO⟩ := hrel
    have hj' : j = 0 ∨ j = 1 ∨ j = 2 := by omega
    rcases hj' with rfl | rfl | rfl
    · have hn := wrB_length l k 2 x 0
      have E := Lib.hid (show wrB l k 2 x (0 + 1) = (wrB l k 2 x 0).set (k + 0) (x / 256 % 256) from rfl)
      clear E1
      generalize wrB l k 2 x 0 = m at *
      go_wp2_with (first | ((with_reducible refine is_load ?_); (first | (refine own_ldP hO (h := ?_)) | (refine own_ld (h := ?_)))) | ((with_reducible refine is_store ?_); (first | (refine own_stRp (hO := hO) (h := ?_); clear hO; intro wv hO) | (refine own_st1p (hO := hO) (h := ?_); clear hO; intro wv hO) | (refine own_stR (hO := hO) (h := ?_); clear hO; intro wv hO) | (refine own_st1 (hO := hO) (h := ?_); clear hO; intro wv hO))) | ((with_reducible refine is_load ?_); (refine own_ldW (hO := hO) (h := ?_))) | ((with_reducible refine is_store ?_); (refine own_stW (hO := hO) (h := ?_); clear hO; intro wv hO)))
      go_roundw
      case rel => exact ⟨1, by omega, rfl, by rw [E.out, Nat.add_zero, Int.emod_eq_of_lt (by omega) (by omega)]; exact hO⟩
      case measure => simp [intOf]
    · have hn := wrB_length l k 2 x 1
      have E := Lib.hid (show wrB l k 2 x (1 + 1) = (wrB l k 2 x 1).set (k + 1) (x / 1 % 256) from rfl)
      clear E1
      generalize wrB l k 2 x 1 = m at *
      go_wp2_with (first | ((with_reducible refine is_load ?_); (first | (refine own_ldP hO (h := ?_)) | (refine own_ld (h := ?_)))) | ((with_reducible refine is_store ?_); (first | (refine own_stRp (hO := hO) (h := ?_); clear hO; intro wv hO) | (refine own_st1p (hO := hO) (h := ?_); clear hO; intro wv hO) | (refine own_stR (hO := hO) (h := ?_); clear hO; intro wv hO) | (refine own_st1 (hO := hO) (h := ?_); clear hO; intro wv hO))) | ((with_reducible refine is_load ?_); (refine own_ldW (hO := hO) (h := ?_))) | ((with_reducible refine is_store ?_); (refine own_stW (hO := hO) (h := ?_); clear hO; intro wv hO)))
      go_roundw
      case rel => exact ⟨2, by omega, rfl, by rw [E.out, Int.ediv_one]; exact hO⟩
      case measure => simp [intOf]
    · rw [E1.out] at hO
      go_wp2_with (first | ((with_reducible refine is_load ?_); (first | (refine own_ldP hO (h := ?_)) | (refine own_ld (h := ?_)))) | ((with_reducible refine is_store ?_); (first | (refine own_stRp (hO := hO) (h := ?_); clear hO; intro wv hO) | (refine own_st1p (hO := hO) (h := ?_); clear hO; intro wv hO) | (refine own_stR (hO := hO) (h := ?_); clear hO; intro wv hO) | (refine own_st1 (hO := hO) (h := ?_); clear hO; intro wv hO))) | ((with_reducible refine is_load ?_); (refine own_ldW (hO := hO) (h := ?_))) | ((with_reducible refine is_store ?_); (refine own_stW (hO := hO) (h := ?_); clear hO; intro wv hO)))
      go_end0
      exact ⟨rfl, hO.keep, hO.row _ List.mem_cons_self⟩
set_option maxHeartbeats 2000000 in
theorem set4_any {v : Value} {l : List Int} (k : Nat) (x : Int) (w : World) (hv : OwnsB w 0 v l) (hk : k + 3 < l.length) (x0 : 0 ≤ x) (x1 : x ≤ 4294967295) (hl : l.length ≤ 140737488355328) :
    Calls Tryd.prog 51 #[v, .int .i64 k, .int .i64 4, .int .u32 x] w (WPost w v l (p32 l k x) (.tuple #[])) := by
  obtain ⟨g, c, rfl, hc⟩ := hv.pos (by omega)
  have hO := own_takeRow hv [] (by simp)
  have E1 := Lib.hid (wrB_4 l k x0 x1)
  clear hv
  go_enter Tryd.func51, Tryd.ntmps51
  go_wp2_with (first | ((with_reducible refine is_load ?_); (first | (refine own_ldP hO (h := ?_)) | (refine own_ld (h := ?_)))) | ((with_reducible refine is_store ?_); (first | (refine own_stRp (hO := hO) (h := ?_); clear hO; intro wv hO) | (refine own_st1p (hO := hO) (h := ?_); clear hO; intro wv hO) | (refine own_stR (hO := hO) (h := ?_); clear hO; intro wv hO) | (refine own_st1 (hO := hO) (h := ?_); clear hO; intro wv hO))) | ((with_reducible refine is_load ?_); (refine own_ldW (hO := hO) (h := ?_))) | ((with_reducible refine is_store ?_); (refine own_stW (hO := hO) (h := ?_); clear hO; intro wv hO)))
  go_loopw [8] (fun i wr' => ∃ j : Nat, j ≤ 4 ∧ i = .int .i64 j ∧ Own (Value.slice (some ⟨g, 0, none⟩) l.length c).ownBlock.toList w [] [⟨.slice (some ⟨g, 0, none⟩) l.length c, l.length, bc (wrB l k 4 x j), 5, 1⟩] [] wr') (fun i _ => 4 - (intOf i).toNat)
  case atStart => exact ⟨0, by omega, rfl, hO⟩
  case round =>
    clear hO
    obtain ⟨j, hj, rfl, hO⟩ := hrel
    have hj' : j = 0 ∨ j = 1 ∨ j = 2 ∨ j = 3 ∨ j = 4 := by omega
    rcases hj' with rfl | rfl | rfl | rfl | rfl
    · have hn := wrB_length l k 4 x 0
      have E := Lib.hid (show wrB l k 4 x (0 + 1) = (wrB l k 4 x 0).set (k + 0) (x / 16777216 % 256) from rfl)
      clear E1
      generalize wrB l k 4 x 0 = m at *
      go_wp2_with (first | ((with_reducible refine is_load ?_); (first | (refine own_ldP hO (h := ?_)) | (refine own_ld (h := ?_)))) | ((with_reducible refine is_store ?_); (first | (refine own_stRp (hO := hO) (h := ?_); clear hO; intro wv hO) | (refine own_st1p (hO := hO) (h := ?_); clear hO; intro wv hO) | (refine own_stR (hO := hO) (h := ?_); clear hO; intro wv hO) | (refine own_st1 (hO := hO) (h := ?_); clear hO; intro wv hO))) | ((with_reducible refine is_load ?_); (refine own_ldW (hO := hO) (h := ?_))) | ((with_reducible refine is_store ?_); (refine own_stW (hO := hO) (h := ?_); clear hO; intro wv hO)))
      go_roundw
      case rel => exact ⟨1, by omega, rfl, by rw [E.out, Nat.add_zero, Int.emod_eq_of_lt (by omega) (by omega)]; exact hO⟩
      case measure => simp [intOf]
    · have hn := wrB_length l k 4 x 1
      have E := Lib.hid (show wrB l k 4 x (1 + 1) = (wrB l k 4 x 1).set (k + 1) (x / 65536 % 256) from rfl)
      clear E1
      generalize wrB l k 4 x 1 = m at *
      go_wp2_with (first | ((with_reducible refine is_load ?_); (first | (refine own_ldP hO (h := ?_)) | (refine own_ld (h := ?_)))) | ((with_reducible refine is_store ?_); (first | (refine own_stRp (hO := hO) (h := ?_); clear hO; intro wv hO) | (refine own_st1p (hO := hO) (h := ?_); clear hO; intro wv hO) | (refine own_stR (hO := hO) (h := ?_); clear hO; intro wv hO) | (refine own_st1 (hO := hO) (h := ?_); clear hO; intro wv hO))) | ((with_reducible refine is_load ?_); (refine own_ldW (hO := hO) (h := ?_))) | ((with_reducible refine is_store ?_); (refine own_stW (hO := hO) (h := ?_); clear hO; intro wv hO)))
      go_roundw
      case rel => exact ⟨2, by omega, rfl, by rw [E.out]; exact hO⟩
      case measure => simp [intOf]
    · have hn := wrB_length l k 4 x 2
      have E := Lib.hid (show wrB l k 4 x (2 + 1) = (wrB l k 4 x 2).set (k + 2) (x / 256 % 256) from rfl)
      clear E1
      generalize wrB l k 4 x 2 = m at *
      go_wp2_with (first | ((with_reducible refine is_load ?_); (first | (refine own_ldP hO (h := ?_)) | (refine own_ld (h := ?_)))) | ((with_reducible refine is_store ?_); (first | (refine own_stRp (hO := hO) (h := ?_); clear hO; intro wv hO) | (refine own_st1p (hO := hO) (h := ?_); clear hO; intro wv hO) | (refine own_stR (hO := hO) (h := ?_); clear hO; intro wv hO) | (refine own_st1 (hO := hO) (h := ?_); clear hO; intro wv hO))) | ((with_reducible refine is_load ?_); (refine own_ldW (hO := hO) (h := ?_))) | ((with_reducible refine is_store ?_); (refine own_stW (hO := hO) (h := ?_); clear hO; intro wv hO)))
      go_roundw
      case rel => exact ⟨3, by omega, rfl, by rw [E.out]; exact hO⟩
      case measure => simp [intOf]
    · have hn := wrB_length l k 4 x 3
      have E := Lib.hid (show wrB l k 4 x (3 + 1) = (wrB l k 4 x 3).set (k + 3) (x / 1 % 256) from rfl)
      clear E1
      generalize wrB l k 4 x 3 = m at *
      go_wp2_with (first | ((with_reducible refine is_load ?_); (first | (refine own_ldP hO (h := ?_)) | (refine own_ld (h := ?_)))) | ((with_reducible refine is_store ?_); (first | (refine own_stRp (hO := hO) (h := ?_); clear hO; intro wv hO) | (refine own_st1p (hO := hO) (h := ?_); clear hO; intro wv hO) | (refine own_stR (hO := hO) (h := ?_); clear hO; intro wv hO) | (refine own_st1 (hO := hO) (h := ?_); clear hO; intro wv hO))) | ((with_reducible refine is_load ?_); (refine own_ldW (hO := hO) (h := ?_))) | ((with_reducible refine is_store ?_); (refine own_stW (hO := hO) (h := ?_); clear hO; intro wv hO)))
      go_roundw
      case rel => exact ⟨4, by omega, rfl, by rw [E.out, Int.ediv_one]; exact hO⟩
      case measure => simp [intOf]
    · rw [E1.out] at hO
      go_wp2_with (first | ((with_reducible refine is_load ?_); (first | (refine own_ldP hO (h := ?_)) | (refine own_ld (h := ?_)))) | ((with_reducible refine is_store ?_); (first | (refine own_stRp (hO := hO) (h := ?_); clear hO; intro wv hO) | (refine own_st1p (hO := hO) (h := ?_); clear hO; intro wv hO) | (refine own_stR (hO := hO) (h := ?_); clear hO; intro wv hO) | (refine own_st1 (hO := hO) (h := ?_); clear hO; intro wv hO))) | ((with_reducible refine is_load ?_); (refine own_ldW (hO := hO) (h := ?_))) | ((with_reducible refine is_store ?_); (refine own_stW (hO := hO) (h := ?_); clear hO; intro wv hO)))
      go_end0
      exact ⟨rfl, hO.keep, hO.row _ List.mem_cons_self⟩
end Go.Proofs.YtjfiipbjphabeaaDoor

/- The body's checksum; what it covers. -/
namespace Go.Proofs.YtjfiipbjphabeaaDoor
open Go.RowKit
set_option maxRecDepth 100000

/-- a part of some bytes -/
theorem IsB.part {w : World} {g o c : Nat} {l : List Int} (h : IsB w (.slice (some ⟨g, o, none⟩) l.length c) l) {i j c' : Nat} (hi : i ≤ j) (hj : j ≤ l.length) (hc : j - i ≤ c') : IsB w (.slice (some ⟨g, o + i, none⟩) (j - i) c') ((l.drop i).take (j - i)) := by
  have hl : ((l.drop i).take (j - i)).length = j - i := by simp; omega
  unfold IsB
  rw [hl]
  refine IsCells.sub h ?_ hc
  unfold bc
  rw [List.map_take, List.map_drop]
  simp
theorem BOk.part {l : List Int} (h : BOk l) (i n : Nat) : BOk ((l.drop i).take n) := fun x hx => h x (List.mem_of_mem_drop (List.mem_of_mem_take hx))
theorem BOk.append {l m : List Int} (h : BOk l) (k : BOk m) : BOk (l ++ m) := fun x hx => by
  rcases List.mem_append.1 hx with hx | hx
  · exact h x hx
  · exact k x hx
theorem bc_append (l m : List Int) : bc (l ++ m) = bc l ++ bc m := by simp [bc]
theorem bc_one (l : List Int) : (bc l).all (·.oneCell') = true := by simp [bc, Value.oneCell']
theorem IsB.cells {w : World} {g o c : Nat} {l : List Int} (h : IsB w (.slice (some ⟨g, o, none⟩) l.length c) l) {i n c' : Nat} (_ : i + n ≤ l.length) (hc : n ≤ c') : IsCells w (.slice (some ⟨g, o + i, none⟩) n c') n (bc ((l.drop i).take n)) := by
  refine IsCells.sub h ?_ hc
  unfold bc
  rw [List.map_take, List.map_drop]
  simp
/-- the bytes that the checksum of a body covers -/
def cov (l : List Int) : List Int :=
  if gt l 9 == 1 then l.drop 20 else (l.drop 12).take 8 ++ [0, gt l 9, ((l.length : Int) - 20) / 256, ((l.length : Int) - 20) % 256] ++ l.drop 20
set_option maxHeartbeats 2000000 in
theorem bodySum_any {v : Value} {l : List Int} (w : World) (hv : IsB w v l) (hb : BOk l) (hk : 20 ≤ l.length) (hl : l.length ≤ 65536) :
    Calls Tryd.prog 68 #[v] w fun e w' => e = .returned (.int .u16 (ck (cov l))) ∧ Below w.heap.size w w' := by
  obtain ⟨g, o, c, rfl, hc, hO⟩ := hv.pos (by omega)
  have c1 := bc_at (show 9 < l.length by omega)
  obtain ⟨b1, b2⟩ := gt_bd hb 9
  have hlen : ((l.drop 20).take (l.length - 20)) = l.drop 20 := List.take_of_length_le (by simp)
  cases hq : gt l 9 == 1
  · have HC := Lib.hid (show bc (cov l) = [] ++ bc ((l.drop 12).take 8) ++ [.int .u8 0, .int .u8 (gt l 9), .int .u8 (((l.length : Int) - 20) / 256), .int .u8 (((l.length : Int) - 20) % 256)] ++ bc ((l.drop 20).take (l.length - 20)) by
      rw [hlen]; unfold cov; rw [hq]; simp [bc])
    have HL := Lib.hid (show (cov l).length = 0 + 8 + 4 + (l.length - 20) by unfold cov; rw [hq]; simp; omega)
    have HB := Lib.hid (show BOk (cov l) by
      unfold cov; rw [hq]
      refine ((hb.part 12 8).append fun x hx => ?_).append fun x hx => hb x (List.mem_of_mem_drop hx)
      simp only [List.mem_cons, List.not_mem_nil, or_false] at hx
      omega)
    generalize gt l 9 = p at *
    generalize cov l = m at *
    clear hb hlen
    replace hO := hO.nilRow 5 1
    by_cases h20 : c = 20
    · subst h20
      have hl20 : l.length = 20 := by omega
      have HC2 := Lib.hid (show bc m = [] ++ bc ((l.drop 12).take 8) ++ [.int .u8 0, .int .u8 p, .int .u8 0, .int .u8 0] ++ bc ((l.drop 0).take 0) by rw [HC.out, hl20]; simp [bc])
      have HL2 := Lib.hid (show m.length = 12 by rw [HL.out, hl20])
      clear HC HL
      go_enter Tryd.func68, Tryd.ntmps68
      go_wp2_with (first | ((with_reducible refine is_load ?_); (first | (refine own_ldP hO (h := ?_)) | (refine own_ld (h := ?_)))) | ((with_reducible refine is_store ?_); (first | (refine own_stRp (hO := hO) (h := ?_); clear hO; intro wv hO) | (refine own_st1p (hO := hO) (h := ?_); clear hO; intro wv hO) | (refine own_stR (hO := hO) (h := ?_); clear hO; intro wv hO) | (refine own_st1 (hO := hO) (h := ?_); clear hO; intro wv hO))) | ((with_reducible refine is_append ?_); (first | (refine own_ap (o := ⟨some 17, _, _, _, _, _⟩) (hO := hO) (h := ?_); clear hO; intro g17 c17 wv hO) | (refine own_ap (o := ⟨some 28, _, _, _, _, _⟩) (hO := hO) (h := ?_); clear hO; intro g28 c28 wv hO) | (refine own_ap (o := ⟨some 32, _, _, _, _, _⟩) (hO := hO) (h := ?_); clear hO; intro g32 c32 wv hO))) | ((with_reducible refine is_append ?_); (refine own_appendP (o := ⟨some 17, _, _, _, _, _⟩) hO rfl rfl slice_u8 rfl rfl (src_of_cells (IsB.cells (hv.below hO.keep.below) (i := 12) (n := 8) (c' := 20 - 12) (by omega) (by omega)) (by simp [bc_length]; try omega)) (bc_one _) (fun _ => by repeat (first | exact UpdR.here | apply UpdR.there)) (by first | omega | (simp; omega)) (by unfold maxLen; first | omega | (simp; omega)) (by first | omega | (simp; done) | (simp; omega)) ?_); clear hO; intro g17 c17 wv hO) | ((with_reducible refine is_append ?_); (refine own_appendP (o := ⟨some 32, _, _, _, _, _⟩) hO rfl rfl slice_u8 rfl rfl (src_of_cells (IsB.cells (hv.below hO.keep.below) (i := 0) (n := 0) (c' := 0) (by omega) (by omega)) (by simp [bc_length]; try omega)) (bc_one _) (fun _ => by repeat (first | exact UpdR.here | apply UpdR.there)) (by first | omega | (simp; omega)) (by unfold maxLen; first | omega | (simp; omega)) (by first | omega | (simp; done) | (simp; omega)) ?_); clear hO; intro g32 c32 wv hO) | ((with_reducible refine is_build ?_); (refine' own_buildP (o := ⟨some 27, _, _, _, _, _⟩) [.int .u8 0, .int .u8 p, .int .u8 0, .int .u8 0] hO (by rfl) rfl slice_u8 rfl rfl (by rfl) (by decide) (by decide) ?_); clear hO; intro n27 wv hO) | (go_at_call 14; refine (cksum_any _ (by unfold IsB; rw [HL2.out, HC2.out]; exact hO.rowIs List.mem_cons_self) HB.out (by rw [HL2.out]; omega)).mono ?_; rintro e wv ⟨rfl, hb⟩; replace hO := hO.call hb; clear hb) | ((with_reducible refine is_load ?_); (refine own_ldW (hO := hO) (h := ?_))) | ((with_reducible refine is_store ?_); (refine own_stW (hO := hO) (h := ?_); clear hO; intro wv hO)))
      go_ret
      exact ⟨rfl, hO.keep.below⟩
    · go_enter Tryd.func68, Tryd.ntmps68
      go_wp2_with (first | ((with_reducible refine is_load ?_); (first | (refine own_ldP hO (h := ?_)) | (refine own_ld (h := ?_)))) | ((with_reducible refine is_store ?_); (first | (refine own_stRp (hO := hO) (h := ?_); clear hO; intro wv hO) | (refine own_st1p (hO := hO) (h := ?_); clear hO; intro wv hO) | (refine own_stR (hO := hO) (h := ?_); clear hO; intro wv hO) | (refine own_st1 (hO := hO) (h := ?_); clear hO; intro wv hO))) | ((with_reducible refine is_append ?_); (first | (refine own_ap (o := ⟨some 17, _, _, _, _, _⟩) (hO := hO) (h := ?_); clear hO; intro g17 c17 wv hO) | (refine own_ap (o := ⟨some 28, _, _, _, _, _⟩) (hO := hO) (h := ?_); clear hO; intro g28 c28 wv hO) | (refine own_ap (o := ⟨some 32, _, _, _, _, _⟩) (hO := hO) (h := ?_); clear hO; intro g32 c32 wv hO))) | ((with_reducible refine is_append ?_); (refine own_appendP (o := ⟨some 17, _, _, _, _, _⟩) hO rfl rfl slice_u8 rfl rfl (src_of_cells (IsB.cells (hv.below hO.keep.below) (i := 12) (n := 8) (c' := c - 12) (by omega) (by omega)) (by simp [bc_length]; try omega)) (bc_one _) (fun _ => by repeat (first | exact UpdR.here | apply UpdR.there)) (by first | omega | (simp; omega)) (by unfold maxLen; first | omega | (simp; omega)) (by first | omega | (simp; done) | (simp; omega)) ?_); clear hO; intro g17 c17 wv hO) | ((with_reducible refine is_append ?_); (refine own_appendP (o := ⟨some 32, _, _, _, _, _⟩) hO rfl rfl slice_u8 rfl rfl (src_of_cells (IsB.cells (hv.below hO.keep.below) (i := 20) (n := l.length - 20) (c' := c - 20) (by omega) (by omega)) (by simp [bc_length]; try omega)) (bc_one _) (fun _ => by repeat (first | exact UpdR.here | apply UpdR.there)) (by first | omega | (simp; omega)) (by unfold maxLen; first | omega | (simp; omega)) (by first | omega | (simp; done) | (simp; omega)) ?_); clear hO; intro g32 c32 wv hO) | ((with_reducible refine is_build ?_); (refine' own_buildP (o := ⟨some 27, _, _, _, _, _⟩) [.int .u8 0, .int .u8 p, .int .u8 (((l.length : Int) - 20) / 256), .int .u8 (((l.length : Int) - 20) % 256)] hO (by rfl) rfl slice_u8 rfl rfl (by rfl) (by decide) (by decide) ?_); clear hO; intro n27 wv hO) | (go_at_call 14; refine (cksum_any _ (by unfold IsB; rw [HL.out, HC.out]; exact hO.rowIs List.mem_cons_self) HB.out (by rw [HL.out]; omega)).mono ?_; rintro e wv ⟨rfl, hb⟩; replace hO := hO.call hb; clear hb) | ((with_reducible refine is_load ?_); (refine own_ldW (hO := hO) (h := ?_))) | ((with_reducible refine is_store ?_); (refine own_stW (hO := hO) (h := ?_); clear hO; intro wv hO)))
      go_ret
      exact ⟨rfl, hO.keep.below⟩
  · have HC := Lib.hid (show cov l = (l.drop 20).take (l.length - 20) by rw [hlen]; unfold cov; rw [hq]; rfl)
    have HB := Lib.hid (show BOk (cov l) by rw [HC.out]; exact hb.part 20 _)
    generalize gt l 9 = p at *
    generalize cov l = m at *
    clear hb hlen
    by_cases h20 : c = 20
    · subst h20
      have hl20 : l.length = 20 := by omega
      have HC2 := Lib.hid (show m = [] by rw [HC.out, hl20]; simp)
      clear HC
      go_enter Tryd.func68, Tryd.ntmps68
      go_wp2_with (first | ((with_reducible refine is_load ?_); (first | (refine own_ldP hO (h := ?_)) | (refine own_ld (h := ?_)))) | ((with_reducible refine is_store ?_); (first | (refine own_stRp (hO := hO) (h := ?_); clear hO; intro wv hO) | (refine own_st1p (hO := hO) (h := ?_); clear hO; intro wv hO) | (refine own_stR (hO := hO) (h := ?_); clear hO; intro wv hO) | (refine own_st1 (hO := hO) (h := ?_); clear hO; intro wv hO))) | ((with_reducible refine is_append ?_); (first | (refine own_ap (o := ⟨some 17, _, _, _, _, _⟩) (hO := hO) (h := ?_); clear hO; intro g17 c17 wv hO) | (refine own_ap (o := ⟨some 28, _, _, _, _, _⟩) (hO := hO) (h := ?_); clear hO; intro g28 c28 wv hO) | (refine own_ap (o := ⟨some 32, _, _, _, _, _⟩) (hO := hO) (h := ?_); clear hO; intro g32 c32 wv hO))) | (go_at_call 14; refine (cksum_any _ (by rw [HC2.out]; exact .inr ⟨g, o, 0, rfl, Nat.le_refl _, fun j u hj => by simp [bc] at hj⟩) HB.out (by rw [HC2.out]; simp)).mono ?_; rintro e wv ⟨rfl, hb⟩; replace hO := hO.call hb; clear hb) | ((with_reducible refine is_load ?_); (refine own_ldW (hO := hO) (h := ?_))) | ((with_reducible refine is_store ?_); (refine own_stW (hO := hO) (h := ?_); clear hO; intro wv hO)))
      go_ret
      exact ⟨rfl, hO.keep.below⟩
    · go_enter Tryd.func68, Tryd.ntmps68
      go_wp2_with (first | ((with_reducible refine is_load ?_); (first | (refine own_ldP hO (h := ?_)) | (refine own_ld (h := ?_)))) | ((with_reducible refine is_store ?_); (first | (refine own_stRp (hO := hO) (h := ?_); clear hO; intro wv hO) | (refine own_st1p (hO := hO) (h := ?_); clear hO; intro wv hO) | (refine own_stR (hO := hO) (h := ?_); clear hO; intro wv hO) | (refine own_st1 (hO := hO) (h := ?_); clear hO; intro wv hO))) | ((with_reducible refine is_append ?_); (first | (refine own_ap (o := ⟨some 17, _, _, _, _, _⟩) (hO := hO) (h := ?_); clear hO; intro g17 c17 wv hO) | (refine own_ap (o := ⟨some 28, _, _, _, _, _⟩) (hO := hO) (h := ?_); clear hO; intro g28 c28 wv hO) | (refine own_ap (o := ⟨some 32, _, _, _, _, _⟩) (hO := hO) (h := ?_); clear hO; intro g32 c32 wv hO))) | (go_at_call 14; refine (cksum_any _ (by rw [HC.out]; exact IsB.part (hv.below hO.keep.below) (i := 20) (j := l.length) (by omega) (by omega) (by omega)) HB.out (by rw [HC.out]; simp; omega)).mono ?_; rintro e wv ⟨rfl, hb⟩; replace hO := hO.call hb; clear hb) | ((with_reducible refine is_load ?_); (refine own_ldW (hO := hO) (h := ?_))) | ((with_reducible refine is_store ?_); (refine own_stW (hO := hO) (h := ?_); clear hO; intro wv hO)))
      go_ret
      exact ⟨rfl, hO.keep.below⟩
set_option maxHeartbeats 2000000 in
theorem covered_any {v : Value} {l : List Int} (w : World) (hv : IsB w v l) (hb : BOk l) (hk : 20 ≤ l.length) (hl : l.length ≤ 65536) :
    Calls Tryd.prog 71 #[v] w fun e w' => ∃ v', e = .returned v' ∧ IsB w' v' (cov l) ∧ BOk (cov l) ∧ (cov l).length ≤ 65536 ∧ Below w.heap.size w w' := by
  obtain ⟨g, o, c, rfl, hc, hO⟩ := hv.pos (by omega)
  have c1 := bc_at (show 9 < l.length by omega)
  obtain ⟨b1, b2⟩ := gt_bd hb 9
  have hlen : ((l.drop 20).take (l.length - 20)) = l.drop 20 := List.take_of_length_le (by simp)
  cases hq : gt l 9 == 1
  · have HC := Lib.hid (show bc (cov l) = [] ++ bc ((l.drop 12).take 8) ++ [.int .u8 0, .int .u8 (gt l 9), .int .u8 (((l.length : Int) - 20) / 256), .int .u8 (((l.length : Int) - 20) % 256)] ++ bc ((l.drop 20).take (l.length - 20)) by
      rw [hlen]; unfold cov; rw [hq]; simp [bc])
    have HL := Lib.hid (show (cov l).length = 0 + 8 + 4 + (l.length - 20) by unfold cov; rw [hq]; simp; omega)
    have HB := Lib.hid (show BOk (cov l) by
      unfold cov; rw [hq]
      refine ((hb.part 12 8).append fun x hx => ?_).append fun x hx => hb x (List.mem_of_mem_drop hx)
      simp only [List.mem_cons, List.not_mem_nil, or_false] at hx
      omega)
    generalize gt l 9 = p at *
    generalize cov l = m at *
    clear hb hlen
    by_cases h20 : c = 20
    · subst h20
      have hl20 : l.length = 20 := by omega
      have HC2 := Lib.hid (show bc m = [] ++ bc ((l.drop 12).take 8) ++ [.int .u8 0, .int .u8 p, .int .u8 0, .int .u8 0] ++ bc ((l.drop 0).take 0) by rw [HC.out, hl20]; simp [bc])
      have HL2 := Lib.hid (show m.length = 12 by rw [HL.out, hl20])
      clear HC HL
      go_enter Tryd.func71, Tryd.ntmps71
      go_wp2_with (first | ((with_reducible refine is_load ?_); (first | (refine own_ldP hO (h := ?_)) | (refine own_ld (h := ?_)))) | ((with_reducible refine is_store ?_); (first | (refine own_stRp (hO := hO) (h := ?_); clear hO; intro wv hO) | (refine own_st1p (hO := hO) (h := ?_); clear hO; intro wv hO) | (refine own_stR (hO := hO) (h := ?_); clear hO; intro wv hO) | (refine own_st1 (hO := hO) (h := ?_); clear hO; intro wv hO))) | ((with_reducible refine is_append ?_); (first | (refine own_ap (o := ⟨some 13, _, _, _, _, _⟩) (hO := hO) (h := ?_); clear hO; intro g13 c13 wv hO) | (refine own_ap (o := ⟨some 28, _, _, _, _, _⟩) (hO := hO) (h := ?_); clear hO; intro g28 c28 wv hO) | (refine own_ap (o := ⟨some 32, _, _, _, _, _⟩) (hO := hO) (h := ?_); clear hO; intro g32 c32 wv hO))) | ((with_reducible refine is_build ?_); (refine own_build0 (o := ⟨some 10, _, _, _, _, _⟩) hO (by rfl) rfl slice_u8 ?_); clear hO; intro n10 wv hO) | ((with_reducible refine is_append ?_); (refine own_appendP (o := ⟨some 13, _, _, _, _, _⟩) hO rfl rfl slice_u8 rfl rfl (src_of_cells (IsB.cells (hv.below hO.keep.below) (i := 12) (n := 8) (c' := 20 - 12) (by omega) (by omega)) (by simp [bc_length]; try omega)) (bc_one _) (fun _ => by repeat (first | exact UpdR.here | apply UpdR.there)) (by first | omega | (simp; omega)) (by unfold maxLen; first | omega | (simp; omega)) (by first | omega | (simp; done) | (simp; omega)) ?_); clear hO; intro g13 c13 wv hO) | ((with_reducible refine is_append ?_); (refine own_appendP (o := ⟨some 32, _, _, _, _, _⟩) hO rfl rfl slice_u8 rfl rfl (src_of_cells (IsB.cells (hv.below hO.keep.below) (i := 0) (n := 0) (c' := 0) (by omega) (by omega)) (by simp [bc_length]; try omega)) (bc_one _) (fun _ => by repeat (first | exact UpdR.here | apply UpdR.there)) (by first | omega | (simp; omega)) (by unfold maxLen; first | omega | (simp; omega)) (by first | omega | (simp; done) | (simp; omega)) ?_); clear hO; intro g32 c32 wv hO) | ((with_reducible refine is_build ?_); (refine' own_buildP (o := ⟨some 27, _, _, _, _, _⟩) [.int .u8 0, .int .u8 p, .int .u8 0, .int .u8 0] hO (by rfl) rfl slice_u8 rfl rfl (by rfl) (by decide) (by decide) ?_); clear hO; intro n27 wv hO) | ((with_reducible refine is_load ?_); (refine own_ldW (hO := hO) (h := ?_))) | ((with_reducible refine is_store ?_); (refine own_stW (hO := hO) (h := ?_); clear hO; intro wv hO)))
      go_ret
      exact ⟨_, rfl, (by unfold IsB; rw [HL2.out, HC2.out]; exact hO.rowIs List.mem_cons_self), HB.out, by rw [HL2.out]; omega, hO.keep.below⟩
    · go_enter Tryd.func71, Tryd.ntmps71
      go_wp2_with (first | ((with_reducible refine is_load ?_); (first | (refine own_ldP hO (h := ?_)) | (refine own_ld (h := ?_)))) | ((with_reducible refine is_store ?_); (first | (refine own_stRp (hO := hO) (h := ?_); clear hO; intro wv hO) | (refine own_st1p (hO := hO) (h := ?_); clear hO; intro wv hO) | (refine own_stR (hO := hO) (h := ?_); clear hO; intro wv hO) | (refine own_st1 (hO := hO) (h := ?_); clear hO; intro wv hO))) | ((with_reducible refine is_append ?_); (first | (refine own_ap (o := ⟨some 13, _, _, _, _, _⟩) (hO := hO) (h := ?_); clear hO; intro g13 c13 wv hO) | (refine own_ap (o := ⟨some 28, _, _, _, _, _⟩) (hO := hO) (h := ?_); clear hO; intro g28 c28 wv hO) | (refine own_ap (o := ⟨some 32, _, _, _, _, _⟩) (hO := hO) (h := ?_); clear hO; intro g32 c32 wv hO))) | ((with_reducible refine is_build ?_); (refine own_build0 (o := ⟨some 10, _, _, _, _, _⟩) hO (by rfl) rfl slice_u8 ?_); clear hO; intro n10 wv hO) | ((with_reducible refine is_append ?_); (refine own_appendP (o := ⟨some 13, _, _, _, _, _⟩) hO rfl rfl slice_u8 rfl rfl (src_of_cells (IsB.cells (hv.below hO.keep.below) (i := 12) (n := 8) (c' := c - 12) (by omega) (by omega)) (by simp [bc_length]; try omega)) (bc_one _) (fun _ => by repeat (first | exact UpdR.here | apply UpdR.there)) (by first | omega | (simp; omega)) (by unfold maxLen; first | omega | (simp; omega)) (by first | omega | (simp; done) | (simp; omega)) ?_); clear hO; intro g13 c13 wv hO) | ((with_reducible refine is_append ?_); (refine own_appendP (o := ⟨some 32, _, _, _, _, _⟩) hO rfl rfl slice_u8 rfl rfl (src_of_cells (IsB.cells (hv.below hO.keep.below) (i := 20) (n := l.length - 20) (c' := c - 20) (by omega) (by omega)) (by simp [bc_length]; try omega)) (bc_one _) (fun _ => by repeat (first | exact UpdR.here | apply UpdR.there)) (by first | omega | (simp; omega)) (by unfold maxLen; first | omega | (simp; omega)) (by first | omega | (simp; done) | (simp; omega)) ?_); clear hO; intro g32 c32 wv hO) | ((with_reducible refine is_build ?_); (refine' own_buildP (o := ⟨some 27, _, _, _, _, _⟩) [.int .u8 0, .int .u8 p, .int .u8 (((l.length : Int) - 20) / 256), .int .u8 (((l.length : Int) - 20) % 256)] hO (by rfl) rfl slice_u8 rfl rfl (by rfl) (by decide) (by decide) ?_); clear hO; intro n27 wv hO) | ((with_reducible refine is_load ?_); (refine own_ldW (hO := hO) (h := ?_))) | ((with_reducible refine is_store ?_); (refine own_stW (hO := hO) (h := ?_); clear hO; intro wv hO)))
      go_ret
      exact ⟨_, rfl, (by unfold IsB; rw [HL.out, HC.out]; exact hO.rowIs List.mem_cons_self), HB.out, by rw [HL.out]; omega, hO.keep.below⟩
  · have HC := Lib.hid (show cov l = (l.drop 20).take (l.length - 20) by rw [hlen]; unfold cov; rw [hq]; rfl)
    have HB := Lib.hid (show BOk (cov l) by rw [HC.out]; exact hb.part 20 _)
    generalize gt l 9 = p at *
    generalize cov l = m at *
    clear hb hlen
    by_cases h20 : c = 20
    · subst h20
      have hl20 : l.length = 20 := by omega
      have HC2 := Lib.hid (show m = [] by rw [HC.out, hl20]; simp)
      clear HC
      go_enter Tryd.func71, Tryd.ntmps71
      go_wp2_with (first | ((with_reducible refine is_load ?_); (first | (refine own_ldP hO (h := ?_)) | (refine own_ld (h := ?_)))) | ((with_reducible refine is_store ?_); (first | (refine own_stRp (hO := hO) (h := ?_); clear hO; intro wv hO) | (refine own_st1p (hO := hO) (h := ?_); clear hO; intro wv hO) | (refine own_stR (hO := hO) (h := ?_); clear hO; intro wv hO) | (refine own_st1 (hO := hO) (h := ?_); clear hO; intro wv hO))) | ((with_reducible refine is_append ?_); (first | (refine own_ap (o := ⟨some 13, _, _, _, _, _⟩) (hO := hO) (h := ?_); clear hO; intro g13 c13 wv hO) | (refine own_ap (o := ⟨some 28, _, _, _, _, _⟩) (hO := hO) (h := ?_); clear hO; intro g28 c28 wv hO) | (refine own_ap (o := ⟨some 32, _, _, _, _, _⟩) (hO := hO) (h := ?_); clear hO; intro g32 c32 wv hO))) | ((with_reducible refine is_load ?_); (refine own_ldW (hO := hO) (h := ?_))) | ((with_reducible refine is_store ?_); (refine own_stW (hO := hO) (h := ?_); clear hO; intro wv hO)))
      go_ret
      exact ⟨_, rfl, (by rw [HC2.out]; exact .inr ⟨g, o, 0, rfl, Nat.le_refl _, fun j u hj => by simp [bc] at hj⟩), HB.out, by rw [HC2.out]; simp, hO.keep.below⟩
    · go_enter Tryd.func71, Tryd.ntmps71
      go_wp2_with (first | ((with_reducible refine is_load ?_); (first | (refine own_ldP hO (h := ?_)) | (refine own_ld (h := ?_)))) | ((with_reducible refine is_store ?_); (first | (refine own_stRp (hO := hO) (h := ?_); clear hO; intro wv hO) | (refine own_st1p (hO := hO) (h := ?_); clear hO; intro wv hO) | (refine own_stR (hO := hO) (h := ?_); clear hO; intro wv hO) | (refine own_st1 (hO := hO) (h := ?_); clear hO; intro wv hO))) | ((with_reducible refine is_append ?_); (first | (refine own_ap (o := ⟨some 13, _, _, _, _, _⟩) (hO := hO) (h := ?_); clear hO; intro g13 c13 wv hO) | (refine own_ap (o := ⟨some 28, _, _, _, _, _⟩) (hO := hO) (h := ?_); clear hO; intro g28 c28 wv hO) | (refine own_ap (o := ⟨some 32, _, _, _, _, _⟩) (hO := hO) (h := ?_); clear hO; intro g32 c32 wv hO))) | ((with_reducible refine is_load ?_); (refine own_ldW (hO := hO) (h := ?_))) | ((with_reducible refine is_store ?_); (refine own_stW (hO := hO) (h := ?_); clear hO; intro wv hO)))
      go_ret
      exact ⟨_, rfl, (by rw [HC.out]; exact IsB.part (hv.below hO.keep.below) (i := 20) (j := l.length) (by omega) (by omega) (by omega)), HB.out, by rw [HC.out]; simp; omega, hO.keep.below⟩
end Go.Proofs.YtjfiipbjphabeaaDoor

/- The body's checksum is right; checksums are set. -/
namespace Go.Proofs.YtjfiipbjphabeaaDoor
open Go.RowKit
set_option maxRecDepth 100000

theorem num16_any {v : Value} {l : List Int} (k : Nat) (w : World) (hv : IsB w v l) (hb : BOk l) (hk : k + 2 ≤ l.length) (hl : l.length ≤ 140737488355328) :
    Calls Tryd.prog 63 #[v, .int .i64 k, .int .i64 2] w fun e w' => e = .returned (.int .u32 (g16 l k)) ∧ Below w.heap.size w w' := by
  have := num_any k 2 w hv hb hk (by omega) hl
  rw [nm_2] at this
  exact this
theorem num32_any {v : Value} {l : List Int} (k : Nat) (w : World) (hv : IsB w v l) (hb : BOk l) (hk : k + 4 ≤ l.length) (hl : l.length ≤ 140737488355328) :
    Calls Tryd.prog 63 #[v, .int .i64 k, .int .i64 4] w fun e w' => e = .returned (.int .u32 (g32 l k)) ∧ Below w.heap.size w w' := by
  have := num_any k 4 w hv hb hk (by omega) hl
  rw [nm_4] at this
  exact this
/-- is the body's checksum right -/
def rightF (l : List Int) : Bool :=
  if gt l 9 == 6 then ck (cov l) == 0 else if gt l 9 == 17 then (if g16 l 26 == 0 then true else ck (cov l) == 0) else if gt l 9 == 1 then ck (cov l) == 0 else true
theorem proto_cases (p : Int) : p = 6 ∨ p = 17 ∨ p = 1 ∨ ((p == 6) = false ∧ (p == 17) = false ∧ (p == 1) = false) := by
  by_cases h1 : p = 6
  · exact .inl h1
  by_cases h2 : p = 17
  · exact .inr (.inl h2)
  by_cases h3 : p = 1
  · exact .inr (.inr (.inl h3))
  · exact .inr (.inr (.inr ⟨by simpa using h1, by simpa using h2, by simpa using h3⟩))
set_option maxHeartbeats 4000000 in
theorem rightSum_any {v : Value} {l : List Int} (w : World) (hv : IsB w v l) (hb : BOk l) (hk : 20 ≤ l.length) (hl : l.length ≤ 65536) (hu : gt l 9 = 17 → 28 ≤ l.length) :
    Calls Tryd.prog 57 #[v] w fun e w' => e = .returned (.bool (rightF l)) ∧ Below w.heap.size w w' := by
  obtain ⟨g, o, c, rfl, hc, hO⟩ := hv.pos (by omega)
  have c1 := bc_at (show 9 < l.length by omega)
  have hsum := fun w hv => sumAt_any (v := .slice (some ⟨g, o, none⟩) l.length c) (l := l) w hv (by omega) (by omega)
  have hbd := fun w hv => bodySum_any (v := .slice (some ⟨g, o, none⟩) l.length c) (l := l) w hv hb hk hl
  have hg := fun (_ : 28 ≤ l.length) w hv => get16_any (v := .slice (some ⟨g, o, none⟩) l.length c) (l := l) 26 w hv hb (by omega) (by omega)
  have hR : rightF l = if gt l 9 == 6 then ck (cov l) == 0 else if gt l 9 == 17 then (if g16 l 26 == 0 then true else ck (cov l) == 0) else if gt l 9 == 1 then ck (cov l) == 0 else true := rfl
  generalize rightF l = R at *
  generalize ck (cov l) = s at *
  generalize g16 l 26 = q at *
  generalize gt l 9 = p at *
  clear hb
  rcases proto_cases p with rfl | rfl | rfl | ⟨q1, q2, q3⟩
  · replace hR := Lib.hid (show R = (s == 0) from hR)
    clear hu hg
    rw [show sumAtF 6 = 36 from rfl] at hsum
    go_enter Tryd.func57, Tryd.ntmps57
    (repeat' (first | go_skip | ((first | ((with_reducible apply wp_move_bool); (focus rfl)) | ((with_reducible apply wp_move_boolG); (focus rfl); (focus rfl))); intro cb hcb; (cases cb <;> (first | (with_reducible exact no_tf hcb) | (with_reducible exact no_ft hcb) | skip)); all_goals ((try simp only [Act.put]); (try simp only [List.setIfInBounds_toArray, List.set_cons_zero, List.set_cons_succ]))) | (go_big_may; (first | ((with_reducible refine is_load ?_); (first | (refine own_ldP hO (h := ?_)) | (refine own_ld (h := ?_)))) | ((with_reducible refine is_store ?_); (first | (refine own_stRp (hO := hO) (h := ?_); clear hO; intro wv hO) | (refine own_st1p (hO := hO) (h := ?_); clear hO; intro wv hO) | (refine own_stR (hO := hO) (h := ?_); clear hO; intro wv hO) | (refine own_st1 (hO := hO) (h := ?_); clear hO; intro wv hO))) | (go_at_call 65; refine (hsum _ (hv.below hO.keep.below)).mono ?_; rintro e wv ⟨rfl, hb⟩; replace hO := hO.call hb; clear hb) | (go_at_call 68; refine (hbd _ (hv.below hO.keep.below)).mono ?_; rintro e wv ⟨rfl, hb⟩; replace hO := hO.call hb; clear hb) | ((with_reducible refine is_load ?_); (refine own_ldW (hO := hO) (h := ?_))) | ((with_reducible refine is_store ?_); (refine own_stW (hO := hO) (h := ?_); clear hO; intro wv hO)))) | go_values | go_skip | go_guarded | go_step | go_upon | go_back | (simp only at *; go_simp) | (go_values <;> (try go_simp)) | (go_ite <;> go_prune <;> (try go_simp)) | (split <;> (first | (rename_i hx; exact (hx _ rfl).elim) | go_prune))))
    go_ret
    exact ⟨ret_bool hR.out.symm, hO.keep.below⟩
  · replace hR := Lib.hid (show R = (if q == 0 then true else s == 0) from hR)
    replace hg := hg (hu rfl)
    clear hu
    rw [show sumAtF 17 = 26 from rfl] at hsum
    go_enter Tryd.func57, Tryd.ntmps57
    (repeat' (first | go_skip | ((first | ((with_reducible apply wp_move_bool); (focus rfl)) | ((with_reducible apply wp_move_boolG); (focus rfl); (focus rfl))); intro cb hcb; (cases cb <;> (first | (with_reducible exact no_tf hcb) | (with_reducible exact no_ft hcb) | skip)); all_goals ((try simp only [Act.put]); (try simp only [List.setIfInBounds_toArray, List.set_cons_zero, List.set_cons_succ]))) | (go_big_may; (first | ((with_reducible refine is_load ?_); (first | (refine own_ldP hO (h := ?_)) | (refine own_ld (h := ?_)))) | ((with_reducible refine is_store ?_); (first | (refine own_stRp (hO := hO) (h := ?_); clear hO; intro wv hO) | (refine own_st1p (hO := hO) (h := ?_); clear hO; intro wv hO) | (refine own_stR (hO := hO) (h := ?_); clear hO; intro wv hO) | (refine own_st1 (hO := hO) (h := ?_); clear hO; intro wv hO))) | (go_at_call 65; refine (hsum _ (hv.below hO.keep.below)).mono ?_; rintro e wv ⟨rfl, hb⟩; replace hO := hO.call hb; clear hb) | (go_at_call 54; refine (hg _ (hv.below hO.keep.below)).mono ?_; rintro e wv ⟨rfl, hb⟩; replace hO := hO.call hb; clear hb) | (go_at_call 68; refine (hbd _ (hv.below hO.keep.below)).mono ?_; rintro e wv ⟨rfl, hb⟩; replace hO := hO.call hb; clear hb) | ((with_reducible refine is_load ?_); (refine own_ldW (hO := hO) (h := ?_))) | ((with_reducible refine is_store ?_); (refine own_stW (hO := hO) (h := ?_); clear hO; intro wv hO)))) | go_values | go_skip | go_guarded | go_step | go_upon | go_back | (simp only at *; go_simp) | (go_values <;> (try go_simp)) | (go_ite <;> go_prune <;> (try go_simp)) | (split <;> (first | (rename_i hx; exact (hx _ rfl).elim) | go_prune))))
    all_goals
      go_ret
      exact ⟨ret_bool (by rw [hR.out]; (repeat (first | rfl | rw [if_pos (by assumption)] | rw [if_neg (ne_true (by assumption))] | rw [if_pos (Eq.refl true)] | rw [if_neg Bool.false_ne_true]))), hO.keep.below⟩
  · replace hR := Lib.hid (show R = (s == 0) from hR)
    clear hu hg
    rw [show sumAtF 1 = 22 from rfl] at hsum
    go_enter Tryd.func57, Tryd.ntmps57
    (repeat' (first | go_skip | ((first | ((with_reducible apply wp_move_bool); (focus rfl)) | ((with_reducible apply wp_move_boolG); (focus rfl); (focus rfl))); intro cb hcb; (cases cb <;> (first | (with_reducible exact no_tf hcb) | (with_reducible exact no_ft hcb) | skip)); all_goals ((try simp only [Act.put]); (try simp only [List.setIfInBounds_toArray, List.set_cons_zero, List.set_cons_succ]))) | (go_big_may; (first | ((with_reducible refine is_load ?_); (first | (refine own_ldP hO (h := ?_)) | (refine own_ld (h := ?_)))) | ((with_reducible refine is_store ?_); (first | (refine own_stRp (hO := hO) (h := ?_); clear hO; intro wv hO) | (refine own_st1p (hO := hO) (h := ?_); clear hO; intro wv hO) | (refine own_stR (hO := hO) (h := ?_); clear hO; intro wv hO) | (refine own_st1 (hO := hO) (h := ?_); clear hO; intro wv hO))) | (go_at_call 65; refine (hsum _ (hv.below hO.keep.below)).mono ?_; rintro e wv ⟨rfl, hb⟩; replace hO := hO.call hb; clear hb) | (go_at_call 68; refine (hbd _ (hv.below hO.keep.below)).mono ?_; rintro e wv ⟨rfl, hb⟩; replace hO := hO.call hb; clear hb) | ((with_reducible refine is_load ?_); (refine own_ldW (hO := hO) (h := ?_))) | ((with_reducible refine is_store ?_); (refine own_stW (hO := hO) (h := ?_); clear hO; intro wv hO)))) | go_values | go_skip | go_guarded | go_step | go_upon | go_back | (simp only at *; go_simp) | (go_values <;> (try go_simp)) | (go_ite <;> go_prune <;> (try go_simp)) | (split <;> (first | (rename_i hx; exact (hx _ rfl).elim) | go_prune))))
    go_ret
    exact ⟨ret_bool hR.out.symm, hO.keep.below⟩
  · have e0 : sumAtF p = 0 := by unfold sumAtF; rw [q1, q2, q3]; rfl
    rw [e0] at hsum
    replace hR := Lib.hid (show R = true by rw [hR, q1, q2, q3]; rfl)
    clear hu hg e0
    go_enter Tryd.func57, Tryd.ntmps57
    (repeat' (first | go_skip | ((first | ((with_reducible apply wp_move_bool); (focus rfl)) | ((with_reducible apply wp_move_boolG); (focus rfl); (focus rfl))); intro cb hcb; (cases cb <;> (first | (with_reducible exact no_tf hcb) | (with_reducible exact no_ft hcb) | skip)); all_goals ((try simp only [Act.put]); (try simp only [List.setIfInBounds_toArray, List.set_cons_zero, List.set_cons_succ]))) | (go_big_may; (first | ((with_reducible refine is_load ?_); (first | (refine own_ldP hO (h := ?_)) | (refine own_ld (h := ?_)))) | ((with_reducible refine is_store ?_); (first | (refine own_stRp (hO := hO) (h := ?_); clear hO; intro wv hO) | (refine own_st1p (hO := hO) (h := ?_); clear hO; intro wv hO) | (refine own_stR (hO := hO) (h := ?_); clear hO; intro wv hO) | (refine own_st1 (hO := hO) (h := ?_); clear hO; intro wv hO))) | (go_at_call 65; refine (hsum _ (hv.below hO.keep.below)).mono ?_; rintro e wv ⟨rfl, hb⟩; replace hO := hO.call hb; clear hb) | ((with_reducible refine is_load ?_); (refine own_ldW (hO := hO) (h := ?_))) | ((with_reducible refine is_store ?_); (refine own_stW (hO := hO) (h := ?_); clear hO; intro wv hO)))) | go_values | go_skip | go_guarded | go_step | go_upon | go_back | (simp only at *; go_simp) | (go_values <;> (try go_simp)) | (go_ite <;> go_prune <;> (try go_simp)) | (split <;> (first | (rename_i hx; exact (hx _ rfl).elim) | go_prune))))
    go_ret
    exact ⟨ret_bool hR.out.symm, hO.keep.below⟩
set_option maxHeartbeats 4000000 in
theorem right_any {v : Value} {l : List Int} (w : World) (hv : IsB w v l) (hb : BOk l) (hk : 20 ≤ l.length) (hl : l.length ≤ 65536) (hu : gt l 9 = 17 → 28 ≤ l.length) :
    Calls Tryd.prog 81 #[v] w fun e w' => e = .returned (.bool (rightF l)) ∧ Below w.heap.size w w' := by
  obtain ⟨g, o, c, rfl, hc, hO⟩ := hv.pos (by omega)
  have c1 := bc_at (show 9 < l.length by omega)
  have hsum := fun w => rsumAt_any (gt l 9) w
  have hbd := fun w hv => covered_any (v := .slice (some ⟨g, o, none⟩) l.length c) (l := l) w hv hb hk hl
  have hg := fun (_ : 28 ≤ l.length) w hv => num16_any (v := .slice (some ⟨g, o, none⟩) l.length c) (l := l) 26 w hv hb (by omega) (by omega)
  have hck := fun v w hv => rcksum_any (v := v) (l := cov l) w hv
  have hR : rightF l = if gt l 9 == 6 then ck (cov l) == 0 else if gt l 9 == 17 then (if g16 l 26 == 0 then true else ck (cov l) == 0) else if gt l 9 == 1 then ck (cov l) == 0 else true := rfl
  generalize rightF l = R at *
  generalize cov l = cl at *
  generalize ck cl = s at *
  generalize g16 l 26 = q at *
  generalize gt l 9 = p at *
  clear hb
  rcases proto_cases p with rfl | rfl | rfl | ⟨q1, q2, q3⟩
  · replace hR := Lib.hid (show R = (s == 0) from hR)
    clear hu hg
    rw [show sumAtR 6 = 36 from rfl] at hsum
    go_enter Tryd.func81, Tryd.ntmps81
    (repeat' (first | go_skip | ((first | ((with_reducible apply wp_move_bool); (focus rfl)) | ((with_reducible apply wp_move_boolG); (focus rfl); (focus rfl))); intro cb hcb; (cases cb <;> (first | (with_reducible exact no_tf hcb) | (with_reducible exact no_ft hcb) | skip)); all_goals ((try simp only [Act.put]); (try simp only [List.setIfInBounds_toArray, List.set_cons_zero, List.set_cons_succ]))) | (go_big_may; (first | ((with_reducible refine is_load ?_); (first | (refine own_ldP hO (h := ?_)) | (refine own_ld (h := ?_)))) | ((with_reducible refine is_store ?_); (first | (refine own_stRp (hO := hO) (h := ?_); clear hO; intro wv hO) | (refine own_st1p (hO := hO) (h := ?_); clear hO; intro wv hO) | (refine own_stR (hO := hO) (h := ?_); clear hO; intro wv hO) | (refine own_st1 (hO := hO) (h := ?_); clear hO; intro wv hO))) | (go_at_call 70; refine (hsum _).mono ?_; rintro e _ ⟨rfl, rfl⟩) | (go_at_call 71; refine (hbd _ (hv.below hO.keep.below)).mono ?_; rintro e wv ⟨v2, rfl, g1, g2, g3, hb2⟩; replace hO := hO.call hb2; clear hb2) | (go_at_call 15; refine (hck _ _ g1 g2 (by omega)).mono ?_; rintro e wv ⟨rfl, hb2⟩; replace hO := hO.call hb2; clear hb2) | ((with_reducible refine is_load ?_); (refine own_ldW (hO := hO) (h := ?_))) | ((with_reducible refine is_store ?_); (refine own_stW (hO := hO) (h := ?_); clear hO; intro wv hO)))) | go_values | go_skip | go_guarded | go_step | go_upon | go_back | (simp only at *; go_simp) | (go_values <;> (try go_simp)) | (go_ite <;> go_prune <;> (try go_simp)) | (split <;> (first | (rename_i hx; exact (hx _ rfl).elim) | go_prune))))
    go_ret
    exact ⟨ret_bool hR.out.symm, hO.keep.below⟩
  · replace hR := Lib.hid (show R = (if q == 0 then true else s == 0) from hR)
    replace hg := hg (hu rfl)
    clear hu
    rw [show sumAtR 17 = 26 from rfl] at hsum
    go_enter Tryd.func81, Tryd.ntmps81
    (repeat' (first | go_skip | ((first | ((with_reducible apply wp_move_bool); (focus rfl)) | ((with_reducible apply wp_move_boolG); (focus rfl); (focus rfl))); intro cb hcb; (cases cb <;> (first | (with_reducible exact no_tf hcb) | (with_reducible exact no_ft hcb) | skip)); all_goals ((try simp only [Act.put]); (try simp only [List.setIfInBounds_toArray, List.set_cons_zero, List.set_cons_succ]))) | (go_big_may; (first | ((with_reducible refine is_load ?_); (first | (refine own_ldP hO (h := ?_)) | (refine own_ld (h := ?_)))) | ((with_reducible refine is_store ?_); (first | (refine own_stRp (hO := hO) (h := ?_); clear hO; intro wv hO) | (refine own_st1p (hO := hO) (h := ?_); clear hO; intro wv hO) | (refine own_stR (hO := hO) (h := ?_); clear hO; intro wv hO) | (refine own_st1 (hO := hO) (h := ?_); clear hO; intro wv hO))) | (go_at_call 70; refine (hsum _).mono ?_; rintro e _ ⟨rfl, rfl⟩) | (go_at_call 63; refine (hg _ (hv.below hO.keep.below)).mono ?_; rintro e wv ⟨rfl, hb⟩; replace hO := hO.call hb; clear hb) | (go_at_call 71; refine (hbd _ (hv.below hO.keep.below)).mono ?_; rintro e wv ⟨v2, rfl, g1, g2, g3, hb2⟩; replace hO := hO.call hb2; clear hb2) | (go_at_call 15; refine (hck _ _ g1 g2 (by omega)).mono ?_; rintro e wv ⟨rfl, hb2⟩; replace hO := hO.call hb2; clear hb2) | ((with_reducible refine is_load ?_); (refine own_ldW (hO := hO) (h := ?_))) | ((with_reducible refine is_store ?_); (refine own_stW (hO := hO) (h := ?_); clear hO; intro wv hO)))) | go_values | go_skip | go_guarded | go_step | go_upon | go_back | (simp only at *; go_simp) | (go_values <;> (try go_simp)) | (go_ite <;> go_prune <;> (try go_simp)) | (split <;> (first | (rename_i hx; exact (hx _ rfl).elim) | go_prune))))
    all_goals
      go_ret
      exact ⟨ret_bool (by rw [hR.out]; (repeat (first | rfl | rw [if_pos (by assumption)] | rw [if_neg (ne_true (by assumption))] | rw [if_pos (Eq.refl true)] | rw [if_neg Bool.false_ne_true]))), hO.keep.below⟩
  · replace hR := Lib.hid (show R = (s == 0) from hR)
    clear hu hg
    rw [show sumAtR 1 = 22 from rfl] at hsum
    go_enter Tryd.func81, Tryd.ntmps81
    (repeat' (first | go_skip | ((first | ((with_reducible apply wp_move_bool); (focus rfl)) | ((with_reducible apply wp_move_boolG); (focus rfl); (focus rfl))); intro cb hcb; (cases cb <;> (first | (with_reducible exact no_tf hcb) | (with_reducible exact no_ft hcb) | skip)); all_goals ((try simp only [Act.put]); (try simp only [List.setIfInBounds_toArray, List.set_cons_zero, List.set_cons_succ]))) | (go_big_may; (first | ((with_reducible refine is_load ?_); (first | (refine own_ldP hO (h := ?_)) | (refine own_ld (h := ?_)))) | ((with_reducible refine is_store ?_); (first | (refine own_stRp (hO := hO) (h := ?_); clear hO; intro wv hO) | (refine own_st1p (hO := hO) (h := ?_); clear hO; intro wv hO) | (refine own_stR (hO := hO) (h := ?_); clear hO; intro wv hO) | (refine own_st1 (hO := hO) (h := ?_); clear hO; intro wv hO))) | (go_at_call 70; refine (hsum _).mono ?_; rintro e _ ⟨rfl, rfl⟩) | (go_at_call 71; refine (hbd _ (hv.below hO.keep.below)).mono ?_; rintro e wv ⟨v2, rfl, g1, g2, g3, hb2⟩; replace hO := hO.call hb2; clear hb2) | (go_at_call 15; refine (hck _ _ g1 g2 (by omega)).mono ?_; rintro e wv ⟨rfl, hb2⟩; replace hO := hO.call hb2; clear hb2) | ((with_reducible refine is_load ?_); (refine own_ldW (hO := hO) (h := ?_))) | ((with_reducible refine is_store ?_); (refine own_stW (hO := hO) (h := ?_); clear hO; intro wv hO)))) | go_values | go_skip | go_guarded | go_step | go_upon | go_back | (simp only at *; go_simp) | (go_values <;> (try go_simp)) | (go_ite <;> go_prune <;> (try go_simp)) | (split <;> (first | (rename_i hx; exact (hx _ rfl).elim) | go_prune))))
    go_ret
    exact ⟨ret_bool hR.out.symm, hO.keep.below⟩
  · have e0 : sumAtR p = -1 := by unfold sumAtR; rw [q1, q2, q3]; rfl
    rw [e0] at hsum
    replace hR := Lib.hid (show R = true by rw [hR, q1, q2, q3]; rfl)
    clear hu hg e0
    go_enter Tryd.func81, Tryd.ntmps81
    (repeat' (first | go_skip | ((first | ((with_reducible apply wp_move_bool); (focus rfl)) | ((with_reducible apply wp_move_boolG); (focus rfl); (focus rfl))); intro cb hcb; (cases cb <;> (first | (with_reducible exact no_tf hcb) | (with_reducible exact no_ft hcb) | skip)); all_goals ((try simp only [Act.put]); (try simp only [List.setIfInBounds_toArray, List.set_cons_zero, List.set_cons_succ]))) | (go_big_may; (first | ((with_reducible refine is_load ?_); (first | (refine own_ldP hO (h := ?_)) | (refine own_ld (h := ?_)))) | ((with_reducible refine is_store ?_); (first | (refine own_stRp (hO := hO) (h := ?_); clear hO; intro wv hO) | (refine own_st1p (hO := hO) (h := ?_); clear hO; intro wv hO) | (refine own_stR (hO := hO) (h := ?_); clear hO; intro wv hO) | (refine own_st1 (hO := hO) (h := ?_); clear hO; intro wv hO))) | (go_at_call 70; refine (hsum _).mono ?_; rintro e _ ⟨rfl, rfl⟩) | ((with_reducible refine is_load ?_); (refine own_ldW (hO := hO) (h := ?_))) | ((with_reducible refine is_store ?_); (refine own_stW (hO := hO) (h := ?_); clear hO; intro wv hO)))) | go_values | go_skip | go_guarded | go_step | go_upon | go_back | (simp only at *; go_simp) | (go_values <;> (try go_simp)) | (go_ite <;> go_prune <;> (try go_simp)) | (split <;> (first | (rename_i hx; exact (hx _ rfl).elim) | go_prune))))
    go_ret
    exact ⟨ret_bool hR.out.symm, hO.keep.below⟩
end Go.Proofs.YtjfiipbjphabeaaDoor

/- Checksums are set, headers are written. -/
namespace Go.Proofs.YtjfiipbjphabeaaDoor
open Go.RowKit
set_option maxRecDepth 100000

theorem BOk.set {l : List Int} (h : BOk l) (k : Nat) {x : Int} (x0 : 0 ≤ x) (x1 : x ≤ 255) : BOk (l.set k x) := fun y hy => by
  rcases List.mem_or_eq_of_mem_set hy with h1 | rfl
  · exact h y h1
  · exact ⟨x0, x1⟩
theorem BOk.p16 {l : List Int} (h : BOk l) (k : Nat) {x : Int} (x0 : 0 ≤ x) (x1 : x ≤ 65535) : BOk (p16 l k x) := (h.set k (by omega) (by omega)).set _ (by omega) (by omega)
theorem BOk.p32 {l : List Int} (h : BOk l) (k : Nat) {x : Int} (x0 : 0 ≤ x) (x1 : x ≤ 4294967295) : BOk (p32 l k x) := (h.p16 k (by omega) (by omega)).p16 _ (by omega) (by omega)
theorem BOk.take {l : List Int} (h : BOk l) (n : Nat) : BOk (l.take n) := fun x hx => h x (List.mem_of_mem_take hx)
theorem gt_set_ne {l : List Int} {k j : Nat} {x : Int} (h : k ≠ j) : gt (l.set k x) j = gt l j := by
  unfold gt
  rw [List.getD_eq_getElem?_getD, List.getD_eq_getElem?_getD, List.getElem?_set_ne h]
theorem gt_p16_ne {l : List Int} {k j : Nat} {x : Int} (h : k ≠ j) (h' : k + 1 ≠ j) : gt (p16 l k x) j = gt l j := by
  unfold p16; rw [gt_set_ne h', gt_set_ne h]
theorem gt_p32_ne {l : List Int} {k j : Nat} {x : Int} (h : j < k ∨ k + 3 < j) : gt (p32 l k x) j = gt l j := by
  unfold p32; rw [gt_p16_ne (by omega) (by omega), gt_p16_ne (by omega) (by omega)]
theorem IsB.front {w : World} {g o n c k c' : Nat} {l : List Int} (h : IsB w (.slice (some ⟨g, o, none⟩) n c) l) (hk : k ≤ l.length) (hc : k ≤ c') : IsB w (.slice (some ⟨g, o, none⟩) k c') (l.take k) := by
  rcases h with ⟨h, _⟩ | ⟨g', o', c1, h1, _, h3⟩
  · cases h
  · cases h1
    have hl : (l.take k).length = k := by simp; omega
    refine .inr ⟨g, o, c', by rw [hl], by rw [hl]; exact hc, fun j u hj => h3 j u ?_⟩
    unfold bc at hj ⊢
    rw [List.map_take] at hj
    have := (List.getElem?_eq_some_iff.1 hj).1
    rw [List.getElem?_take] at hj
    split at hj
    · exact hj
    · cases hj
/-- the header's checksum set -/
def hdSum (l : List Int) : List Int := p16 (p16 l 10 0) 10 (ck ((p16 l 10 0).take 20))
theorem hdSum_length (l : List Int) : (hdSum l).length = l.length := by simp [hdSum, p16_length]
theorem BOk.hdSum {l : List Int} (h : BOk l) : BOk (hdSum l) := (h.p16 10 (by omega) (by omega)).p16 10 (ck_bd _).1 (ck_bd _).2
set_option maxHeartbeats 2000000 in
theorem setHead_any {v : Value} {l : List Int} (w : World) (hv : OwnsB w 0 v l) (hb : BOk l) (hk : 20 ≤ l.length) (hl : l.length ≤ 65536) :
    Calls Tryd.prog 61 #[v] w (WPost w v l (hdSum l) (.tuple #[])) := by
  obtain ⟨g, c, rfl, hc⟩ := hv.pos (by omega)
  have hO := own_takeRow hv [] (by simp)
  clear hv
  have hn := p16_length l 10 0
  have hb2 := hb.p16 10 (x := 0) (by omega) (by omega)
  have h1 := fun w hv => put16_any (v := .slice (some ⟨g, 0, none⟩) l.length c) (l := l) 10 0 w hv (by omega) (by omega) (by omega) (by omega)
  have hE := Lib.hid (show hdSum l = p16 (p16 l 10 0) 10 (ck ((p16 l 10 0).take 20)) from rfl)
  generalize p16 l 10 0 = m at *
  have h2 := fun w hv => put16_any (v := .slice (some ⟨g, 0, none⟩) l.length c) (l := m) 10 (ck (m.take 20)) w hv (by omega) (ck_bd _).1 (ck_bd _).2 (by omega)
  have h3 := fun w hv => cksum_any (v := .slice (some ⟨g, 0, none⟩) 20 c) (l := m.take 20) w hv (hb2.take 20) (by simp; omega)
  generalize ck (m.take 20) = s at *
  have HN := Lib.hid hn
  clear hn hb hb2
  go_enter Tryd.func61, Tryd.ntmps61
  go_wp2_with (first | ((with_reducible refine is_load ?_); (first | (refine own_ld (h := ?_)))) | ((with_reducible refine is_store ?_); (first | (refine own_stR (hO := hO) (h := ?_); clear hO; intro wv hO) | (refine own_st1 (hO := hO) (h := ?_); clear hO; intro wv hO))) | (go_at_call 47; refine (h1 _ (hO.row _ List.mem_cons_self)).mono ?_; rintro e wv hw; obtain rfl := hw.1; replace hO := hO.afterRow .here hw.2.1 hw.2.2; clear hw h1) | (go_at_call 14; refine (h3 _ (IsB.front (show IsB _ _ _ by unfold IsB; rw [HN.out]; exact hO.rowIs List.mem_cons_self) (by rw [HN.out]; omega) (by omega))).mono ?_; rintro e wv ⟨rfl, hb⟩; replace hO := hO.call hb; clear hb) | (go_at_call 47; refine (h2 _ (by unfold OwnsB; rw [HN.out]; exact hO.row _ List.mem_cons_self)).mono ?_; rintro e wv hw; obtain rfl := hw.1; have hw2 := hw.2.2; rw [HN.out] at hw2; replace hO := hO.afterRow .here hw.2.1 hw2; clear hw hw2 h2))
  go_end0
  exact ⟨rfl, hO.keep, by rw [hE.out]; exact hO.row _ List.mem_cons_self⟩
end Go.Proofs.YtjfiipbjphabeaaDoor

/- The checksums of packets are set. -/
namespace Go.Proofs.YtjfiipbjphabeaaDoor
open Go.RowKit
set_option maxRecDepth 100000

/-- the body's checksum set at k; u: never 0 -/
def bdSum (l : List Int) (k : Nat) (u : Bool) : List Int :=
  p16 (p16 l k 0) k (if ck (cov (p16 l k 0)) == 0 then (if u then 65535 else ck (cov (p16 l k 0))) else ck (cov (p16 l k 0)))
/-- both checksums set -/
def sumsF (l : List Int) : List Int :=
  if gt l 9 == 6 then hdSum (bdSum l 36 false) else if gt l 9 == 17 then hdSum (bdSum l 26 true) else if gt l 9 == 1 then hdSum (bdSum l 22 false) else hdSum l
set_option maxHeartbeats 8000000 in
theorem setSums_any {v : Value} {l : List Int} (w : World) (hv : OwnsB w 0 v l) (hb : BOk l) (hk : 20 ≤ l.length) (hl : l.length ≤ 65536) (hu : sumAtF (gt l 9) + 2 ≤ l.length) :
    Calls Tryd.prog 49 #[v] w (WPost w v l (sumsF l) (.tuple #[])) := by
  obtain ⟨g, c, rfl, hc⟩ := hv.pos (by omega)
  have hO := own_takeRow hv [] (by simp)
  clear hv
  have hsum := fun w hv => sumAt_any (v := .slice (some ⟨g, 0, none⟩) l.length c) (l := l) w hv (by omega) (by omega)
  rcases proto_cases (gt l 9) with hp | hp | hp | ⟨q1, q2, q3⟩
  · rw [hp, show sumAtF 6 = 36 from rfl] at hu
    rw [hp, show sumAtF 6 = 36 from rfl] at hsum
    have h1 := fun w hv => put16_any (v := .slice (some ⟨g, 0, none⟩) l.length c) (l := l) 36 0 w hv (by omega) (by omega) (by omega) (by omega)
    have hn := p16_length l 36 0
    have hb2 := hb.p16 36 (x := 0) (by omega) (by omega)
    have c9 := bc_at (l := p16 l 36 0) (k := 9) (by rw [hn]; omega)
    rw [gt_p16_ne (by omega) (by omega), hp] at c9
    have hE : sumsF l = hdSum (bdSum l 36 false) := by unfold sumsF; rw [hp]; rfl
    unfold bdSum at hE
    generalize p16 l 36 0 = m at *
    have hB := fun w hv => bodySum_any (v := .slice (some ⟨g, 0, none⟩) l.length c) (l := m) w hv hb2 (by omega) (by omega)
    obtain ⟨s0, s1⟩ := ck_bd (cov m)
    generalize ck (cov m) = s at *
    cases hs : (s == 0)
    · have hE2 := Lib.hid (show sumsF l = hdSum (p16 m 36 s) by rw [hE, hs]; rfl)
      have h2 := fun w hv => put16_any (v := .slice (some ⟨g, 0, none⟩) l.length c) (l := m) 36 s w hv (by omega) (by omega) (by omega) (by omega)
      have hn2 := (p16_length m 36 s).trans hn
      have hb3 := hb2.p16 36 (x := s) (by omega) (by omega)
      generalize p16 m 36 s = m2 at *
      have h3 := fun w hv => setHead_any (v := .slice (some ⟨g, 0, none⟩) l.length c) (l := m2) w hv hb3 (by omega) (by omega)
      have HN := Lib.hid hn
      have HN2 := Lib.hid hn2
      clear hn hn2 hb hb2 hb3 hE hp
      go_enter Tryd.func49, Tryd.ntmps49
      (repeat' (first | go_skip | ((first | ((with_reducible apply wp_move_bool); (focus rfl)) | ((with_reducible apply wp_move_boolG); (focus rfl); (focus rfl))); intro cb hcb; (cases cb <;> (first | (with_reducible exact no_tf hcb) | (with_reducible exact no_ft hcb) | skip)); all_goals ((try simp only [Act.put]); (try simp only [List.setIfInBounds_toArray, List.set_cons_zero, List.set_cons_succ]))) | (go_big_may; (first | ((with_reducible refine is_load ?_); (first | (refine own_ldP hO (h := ?_)) | (refine own_ld (h := ?_)))) | ((with_reducible refine is_store ?_); (first | (refine own_stRp (hO := hO) (h := ?_); clear hO; intro wv hO) | (refine own_st1p (hO := hO) (h := ?_); clear hO; intro wv hO) | (refine own_stR (hO := hO) (h := ?_); clear hO; intro wv hO) | (refine own_st1 (hO := hO) (h := ?_); clear hO; intro wv hO))) | (go_at_call 65; refine (hsum _ (show IsB _ _ _ by unfold IsB; exact hO.rowIs List.mem_cons_self)).mono ?_; rintro e wv ⟨rfl, hb⟩; replace hO := hO.call hb; clear hb) | (go_at_call 47; refine (h1 _ (hO.row _ List.mem_cons_self)).mono ?_; rintro e wv hw; obtain rfl := hw.1; replace hO := hO.afterRow .here hw.2.1 hw.2.2; clear hw h1) | (go_at_call 68; refine (hB _ (show IsB _ _ _ by unfold IsB; rw [HN.out]; exact hO.rowIs List.mem_cons_self)).mono ?_; rintro e wv ⟨rfl, hb⟩; replace hO := hO.call hb; clear hb) | (go_at_call 47; refine (h2 _ (by unfold OwnsB; rw [HN.out]; exact hO.row _ List.mem_cons_self)).mono ?_; rintro e wv hw; obtain rfl := hw.1; have hw2 := hw.2.2; rw [HN.out] at hw2; replace hO := hO.afterRow .here hw.2.1 hw2; clear hw hw2 h2) | (go_at_call 61; refine (h3 _ (by unfold OwnsB; rw [HN2.out]; exact hO.row _ List.mem_cons_self)).mono ?_; rintro e wv hw; obtain rfl := hw.1; have hw2 := hw.2.2; rw [HN2.out] at hw2; replace hO := hO.afterRow .here hw.2.1 hw2; clear hw hw2 h3) | ((with_reducible refine is_load ?_); (refine own_ldW (hO := hO) (h := ?_))) | ((with_reducible refine is_store ?_); (refine own_stW (hO := hO) (h := ?_); clear hO; intro wv hO)))) | go_values | go_skip | go_guarded | go_step | go_upon | go_back | (simp only at *; go_simp) | (go_values <;> (try go_simp)) | (go_ite <;> go_prune <;> (try go_simp)) | (split <;> (first | (rename_i hx; exact (hx _ rfl).elim) | go_prune))))
      go_end0
      exact ⟨rfl, hO.keep, by rw [hE2.out]; exact hO.row _ List.mem_cons_self⟩
    · have hE2 := Lib.hid (show sumsF l = hdSum (p16 m 36 s) by rw [hE, hs]; rfl)
      have h2 := fun w hv => put16_any (v := .slice (some ⟨g, 0, none⟩) l.length c) (l := m) 36 s w hv (by omega) (by omega) (by omega) (by omega)
      have hn2 := (p16_length m 36 s).trans hn
      have hb3 := hb2.p16 36 (x := s) (by omega) (by omega)
      generalize p16 m 36 s = m2 at *
      have h3 := fun w hv => setHead_any (v := .slice (some ⟨g, 0, none⟩) l.length c) (l := m2) w hv hb3 (by omega) (by omega)
      have HN := Lib.hid hn
      have HN2 := Lib.hid hn2
      clear hn hn2 hb hb2 hb3 hE hp
      go_enter Tryd.func49, Tryd.ntmps49
      (repeat' (first | go_skip | ((first | ((with_reducible apply wp_move_bool); (focus rfl)) | ((with_reducible apply wp_move_boolG); (focus rfl); (focus rfl))); intro cb hcb; (cases cb <;> (first | (with_reducible exact no_tf hcb) | (with_reducible exact no_ft hcb) | skip)); all_goals ((try simp only [Act.put]); (try simp only [List.setIfInBounds_toArray, List.set_cons_zero, List.set_cons_succ]))) | (go_big_may; (first | ((with_reducible refine is_load ?_); (first | (refine own_ldP hO (h := ?_)) | (refine own_ld (h := ?_)))) | ((with_reducible refine is_store ?_); (first | (refine own_stRp (hO := hO) (h := ?_); clear hO; intro wv hO) | (refine own_st1p (hO := hO) (h := ?_); clear hO; intro wv hO) | (refine own_stR (hO := hO) (h := ?_); clear hO; intro wv hO) | (refine own_st1 (hO := hO) (h := ?_); clear hO; intro wv hO))) | (go_at_call 65; refine (hsum _ (show IsB _ _ _ by unfold IsB; exact hO.rowIs List.mem_cons_self)).mono ?_; rintro e wv ⟨rfl, hb⟩; replace hO := hO.call hb; clear hb) | (go_at_call 47; refine (h1 _ (hO.row _ List.mem_cons_self)).mono ?_; rintro e wv hw; obtain rfl := hw.1; replace hO := hO.afterRow .here hw.2.1 hw.2.2; clear hw h1) | (go_at_call 68; refine (hB _ (show IsB _ _ _ by unfold IsB; rw [HN.out]; exact hO.rowIs List.mem_cons_self)).mono ?_; rintro e wv ⟨rfl, hb⟩; replace hO := hO.call hb; clear hb) | (go_at_call 47; refine (h2 _ (by unfold OwnsB; rw [HN.out]; exact hO.row _ List.mem_cons_self)).mono ?_; rintro e wv hw; obtain rfl := hw.1; have hw2 := hw.2.2; rw [HN.out] at hw2; replace hO := hO.afterRow .here hw.2.1 hw2; clear hw hw2 h2) | (go_at_call 61; refine (h3 _ (by unfold OwnsB; rw [HN2.out]; exact hO.row _ List.mem_cons_self)).mono ?_; rintro e wv hw; obtain rfl := hw.1; have hw2 := hw.2.2; rw [HN2.out] at hw2; replace hO := hO.afterRow .here hw.2.1 hw2; clear hw hw2 h3) | ((with_reducible refine is_load ?_); (refine own_ldW (hO := hO) (h := ?_))) | ((with_reducible refine is_store ?_); (refine own_stW (hO := hO) (h := ?_); clear hO; intro wv hO)))) | go_values | go_skip | go_guarded | go_step | go_upon | go_back | (simp only at *; go_simp) | (go_values <;> (try go_simp)) | (go_ite <;> go_prune <;> (try go_simp)) | (split <;> (first | (rename_i hx; exact (hx _ rfl).elim) | go_prune))))
      go_end0
      exact ⟨rfl, hO.keep, by rw [hE2.out]; exact hO.row _ List.mem_cons_self⟩
  · rw [hp, show sumAtF 17 = 26 from rfl] at hu
    rw [hp, show sumAtF 17 = 26 from rfl] at hsum
    have h1 := fun w hv => put16_any (v := .slice (some ⟨g, 0, none⟩) l.length c) (l := l) 26 0 w hv (by omega) (by omega) (by omega) (by omega)
    have hn := p16_length l 26 0
    have hb2 := hb.p16 26 (x := 0) (by omega) (by omega)
    have c9 := bc_at (l := p16 l 26 0) (k := 9) (by rw [hn]; omega)
    rw [gt_p16_ne (by omega) (by omega), hp] at c9
    have hE : sumsF l = hdSum (bdSum l 26 true) := by unfold sumsF; rw [hp]; rfl
    unfold bdSum at hE
    generalize p16 l 26 0 = m at *
    have hB := fun w hv => bodySum_any (v := .slice (some ⟨g, 0, none⟩) l.length c) (l := m) w hv hb2 (by omega) (by omega)
    obtain ⟨s0, s1⟩ := ck_bd (cov m)
    generalize ck (cov m) = s at *
    cases hs : (s == 0)
    · have hE2 := Lib.hid (show sumsF l = hdSum (p16 m 26 s) by rw [hE, hs]; rfl)
      have h2 := fun w hv => put16_any (v := .slice (some ⟨g, 0, none⟩) l.length c) (l := m) 26 s w hv (by omega) (by omega) (by omega) (by omega)
      have hn2 := (p16_length m 26 s).trans hn
      have hb3 := hb2.p16 26 (x := s) (by omega) (by omega)
      generalize p16 m 26 s = m2 at *
      have h3 := fun w hv => setHead_any (v := .slice (some ⟨g, 0, none⟩) l.length c) (l := m2) w hv hb3 (by omega) (by omega)
      have HN := Lib.hid hn
      have HN2 := Lib.hid hn2
      clear hn hn2 hb hb2 hb3 hE hp
      go_enter Tryd.func49, Tryd.ntmps49
      (repeat' (first | go_skip | ((first | ((with_reducible apply wp_move_bool); (focus rfl)) | ((with_reducible apply wp_move_boolG); (focus rfl); (focus rfl))); intro cb hcb; (cases cb <;> (first | (with_reducible exact no_tf hcb) | (with_reducible exact no_ft hcb) | skip)); all_goals ((try simp only [Act.put]); (try simp only [List.setIfInBounds_toArray, List.set_cons_zero, List.set_cons_succ]))) | (go_big_may; (first | ((with_reducible refine is_load ?_); (first | (refine own_ldP hO (h := ?_)) | (refine own_ld (h := ?_)))) | ((with_reducible refine is_store ?_); (first | (refine own_stRp (hO := hO) (h := ?_); clear hO; intro wv hO) | (refine own_st1p (hO := hO) (h := ?_); clear hO; intro wv hO) | (refine own_stR (hO := hO) (h := ?_); clear hO; intro wv hO) | (refine own_st1 (hO := hO) (h := ?_); clear hO; intro wv hO))) | (go_at_call 65; refine (hsum _ (show IsB _ _ _ by unfold IsB; exact hO.rowIs List.mem_cons_self)).mono ?_; rintro e wv ⟨rfl, hb⟩; replace hO := hO.call hb; clear hb) | (go_at_call 47; refine (h1 _ (hO.row _ List.mem_cons_self)).mono ?_; rintro e wv hw; obtain rfl := hw.1; replace hO := hO.afterRow .here hw.2.1 hw.2.2; clear hw h1) | (go_at_call 68; refine (hB _ (show IsB _ _ _ by unfold IsB; rw [HN.out]; exact hO.rowIs List.mem_cons_self)).mono ?_; rintro e wv ⟨rfl, hb⟩; replace hO := hO.call hb; clear hb) | (go_at_call 47; refine (h2 _ (by unfold OwnsB; rw [HN.out]; exact hO.row _ List.mem_cons_self)).mono ?_; rintro e wv hw; obtain rfl := hw.1; have hw2 := hw.2.2; rw [HN.out] at hw2; replace hO := hO.afterRow .here hw.2.1 hw2; clear hw hw2 h2) | (go_at_call 61; refine (h3 _ (by unfold OwnsB; rw [HN2.out]; exact hO.row _ List.mem_cons_self)).mono ?_; rintro e wv hw; obtain rfl := hw.1; have hw2 := hw.2.2; rw [HN2.out] at hw2; replace hO := hO.afterRow .here hw.2.1 hw2; clear hw hw2 h3) | ((with_reducible refine is_load ?_); (refine own_ldW (hO := hO) (h := ?_))) | ((with_reducible refine is_store ?_); (refine own_stW (hO := hO) (h := ?_); clear hO; intro wv hO)))) | go_values | go_skip | go_guarded | go_step | go_upon | go_back | (simp only at *; go_simp) | (go_values <;> (try go_simp)) | (go_ite <;> go_prune <;> (try go_simp)) | (split <;> (first | (rename_i hx; exact (hx _ rfl).elim) | go_prune))))
      go_end0
      exact ⟨rfl, hO.keep, by rw [hE2.out]; exact hO.row _ List.mem_cons_self⟩
    · have hE2 := Lib.hid (show sumsF l = hdSum (p16 m 26 65535) by rw [hE, hs]; rfl)
      have h2 := fun w hv => put16_any (v := .slice (some ⟨g, 0, none⟩) l.length c) (l := m) 26 65535 w hv (by omega) (by omega) (by omega) (by omega)
      have hn2 := (p16_length m 26 65535).trans hn
      have hb3 := hb2.p16 26 (x := 65535) (by omega) (by omega)
      generalize p16 m 26 65535 = m2 at *
      have h3 := fun w hv => setHead_any (v := .slice (some ⟨g, 0, none⟩) l.length c) (l := m2) w hv hb3 (by omega) (by omega)
      have HN := Lib.hid hn
      have HN2 := Lib.hid hn2
      clear hn hn2 hb hb2 hb3 hE hp
      go_enter Tryd.func49, Tryd.ntmps49
      (repeat' (first | go_skip | ((first | ((with_reducible apply wp_move_bool); (focus rfl)) | ((with_reducible apply wp_move_boolG); (focus rfl); (focus rfl))); intro cb hcb; (cases cb <;> (first | (with_reducible exact no_tf hcb) | (with_reducible exact no_ft hcb) | skip)); all_goals ((try simp only [Act.put]); (try simp only [List.setIfInBounds_toArray, List.set_cons_zero, List.set_cons_succ]))) | (go_big_may; (first | ((with_reducible refine is_load ?_); (first | (refine own_ldP hO (h := ?_)) | (refine own_ld (h := ?_)))) | ((with_reducible refine is_store ?_); (first | (refine own_stRp (hO := hO) (h := ?_); clear hO; intro wv hO) | (refine own_st1p (hO := hO) (h := ?_); clear hO; intro wv hO) | (refine own_stR (hO := hO) (h := ?_); clear hO; intro wv hO) | (refine own_st1 (hO := hO) (h := ?_); clear hO; intro wv hO))) | (go_at_call 65; refine (hsum _ (show IsB _ _ _ by unfold IsB; exact hO.rowIs List.mem_cons_self)).mono ?_; rintro e wv ⟨rfl, hb⟩; replace hO := hO.call hb; clear hb) | (go_at_call 47; refine (h1 _ (hO.row _ List.mem_cons_self)).mono ?_; rintro e wv hw; obtain rfl := hw.1; replace hO := hO.afterRow .here hw.2.1 hw.2.2; clear hw h1) | (go_at_call 68; refine (hB _ (show IsB _ _ _ by unfold IsB; rw [HN.out]; exact hO.rowIs List.mem_cons_self)).mono ?_; rintro e wv ⟨rfl, hb⟩; replace hO := hO.call hb; clear hb) | (go_at_call 47; refine (h2 _ (by unfold OwnsB; rw [HN.out]; exact hO.row _ List.mem_cons_self)).mono ?_; rintro e wv hw; obtain rfl := hw.1; have hw2 := hw.2.2; rw [HN.out] at hw2; replace hO := hO.afterRow .here hw.2.1 hw2; clear hw hw2 h2) | (go_at_call 61; refine (h3 _ (by unfold OwnsB; rw [HN2.out]; exact hO.row _ List.mem_cons_self)).mono ?_; rintro e wv hw; obtain rfl := hw.1; have hw2 := hw.2.2; rw [HN2.out] at hw2; replace hO := hO.afterRow .here hw.2.1 hw2; clear hw hw2 h3) | ((with_reducible refine is_load ?_); (refine own_ldW (hO := hO) (h := ?_))) | ((with_reducible refine is_store ?_); (refine own_stW (hO := hO) (h := ?_); clear hO; intro wv hO)))) | go_values | go_skip | go_guarded | go_step | go_upon | go_back | (simp only at *; go_simp) | (go_values <;> (try go_simp)) | (go_ite <;> go_prune <;> (try go_simp)) | (split <;> (first | (rename_i hx; exact (hx _ rfl).elim) | go_prune))))
      go_end0
      exact ⟨rfl, hO.keep, by rw [hE2.out]; exact hO.row _ List.mem_cons_self⟩
  · rw [hp, show sumAtF 1 = 22 from rfl] at hu
    rw [hp, show sumAtF 1 = 22 from rfl] at hsum
    have h1 := fun w hv => put16_any (v := .slice (some ⟨g, 0, none⟩) l.length c) (l := l) 22 0 w hv (by omega) (by omega) (by omega) (by omega)
    have hn := p16_length l 22 0
    have hb2 := hb.p16 22 (x := 0) (by omega) (by omega)
    have c9 := bc_at (l := p16 l 22 0) (k := 9) (by rw [hn]; omega)
    rw [gt_p16_ne (by omega) (by omega), hp] at c9
    have hE : sumsF l = hdSum (bdSum l 22 false) := by unfold sumsF; rw [hp]; rfl
    unfold bdSum at hE
    generalize p16 l 22 0 = m at *
    have hB := fun w hv => bodySum_any (v := .slice (some ⟨g, 0, none⟩) l.length c) (l := m) w hv hb2 (by omega) (by omega)
    obtain ⟨s0, s1⟩ := ck_bd (cov m)
    generalize ck (cov m) = s at *
    cases hs : (s == 0)
    · have hE2 := Lib.hid (show sumsF l = hdSum (p16 m 22 s) by rw [hE, hs]; rfl)
      have h2 := fun w hv => put16_any (v := .slice (some ⟨g, 0, none⟩) l.length c) (l := m) 22 s w hv (by omega) (by omega) (by omega) (by omega)
      have hn2 := (p16_length m 22 s).trans hn
      have hb3 := hb2.p16 22 (x := s) (by omega) (by omega)
      generalize p16 m 22 s = m2 at *
      have h3 := fun w hv => setHead_any (v := .slice (some ⟨g, 0, none⟩) l.length c) (l := m2) w hv hb3 (by omega) (by omega)
      have HN := Lib.hid hn
      have HN2 := Lib.hid hn2
      clear hn hn2 hb hb2 hb3 hE hp
      go_enter Tryd.func49, Tryd.ntmps49
      (repeat' (first | go_skip | ((first | ((with_reducible apply wp_move_bool); (focus rfl)) | ((with_reducible apply wp_move_boolG); (focus rfl); (focus rfl))); intro cb hcb; (cases cb <;> (first | (with_reducible exact no_tf hcb) | (with_reducible exact no_ft hcb) | skip)); all_goals ((try simp only [Act.put]); (try simp only [List.setIfInBounds_toArray, List.set_cons_zero, List.set_cons_succ]))) | (go_big_may; (first | ((with_reducible refine is_load ?_); (first | (refine own_ldP hO (h := ?_)) | (refine own_ld (h := ?_)))) | ((with_reducible refine is_store ?_); (first | (refine own_stRp (hO := hO) (h := ?_); clear hO; intro wv hO) | (refine own_st1p (hO := hO) (h := ?_); clear hO; intro wv hO) | (refine own_stR (hO := hO) (h := ?_); clear hO; intro wv hO) | (refine own_st1 (hO := hO) (h := ?_); clear hO; intro wv hO))) | (go_at_call 65; refine (hsum _ (show IsB _ _ _ by unfold IsB; exact hO.rowIs List.mem_cons_self)).mono ?_; rintro e wv ⟨rfl, hb⟩; replace hO := hO.call hb; clear hb) | (go_at_call 47; refine (h1 _ (hO.row _ List.mem_cons_self)).mono ?_; rintro e wv hw; obtain rfl := hw.1; replace hO := hO.afterRow .here hw.2.1 hw.2.2; clear hw h1) | (go_at_call 68; refine (hB _ (show IsB _ _ _ by unfold IsB; rw [HN.out]; exact hO.rowIs List.mem_cons_self)).mono ?_; rintro e wv ⟨rfl, hb⟩; replace hO := hO.call hb; clear hb) | (go_at_call 47; refine (h2 _ (by unfold OwnsB; rw [HN.out]; exact hO.row _ List.mem_cons_self)).mono ?_; rintro e wv hw; obtain rfl := hw.1; have hw2 := hw.2.2; rw [HN.out] at hw2; replace hO := hO.afterRow .here hw.2.1 hw2; clear hw hw2 h2) | (go_at_call 61; refine (h3 _ (by unfold OwnsB; rw [HN2.out]; exact hO.row _ List.mem_cons_self)).mono ?_; rintro e wv hw; obtain rfl := hw.1; have hw2 := hw.2.2; rw [HN2.out] at hw2; replace hO := hO.afterRow .here hw.2.1 hw2; clear hw hw2 h3) | ((with_reducible refine is_load ?_); (refine own_ldW (hO := hO) (h := ?_))) | ((with_reducible refine is_store ?_); (refine own_stW (hO := hO) (h := ?_); clear hO; intro wv hO)))) | go_values | go_skip | go_guarded | go_step | go_upon | go_back | (simp only at *; go_simp) | (go_values <;> (try go_simp)) | (go_ite <;> go_prune <;> (try go_simp)) | (split <;> (first | (rename_i hx; exact (hx _ rfl).elim) | go_prune))))
      go_end0
      exact ⟨rfl, hO.keep, by rw [hE2.out]; exact hO.row _ List.mem_cons_self⟩
    · have hE2 := Lib.hid (show sumsF l = hdSum (p16 m 22 s) by rw [hE, hs]; rfl)
      have h2 := fun w hv => put16_any (v := .slice (some ⟨g, 0, none⟩) l.length c) (l := m) 22 s w hv (by omega) (by omega) (by omega) (by omega)
      have hn2 := (p16_length m 22 s).trans hn
      have hb3 := hb2.p16 22 (x := s) (by omega) (by omega)
      generalize p16 m 22 s = m2 at *
      have h3 := fun w hv => setHead_any (v := .slice (some ⟨g, 0, none⟩) l.length c) (l := m2) w hv hb3 (by omega) (by omega)
      have HN := Lib.hid hn
      have HN2 := Lib.hid hn2
      clear hn hn2 hb hb2 hb3 hE hp
      go_enter Tryd.func49, Tryd.ntmps49
      (repeat' (first | go_skip | ((first | ((with_reducible apply wp_move_bool); (focus rfl)) | ((with_reducible apply wp_move_boolG); (focus rfl); (focus rfl))); intro cb hcb; (cases cb <;> (first | (with_reducible exact no_tf hcb) | (with_reducible exact no_ft hcb) | skip)); all_goals ((try simp only [Act.put]); (try simp only [List.setIfInBounds_toArray, List.set_cons_zero, List.set_cons_succ]))) | (go_big_may; (first | ((with_reducible refine is_load ?_); (first | (refine own_ldP hO (h := ?_)) | (refine own_ld (h := ?_)))) | ((with_reducible refine is_store ?_); (first | (refine own_stRp (hO := hO) (h := ?_); clear hO; intro wv hO) | (refine own_st1p (hO := hO) (h := ?_); clear hO; intro wv hO) | (refine own_stR (hO := hO) (h := ?_); clear hO; intro wv hO) | (refine own_st1 (hO := hO) (h := ?_); clear hO; intro wv hO))) | (go_at_call 65; refine (hsum _ (show IsB _ _ _ by unfold IsB; exact hO.rowIs List.mem_cons_self)).mono ?_; rintro e wv ⟨rfl, hb⟩; replace hO := hO.call hb; clear hb) | (go_at_call 47; refine (h1 _ (hO.row _ List.mem_cons_self)).mono ?_; rintro e wv hw; obtain rfl := hw.1; replace hO := hO.afterRow .here hw.2.1 hw.2.2; clear hw h1) | (go_at_call 68; refine (hB _ (show IsB _ _ _ by unfold IsB; rw [HN.out]; exact hO.rowIs List.mem_cons_self)).mono ?_; rintro e wv ⟨rfl, hb⟩; replace hO := hO.call hb; clear hb) | (go_at_call 47; refine (h2 _ (by unfold OwnsB; rw [HN.out]; exact hO.row _ List.mem_cons_self)).mono ?_; rintro e wv hw; obtain rfl := hw.1; have hw2 := hw.2.2; rw [HN.out] at hw2; replace hO := hO.afterRow .here hw.2.1 hw2; clear hw hw2 h2) | (go_at_call 61; refine (h3 _ (by unfold OwnsB; rw [HN2.out]; exact hO.row _ List.mem_cons_self)).mono ?_; rintro e wv hw; obtain rfl := hw.1; have hw2 := hw.2.2; rw [HN2.out] at hw2; replace hO := hO.afterRow .here hw.2.1 hw2; clear hw hw2 h3) | ((with_reducible refine is_load ?_); (refine own_ldW (hO := hO) (h := ?_))) | ((with_reducible refine is_store ?_); (refine own_stW (hO := hO) (h := ?_); clear hO; intro wv hO)))) | go_values | go_skip | go_guarded | go_step | go_upon | go_back | (simp only at *; go_simp) | (go_values <;> (try go_simp)) | (go_ite <;> go_prune <;> (try go_simp)) | (split <;> (first | (rename_i hx; exact (hx _ rfl).elim) | go_prune))))
      go_end0
      exact ⟨rfl, hO.keep, by rw [hE2.out]; exact hO.row _ List.mem_cons_self⟩
  · have e0 : sumAtF (gt l 9) = 0 := by unfold sumAtF; rw [q1, q2, q3]; rfl
    rw [e0] at hsum
    have hE2 := Lib.hid (show sumsF l = hdSum l by unfold sumsF; rw [q1, q2, q3]; rfl)
    have h3 := fun w hv => setHead_any (v := .slice (some ⟨g, 0, none⟩) l.length c) (l := l) w hv hb (by omega) (by omega)
    clear hb hu e0 q1 q2 q3
    go_enter Tryd.func49, Tryd.ntmps49
    go_wp2_with (first | ((with_reducible refine is_load ?_); (first | (refine own_ldP hO (h := ?_)) | (refine own_ld (h := ?_)))) | ((with_reducible refine is_store ?_); (first | (refine own_stRp (hO := hO) (h := ?_); clear hO; intro wv hO) | (refine own_st1p (hO := hO) (h := ?_); clear hO; intro wv hO) | (refine own_stR (hO := hO) (h := ?_); clear hO; intro wv hO) | (refine own_st1 (hO := hO) (h := ?_); clear hO; intro wv hO))) | (go_at_call 65; refine (hsum _ (show IsB _ _ _ by unfold IsB; exact hO.rowIs List.mem_cons_self)).mono ?_; rintro e wv ⟨rfl, hb⟩; replace hO := hO.call hb; clear hb) | (go_at_call 61; refine (h3 _ (hO.row _ List.mem_cons_self)).mono ?_; rintro e wv hw; obtain rfl := hw.1; replace hO := hO.afterRow .here hw.2.1 hw.2.2; clear hw h3) | ((with_reducible refine is_load ?_); (refine own_ldW (hO := hO) (h := ?_))) | ((with_reducible refine is_store ?_); (refine own_stW (hO := hO) (h := ?_); clear hO; intro wv hO)))
    go_end0
    exact ⟨rfl, hO.keep, by rw [hE2.out]; exact hO.row _ List.mem_cons_self⟩
end Go.Proofs.YtjfiipbjphabeaaDoor
