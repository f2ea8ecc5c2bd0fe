/- The tape of the generators: what is known of it, its laws, Mod and Next. -/
import Derived.Test.YtnhjcbmlplfpmaaDoorLawFld
import Derived.Test.YtnhjcbmlplfpmaaDoorBuild
import Derived.Test.YtnhjcbmlplfpmaaDoorSepM
namespace Go.Proofs.YtnhjcbmlplfpmaaDoor
open Go.RowKit
set_option maxRecDepth 100000

theorem row_Tape : RowT Tryd.prog 66 2 := ⟨_, Tryd.underlying66, rfl, by kernel_rfl⟩
theorem one_ints : OneT Tryd.prog 39 := ⟨_, Tryd.underlying39, rfl, by kernel_rfl⟩
abbrev ints (zs : List Int) : List Value := zs.map fun z => .int .i64 z
theorem ints_at {zs : List Int} {k : Nat} (h : k < zs.length) : (ints zs)[k]? = some (.int .i64 zs[k]) := by simp [h]
/-- the tape's two cells -/
abbrev tcs (sl : Value) (i : Nat) : List Value := [sl, .int .i64 i]
/-- the list of the tape, and its numbers -/
structure ZsOk (sl : Value) (zs : List Int) : Prop where
  view : ∃ a c, sl = .slice a zs.length c ∧ (0 < zs.length → ∃ g o, a = some ⟨g, o, none⟩)
  bd : ∀ z ∈ zs, -9223372036854775808 ≤ z ∧ z ≤ 9223372036854775807
  len : zs.length ≤ 9223372036854775807
/-- a tape in memory -/
structure TapeIn (w : World) (n : Nat) (sl : Value) (zs : List Int) (i : Nat) : Prop where
  blk : Blk w n (tcs sl i) 66
  le : i ≤ zs.length
  rd : ∀ s ∈ roS sl (ints zs), w.rangeAt s.g s.o s.xs ∧ (s.xs ≠ [] → s.g ≠ n)
def TPost (w : World) (n : Nat) (sl : Value) (zs : List Int) (Φ : Value → World → Prop) (e : Ending) (w' : World) : Prop :=
  ∃ v i', e = .returned v ∧ Φ v w' ∧ Keep [n] w w' ∧ TapeIn w' n sl zs i'
theorem Own.takeIn {w : World} {n : Nat} {cs : List Value} {t : TypeId} (hb : Blk w n cs t) (S : List Ro) (hS : ∀ s ∈ S, w.rangeAt s.g s.o s.xs ∧ (s.xs ≠ [] → s.g ≠ n)) : Own [n] w [⟨n, cs, t⟩] [] S w :=
  ⟨Keep.refl _ _, fun c hc => by obtain rfl := List.mem_singleton.1 hc; exact hb, fun r hr => (by cases hr), fun s hs => (hS s hs).1, by simp [excl], fun k hk => .inl (by simpa [excl] using hk), fun s hs hne => by simpa [excl] using (hS s hs).2 hne⟩
theorem own_tape {w : World} {n : Nat} {sl : Value} {zs : List Int} {i : Nat} (hT : TapeIn w n sl zs i) : Own [n] w [⟨n, tcs sl i, 66⟩] [] (roS sl (ints zs)) w :=
  Own.takeIn hT.blk _ hT.rd
section
variable {M : List Nat} {w0 w : World} {X : List Chunk} {R : List Row} {S : List Ro} {n : Nat} {sl : Value} {zs : List Int} {i : Nat}
theorem Own.tapeIn (hO : Own M w0 X R S w) (hm : (⟨n, tcs sl i, 66⟩ : Chunk) ∈ X) (hS : ∀ s ∈ roS sl (ints zs), s ∈ S) (hi : i ≤ zs.length) : TapeIn w n sl zs i :=
  ⟨hO.chunk _ hm, hi, fun s hs => ⟨hO.ro s (hS s hs), fun hne e => hO.apart s (hS s hs) hne (by rw [e]; exact List.mem_append.2 (.inl (List.mem_map.2 ⟨_, hm, rfl⟩)))⟩⟩
theorem tpost {Φ : Value → World → Prop} {v : Value} {X : List Chunk} (hO : Own [n] w0 X R S w) (hm : (⟨n, tcs sl i, 66⟩ : Chunk) ∈ X) (hS : ∀ s ∈ roS sl (ints zs), s ∈ S) (hi : i ≤ zs.length) (hv : Φ v w) : TPost w0 n sl zs Φ (.returned v) w :=
  ⟨v, i, rfl, hv, hO.keep, hO.tapeIn hm hS hi⟩
end
theorem TPost.mono {w : World} {n : Nat} {sl : Value} {zs : List Int} {Φ Ψ : Value → World → Prop} {e : Ending} {w' : World} (h : TPost w n sl zs Φ e w') (hi : ∀ v w, Φ v w → Ψ v w) : TPost w n sl zs Ψ e w' := by
  obtain ⟨v, i, h1, h2, h3, h4⟩ := h
  exact ⟨v, i, h1, hi _ _ h2, h3, h4⟩

def modI (v n : Int) : Int := (IntKind.u64.wrap v).tmod n
theorem modI_bd (v : Int) {n : Int} (h : 0 < n) : 0 ≤ modI v n ∧ modI v n < n := by
  have : 0 ≤ IntKind.u64.wrap v := by simp [IntKind.wrap, IntKind.signed, IntKind.bits]; omega
  exact ⟨Int.tmod_nonneg _ this, Int.tmod_lt_of_pos _ h⟩
theorem mod_is (v n : Int) (w : World) (h0 : 0 < n) (h1 : n ≤ 9223372036854775807) : Calls Tryd.prog 23 #[.int .i64 v, .int .i64 n] w fun e w' => e = .returned (.int .i64 (modI v n)) ∧ w = w' := by
  have hn : (n == 0) = false := by simp; omega
  have hn2 : n ≠ 0 := by omega
  have e1 : IntKind.u64.wrap n = n := by simp [IntKind.wrap, IntKind.signed, IntKind.bits]; omega
  have hb := modI_bd v h0
  have ⟨r, hr, hr0, hr1⟩ : ∃ r, (IntKind.u64.wrap v).tmod n = r ∧ 0 ≤ r ∧ r < n := ⟨_, rfl, hb.1, hb.2⟩
  have E := Lib.hid (show modI v n = r from hr)
  clear hb
  have e2 : IntKind.i64.wrap r = r := by simp [IntKind.wrap, IntKind.signed, IntKind.bits]; omega
  have e3 : IntKind.u64.wrap r = r := by simp [IntKind.wrap, IntKind.signed, IntKind.bits]; omega
  go_enter Tryd.func23, Tryd.ntmps23
  go_wp2
  go_ret
  exact ⟨ret_int E.out.symm, rfl⟩

/-- the next choice -/
def Small (m : Int) : Value → World → Prop := fun v _ => ∃ r, v = .int .i64 r ∧ 0 ≤ r ∧ (r < m ∨ r = 0)
set_option maxHeartbeats 1000000 in
theorem next_any {w : World} {n : Nat} {sl : Value} {zs : List Int} {i : Nat} (m : Int) (hZ : ZsOk sl zs) (hT : TapeIn w n sl zs i) (hm : m ≤ 9223372036854775807) :
    Calls Tryd.prog 18 #[.pointer (some ⟨n, 0, none⟩), .int .i64 m] w (TPost w n sl zs (Small m)) := by
  obtain ⟨a, c, rfl, ha⟩ := hZ.view
  have hO := own_tape hT
  have hle := hT.le
  have hlen := hZ.len
  clear hT
  by_cases h1 : m ≤ 1
  · have h1' : decide (m ≤ 1) = true := by simp [h1]
    go_enter Tryd.func18, Tryd.ntmps18
    go_wp2_with (first | ((with_reducible refine is_load ?_); (first | (refine own_ld (h := ?_)))) | ((with_reducible refine is_store ?_); (first | (refine own_stR (hO := hO) (h := ?_); clear hO; intro wv hO) | (refine own_st1 (hO := hO) (h := ?_); clear hO; intro wv hO))))
    (try simp only [Act.put]); (refine own_quiet hO (by kernel_rfl) (by kernel_rfl) ?_; clear hO; (repeat (first | go_big_quiet_skip | (go_big_quiet_want; (first | ((with_reducible refine is_loadQ ?_); (first | (refine q_ld (h := ?_))); (try simp only [Act.put]); (try simp only [List.setIfInBounds_toArray, List.set_cons_zero, List.set_cons_succ]); go_big_quiet_on) | (go_big_quiet_op; (first | go_big_quiet_on | ((refine ⟨_, fun _ _ => rfl, ?_⟩); go_big_quiet_on) | go_big_quiet_call (fail))))))); (refine wpQuiet_nil ?_); intro wv hO)
    go_wp2_with (first | ((with_reducible refine is_load ?_); (first | (refine own_ld (h := ?_)))) | ((with_reducible refine is_store ?_); (first | (refine own_stR (hO := hO) (h := ?_); clear hO; intro wv hO) | (refine own_st1 (hO := hO) (h := ?_); clear hO; intro wv hO))))
    go_ret
    exact tpost hO List.mem_cons_self (fun _ h => h) hle ⟨0, rfl, by omega, .inr rfl⟩
  · have h1' : decide (m ≤ 1) = false := by simp [h1]
    by_cases h2 : zs.length ≤ i
    · have h2' : decide (zs.length ≤ i) = true := by simp [h2]
      go_enter Tryd.func18, Tryd.ntmps18
      go_wp2_with (first | ((with_reducible refine is_load ?_); (first | (refine own_ld (h := ?_)))) | ((with_reducible refine is_store ?_); (first | (refine own_stR (hO := hO) (h := ?_); clear hO; intro wv hO) | (refine own_st1 (hO := hO) (h := ?_); clear hO; intro wv hO))))
      (try simp only [Act.put]); (refine own_quiet hO (by kernel_rfl) (by kernel_rfl) ?_; clear hO; (repeat (first | go_big_quiet_skip | (go_big_quiet_want; (first | ((with_reducible refine is_loadQ ?_); (first | (refine q_ld (h := ?_))); (try simp only [Act.put]); (try simp only [List.setIfInBounds_toArray, List.set_cons_zero, List.set_cons_succ]); go_big_quiet_on) | (go_big_quiet_op; (first | go_big_quiet_on | ((refine ⟨_, fun _ _ => rfl, ?_⟩); go_big_quiet_on) | go_big_quiet_call (fail))))))); (refine wpQuiet_nil ?_); intro wv hO)
      go_wp2_with (first | ((with_reducible refine is_load ?_); (first | (refine own_ld (h := ?_)))) | ((with_reducible refine is_store ?_); (first | (refine own_stR (hO := hO) (h := ?_); clear hO; intro wv hO) | (refine own_st1 (hO := hO) (h := ?_); clear hO; intro wv hO))))
      go_ret
      exact tpost hO List.mem_cons_self (fun _ h => h) hle ⟨0, rfl, by omega, .inr rfl⟩
    · have h2' : decide (zs.length ≤ i) = false := by simp; omega
      have hlt : i < zs.length := by omega
      obtain ⟨g, o, rfl⟩ := ha (by omega)
      simp only [roS] at hO
      have hb := modI_bd zs[i] (show 0 < m by omega)
      go_enter Tryd.func18, Tryd.ntmps18
      go_wp2_with (first | ((with_reducible refine is_load ?_); (first | (refine own_ld (h := ?_)))) | ((with_reducible refine is_store ?_); (first | (refine own_stR (hO := hO) (h := ?_); clear hO; intro wv hO) | (refine own_st1 (hO := hO) (h := ?_); clear hO; intro wv hO))))
      (try simp only [Act.put]); (refine own_quiet hO (by kernel_rfl) (by kernel_rfl) ?_; clear hO; (repeat (first | go_big_quiet_skip | (go_big_quiet_want; (first | ((with_reducible refine is_loadQ ?_); (first | (refine q_ld (h := ?_))); (try simp only [Act.put]); (try simp only [List.setIfInBounds_toArray, List.set_cons_zero, List.set_cons_succ]); go_big_quiet_on) | (go_big_quiet_op; (first | go_big_quiet_on | ((refine ⟨_, fun _ _ => rfl, ?_⟩); go_big_quiet_on) | go_big_quiet_call (fail))))))); (refine wpQuiet_nil ?_); intro wv hO)
      go_wp2_with (first | ((with_reducible refine is_load ?_); (first | (refine own_ld (h := ?_)))) | ((with_reducible refine is_store ?_); (first | (refine own_stR (hO := hO) (h := ?_); clear hO; intro wv hO) | (refine own_st1 (hO := hO) (h := ?_); clear hO; intro wv hO))))
      (try simp only [Act.put]); (refine own_quiet hO (by kernel_rfl) (by kernel_rfl) ?_; clear hO; (repeat (first | go_big_quiet_skip | (go_big_quiet_want; (first | ((with_reducible refine is_loadQ ?_); (first | (refine q_ld (h := ?_))); (try simp only [Act.put]); (try simp only [List.setIfInBounds_toArray, List.set_cons_zero, List.set_cons_succ]); go_big_quiet_on) | (go_big_quiet_op; (first | go_big_quiet_on | ((refine ⟨_, fun _ _ => rfl, ?_⟩); go_big_quiet_on) | go_big_quiet_call ((intro hq; go_at_call 23; exact q_same (mod_is _ _ _ (by omega) hm) hq)))))))); (refine wpQuiet_nil ?_); intro wv hO)
      go_wp2_with (first | ((with_reducible refine is_load ?_); (first | (refine own_ld (h := ?_)))) | ((with_reducible refine is_store ?_); (first | (refine own_stR (hO := hO) (h := ?_); clear hO; intro wv hO) | (refine own_st1 (hO := hO) (h := ?_); clear hO; intro wv hO))))
      go_ret
      exact tpost (i := i + 1) hO List.mem_cons_self (fun _ h => h) (by omega) ⟨_, rfl, hb.1, .inl hb.2⟩
theorem next_pos {w : World} {n : Nat} {sl : Value} {zs : List Int} {i : Nat} (m : Int) (hZ : ZsOk sl zs) (hT : TapeIn w n sl zs i) (h0 : 0 < m) (hm : m ≤ 9223372036854775807) :
    Calls Tryd.prog 18 #[.pointer (some ⟨n, 0, none⟩), .int .i64 m] w (TPost w n sl zs (fun v _ => ∃ r, v = .int .i64 r ∧ 0 ≤ r ∧ r < m)) :=
  (next_any m hZ hT hm).mono fun _ _ h => h.mono fun _ _ ⟨r, h1, h2, h3⟩ => ⟨r, h1, h2, by omega⟩
end Go.Proofs.YtnhjcbmlplfpmaaDoor
