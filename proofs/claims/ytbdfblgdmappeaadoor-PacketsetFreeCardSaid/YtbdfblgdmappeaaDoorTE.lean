/- PacketsetFree's plain law: who is a member after a field was freed. -/
import Derived.Test.YtbdfblgdmappeaaDoorNJ
import Derived.Test.YtbdfblgdmappeaaDoorMS
import Derived.Test.YtbdfblgdmappeaaDoorTD
import Derived.Test.YtbdfblgdmappeaaDoorMB
namespace Go.Proofs.YtbdfblgdmappeaaDoor
open Go.RowKit
def updP (p : Nat → Int) (f : Nat) (u : Int) : Nat → Int := fun k => if k = f then u else p k
theorem updP_ok {p : Nat → Int} (hp : okP p) {f : Nat} {u : Int} (h0 : 0 ≤ u) (h1 : u ≤ topOf f) : okP (updP p f u) := fun k hk => by
 unfold updP
 split
 ·rename_i e; subst e; exact ⟨h0, h1⟩
 ·exact hp k hk
theorem wide_at {b : Bx} {f k : Nat} (hf : f < 5) (hk : k < 5) : (wideB f b).at k = if k = f then ⟨0, topOf f⟩ else b.at k := by
 unfold wideB
 rw [Bx.at_set _ _ _ hk]
 split
 ·rw [full_at hf]
 ·rfl
theorem wide_inq {x : List Bx} {p : Nat → Int} {f : Nat} (hv : vL x) (hp : okP p) (hf : f < 5) : inq (x.map (wideB f)) p = true ↔ ∃ u, 0 ≤ u ∧ u ≤ topOf f ∧ inq x (updP p f u) = true := by
 rw [inq_iff]
 constructor
 ·rintro ⟨c, hc, h1⟩
  obtain ⟨b, hb, rfl⟩ := List.mem_map.1 hc
  have h2 := hv b hb f hf
  refine ⟨(b.at f).lo, by omega, by omega, inq_iff.2 ⟨b, hb, fun k h0 hk => ?_⟩⟩
  have h3 := h1 k h0 hk
  rw [wide_at hf hk] at h3
  unfold updP
  by_cases e : k = f
  ·subst e; rw [if_pos rfl]; omega
  ·rw [if_neg e] at h3 ⊢; exact h3
 ·rintro ⟨u, u0, u1, h1⟩
  obtain ⟨b, hb, h2⟩ := inq_iff.1 h1
  refine ⟨wideB f b, List.mem_map_of_mem hb, fun k h0 hk => ?_⟩
  have h3 := h2 k h0 hk
  rw [wide_at hf hk]
  unfold updP at h3
  by_cases e : k = f
  ·subst e
   rw [if_pos rfl]
   exact hp k hk
  ·rw [if_neg e] at h3 ⊢; exact h3
theorem free_spec {l s : List Bx} {f : Nat} (kl : okL l) (hf : f < 5) (hs : freeF l f = some s) : vL s ∧ s.length ≤ 4096 ∧ ∀ p, okP p → inq s p = inq ((valF l).map (wideB f)) p := by
 unfold freeF at hs
 cases hx : setF l with
 | none => rw [hx] at hs; cases hs
 | some x =>
  rw [hx] at hs
  dsimp only at hs
  rw [if_pos (by omega)] at hs
  obtain ⟨h1, rfl⟩ := limF_some.1 hs
  obtain ⟨x1, x2, x3, x4⟩ := setF_ok kl hx
  have hw := wide_vL hf x1
  have hn : vL ([] : List Bx) := fun b hb => by cases hb
  have e9 : ((f : Int)).toNat = f := by omega
  rw [e9] at h1 ⊢
  refine ⟨(canonF_cn orB 5 0 rfl hw hn).valid rfl, h1, fun p hp => ?_⟩
  rw [inq_canon hp hw hn, inq_nil, show orB (inq (x.map (wideB f)) p) false = inq (x.map (wideB f)) p from Bool.or_false _, Bool.eq_iff_iff, wide_inq x1 hp hf, wide_inq (valF_vL kl) hp hf]
  constructor
  ·rintro ⟨u, u0, u1, h2⟩; exact ⟨u, u0, u1, by rw [← x4 _ (updP_ok hp u0 u1)]; exact h2⟩
  ·rintro ⟨u, u0, u1, h2⟩; exact ⟨u, u0, u1, by rw [x4 _ (updP_ok hp u0 u1)]; exact h2⟩
theorem inq_congr {l : List Bx} {p q : Nat → Int} (h : ∀ k, k < 5 → p k = q k) : inq l p = inq l q := by
 rw [Bool.eq_iff_iff, inq_iff, inq_iff]
 constructor
 ·rintro ⟨b, hb, h1⟩; exact ⟨b, hb, fun k h0 hk => by rw [← h k hk]; exact h1 k h0 hk⟩
 ·rintro ⟨b, hb, h1⟩; exact ⟨b, hb, fun k h0 hk => by rw [h k hk]; exact h1 k h0 hk⟩
theorem with_upd (h : Hd) {f : Nat} (hf : f < 5) (v : Int) : ∀ k, k < 5 → (withHd h f v).at k = updP h.at f (if v ≤ topOf f then v else h.at f) k := fun k hk => by
 rw [withHd_at h hf hk]
 unfold updP
 by_cases e : k = f
 ·subst e
  by_cases e2 : v ≤ topOf k
  ·rw [if_pos ⟨rfl, e2⟩, if_pos rfl, if_pos e2]
  ·rw [if_neg fun hc => e2 hc.2, if_pos rfl, if_neg e2]
 ·rw [if_neg fun hc => e hc.1, if_neg e]
theorem updP_updP (p : Nat → Int) (f : Nat) (u v : Int) : updP (updP p f u) f v = updP p f v := by
 funext k
 unfold updP
 split <;> rfl
theorem valF_self {s : List Bx} (h : vL s) : valF s = s := valF_id h
theorem free_in {l s : List Bx} {f : Nat} {h : Hd} {v : Int} (kl : okL l) (hf : f < 5) (hs : freeF l f = some s) (ho : h.ok) (h0 : 0 ≤ v) :
  (l.any (hasH (withHd h f v)) = true → s.any (hasH h) = true) ∧ s.any (hasH (withHd h f v)) = s.any (hasH h) ∧ l.any (fun b => vld b && hasB (wideB f b) h) = s.any (hasH h) ∧ (l.any (hasH (withHd h f v)) = true → v ≤ topOf f → memB (projF l f) v = true) := by
 obtain ⟨s1, s2, s3⟩ := free_spec kl hf hs
 have hp := okP_of ho
 have hvV := valF_vL kl
 have hu : 0 ≤ (if v ≤ topOf f then v else h.at f) ∧ (if v ≤ topOf f then v else h.at f) ≤ topOf f := by
  split
  ·rename_i e; exact ⟨h0, e⟩
  ·exact hp f hf
 have hW : ∀ L : List Bx, inq L (withHd h f v).at = inq L (updP h.at f (if v ≤ topOf f then v else h.at f)) := fun L => inq_congr (with_upd h hf v)
 have eS : s.any (hasH h) = inq ((valF l).map (wideB f)) h.at := by rw [any_inq, valF_self s1, s3 _ hp]
 have eW : s.any (hasH (withHd h f v)) = inq ((valF l).map (wideB f)) (updP h.at f (if v ≤ topOf f then v else h.at f)) := by
  rw [any_inq, valF_self s1, hW, s3 _ (updP_ok hp hu.1 hu.2)]
 have eI : l.any (hasH (withHd h f v)) = inq (valF l) (updP h.at f (if v ≤ topOf f then v else h.at f)) := by rw [any_inq, hW]
 rw [eS, eW, eI]
 refine ⟨fun h1 => (wide_inq hvV hp hf).2 ⟨_, hu.1, hu.2, h1⟩, ?_, ?_, fun h1 h2 => ?_⟩
 ·rw [Bool.eq_iff_iff, wide_inq hvV (updP_ok hp hu.1 hu.2) hf, wide_inq hvV hp hf]
  simp only [updP_updP]
 ·rw [Bool.eq_iff_iff, List.any_eq_true, inq_iff]
  constructor
  ·rintro ⟨b, hb, h1⟩
   simp only [Bool.and_eq_true] at h1
   obtain ⟨h1, h2⟩ := h1
   unfold hasB at h2
   simp only [Bool.and_eq_true, decide_eq_true_eq] at h2
   exact ⟨wideB f b, List.mem_map_of_mem (List.mem_filter.2 ⟨hb, h1⟩), fun k _ hk => h2.2 k hk⟩
  ·rintro ⟨c, hc, h1⟩
   obtain ⟨b, hb, rfl⟩ := List.mem_map.1 hc
   have hb2 := List.mem_filter.1 hb
   have hw := wide_vL hf hvV _ (List.mem_map_of_mem hb)
   refine ⟨b, hb2.1, ?_⟩
   unfold hasB
   simp only [Bool.and_eq_true, decide_eq_true_eq]
   exact ⟨hb2.2, vld_of hw, fun k hk => h1 k (Nat.zero_le _) hk⟩
 ·rw [if_pos h2] at h1
  obtain ⟨b, hb, h3⟩ := inq_iff.1 h1
  have h4 := h3 f (Nat.zero_le _) hf
  unfold updP at h4
  rw [if_pos rfl] at h4
  have e0 : projF l f = canU (rgs f (valF l)) := if_pos (by omega)
  have hI := canU_is (rgs_bound hvV hf)
  rw [e0, memB_iff, hI.2 v]
  exact ⟨b.at f, List.mem_map_of_mem hb, h4⟩
end Go.Proofs.YtbdfblgdmappeaaDoor
