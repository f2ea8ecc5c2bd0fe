/- Package packetset (seventh part): canonical. -/
import Derived.Deep.CutRange
import Derived.Deep.DeepCutAuto
import Derived.Test.YtbdfblgdmappeaaGreatDoorMN
namespace Go.Proofs.YtbdfblgdmappeaaGreatDoor
open Go.RowKit
set_option maxRecDepth 100000
structure OpC (m : Nat) (op : Bool → Bool → Bool) : Prop where
 enters : ∀ (args : Array Value) (w : World), (callFunc m args).run Tryz.prog w = .ok (.enter m args) w
 calls : ∀ (x y : Bool) (w : World), Calls Tryz.prog m #[.bool x, .bool y] w fun e w' => e = .returned (.bool (op x y)) ∧ w = w'
 none : op false false = false
theorem op_either : OpC 137 orB := ⟨fun args w => by kernel_rfl, either_any, rfl⟩
theorem op_both : OpC 139 andB := ⟨fun args w => by kernel_rfl, both_any, rfl⟩
theorem op_without : OpC 140 exB := ⟨fun args w => by kernel_rfl, without_any, rfl⟩
theorem op_different : OpC 113 xorB := ⟨fun args w => by kernel_rfl, different_any, rfl⟩
def CanPost (w : World) (l : List Bx) (most : Nat) (e : Ending) (w' : World) : Prop := ∃ v, ((l.length ≤ most ∧ e = .returned (.tuple #[v, .bool true]) ∧ IsBoxes w' v l ∧ NewFrom w v) ∨ (most < l.length ∧ e = .returned (.tuple #[.slice none 0 0, .bool false]))) ∧ Below w.heap.size w w'
theorem CanPost.yes {w w' : World} {l : List Bx} {most : Nat} {e : Ending} (h : CanPost w l most e w') (hl : l.length ≤ most) : ∃ v, e = .returned (.tuple #[v, .bool true]) ∧ IsBoxes w' v l ∧ NewFrom w v ∧ Below w.heap.size w w' := by
 obtain ⟨v, ⟨_, h1, h2, h3⟩ | ⟨h1, _⟩, hb⟩ := h
 ·exact ⟨v, h1, h2, h3, hb⟩
 ·omega
theorem CanPost.no {w w' : World} {l : List Bx} {most : Nat} {e : Ending} (h : CanPost w l most e w') (hl : most < l.length) : e = .returned (.tuple #[.slice none 0 0, .bool false]) ∧ Below w.heap.size w w' := by
 obtain ⟨v, ⟨h1, _⟩ | ⟨_, h1⟩, hb⟩ := h
 ·omega
 ·exact ⟨h1, hb⟩
theorem pos_len (l : List Bx) : decide (0 < l.length) = !l.isEmpty := by cases l <;> simp
theorem can_base {m : Nat} {op : Bool → Bool → Bool} (hop : OpC m op) {va vb : Value} {la lb : List Bx} {most : Nat} (w : World) (hva : IsBoxes w va la) (hvb : IsBoxes w vb lb) (h1 : 1 ≤ most) :
  Calls Tryz.prog 190 #[.int .i64 5, va, vb, .func (.func m) #[] #[], .int .i64 most] w (CanPost w (canonF op 5 0 la lb) most) := by
 have hO := own_start [] w
 obtain ⟨a, c, rfl, ha⟩ := hva.view
 obtain ⟨b, d, rfl, hb⟩ := hvb.view
 have g1 := pos_len la
 have g2 := pos_len lb
 have he := hop.enters
 clear hva hvb
 rw [canonF]
 generalize (!la.isEmpty) = x at *
 generalize (!lb.isEmpty) = y at *
 cases hxy : op x y
 ·go_enter Tryz.func190, Tryz.ntmps190
  go_wp2_with ((with_reducible refine (hop.calls _ _ _).mono ?_); rintro e wv ⟨rfl, rfl⟩)
  go_ret2
  exact ⟨_, .inl ⟨by simp, rfl, .inl ⟨rfl, by simp⟩, fun g hg => by cases hg⟩, hO.keep.below⟩
 ·go_enter Tryz.func190, Tryz.ntmps190
  go_wp2_with (first | (refine bl9 36 hO ?_; clear hO; intro n36 wv hO) | ((with_reducible refine (hop.calls _ _ _).mono ?_); rintro e wv ⟨rfl, rfl⟩))
  go_ret2
  exact ⟨_, .inl ⟨by simpa using h1, rfl, own_boxesC hO (l := [zbx]) List.mem_cons_self (by rw [cellsB_one]; rfl) (by simp), own_newC hO List.mem_cons_self⟩, hO.keep.below⟩
theorem slice_BoxesL : SliceT Tryz.prog 241 81 1 24 := ⟨Tryz.underlying241, by omega, by
 obtain ⟨i, h1, h2, h3, h4⟩ := info_parts (show (Tryz.prog.info? 81).map (fun i => (i.zero, i.size, i.bytes)) = some (some (.slice none 0 0), 1, 24) by kernel_rfl)
 exact ⟨i, _, h1, h2, h3, h4, rfl⟩⟩
theorem can_none {m : Nat} {op : Bool → Bool → Bool} (hop : OpC m op) {va vb : Value} {f n : Nat} {most : Nat} (w : World) (hf : f < 5) (hva : IsBoxes w va []) (hvb : IsBoxes w vb []) :
  Calls Tryz.prog 190 #[.int .i64 f, va, vb, .func (.func m) #[] #[], .int .i64 most] w (CanPost w (canonF op f n [] []) most) := by
 have hO := own_start [] w
 obtain ⟨a, c, rfl, ha⟩ := hva.view
 obtain ⟨b, d, rfl, hb⟩ := hvb.view
 have he := hop.enters
 have hn := hop.calls false false
 rw [hop.none] at hn
 rw [canonF_nil hop.none]
 have g0 : ((f : Int) == 5) = false := by simp; omega
 have s1 : IntKind.i64.wrap ((([] : List Bx).length : Int) + (([] : List Bx).length : Int)) = 0 := by decide
 clear hva hvb ha hb
 go_enter Tryz.func190, Tryz.ntmps190
 go_wp2_with ((with_reducible refine (hn _).mono ?_); rintro e wv ⟨rfl, rfl⟩)
 go_ret2
 exact ⟨_, .inl ⟨Nat.zero_le _, rfl, .inl ⟨rfl, rfl⟩, fun g hg => by cases hg⟩, hO.keep.below⟩
set_option maxHeartbeats 32000000 in
theorem can_any {m : Nat} {op : Bool → Bool → Bool} (hop : OpC m op) (most : Nat) (h1 : 1 ≤ most) (hm : most ≤ 1000000) : ∀ (n f : Nat), f + n = 5 → ∀ (va vb : Value) (la lb : List Bx) (w : World), Tops w → IsBoxes w va la → IsBoxes w vb lb → vL la → vL lb → la.length ≤ 1000000000000 → lb.length ≤ 1000000000000 →
  Calls Tryz.prog 190 #[.int .i64 f, va, vb, .func (.func m) #[] #[], .int .i64 most] w (CanPost w (canonF op f n la lb) most) := by
 intro n
 induction n with
 | zero =>
  intro f hf va vb la lb w _ hva hvb _ _ _ _
  obtain rfl : f = 5 := by omega
  exact can_base hop w hva hvb h1
 | succ n ih =>
  intro f hfn va vb la lb w ht hva hvb ka kb na nb
  have hf : f < 5 := by omega
  by_cases hE : la = [] ∧ lb = []
  ·obtain ⟨rfl, rfl⟩ := hE
   exact can_none hop w hf hva hvb
  have hO := own_start [] w
  obtain ⟨a, c, rfl, ha⟩ := hva.view
  obtain ⟨b, d, rfl, hb⟩ := hvb.view
  have hcut := fun n51 w ht hs hva hvb => cuts_any (f := f) (n := n51) (c2 := 2) (va := .slice a la.length c) (vb := .slice b lb.length d) (la := la) (lb := lb) w ht hf hs hva hvb ka kb na nb
  have HC := Lib.hid hcut
  clear hcut
  have g0 : ((f : Int) == 5) = false := by simp; omega
  have s1 : IntKind.i64.wrap ((la.length : Int) + lb.length) = (la.length : Int) + lb.length := IntWalk.i64_in _ (by omega)
  have g1 : ((la.length : Int) + lb.length == 0) = false := by
   have : la.length ≠ 0 ∨ lb.length ≠ 0 := by
    rcases Nat.eq_zero_or_pos la.length with h | h
    ·right; intro h'; exact hE ⟨List.length_eq_zero_iff.1 h, List.length_eq_zero_iff.1 h'⟩
    ·left; omega
   simp; omega
  clear hE
  have hPl : (pts f la lb ++ [topOf f + 1]).length = (pts f la lb).length + 1 := by simp
  have hN1 : (pts f la lb).length ≤ 4000000000002 := by
   have h8 := congrArg List.length (cuts_plain hf ka kb)
   have h9 : (cpt (sortL (0 :: (topOf f + 1) :: (rawB f la ++ rawB f lb)))).length ≤ ([] : List Int).length + _ := cpt_le _ []
   rw [h8, sortL_length, hPl] at h9
   simp only [List.length_cons, List.length_append, rawB_length, List.length_nil] at h9
   omega
  obtain ⟨F, hF⟩ : ∃ F : Int → List Bx, F = fun v => canonF op (f + 1) n (covB la f v) (covB lb f v) := ⟨_, rfl⟩
  have HS := Lib.hid (fun (i : Nat) (h : i < (pts f la lb).length) => pts_seg hf ka kb h)
  have HP := Lib.hid (fun (i : Nat) (h : i ≤ (segs (topOf f) (pts f la lb)).length) => (gpre_spec (F := F) (pts_asc f la lb) (fun x hx => (pts_range hf ka kb hx).2) i h).2)
  have HL := Lib.hid (fun (i : Nat) (h : i ≤ (segs (topOf f) (pts f la lb)).length) => (gpre_spec (F := F) (pts_asc f la lb) (fun x hx => (pts_range hf ka kb hx).2) i h).1.len)
  have hSl : (segs (topOf f) (pts f la lb)).length = (pts f la lb).length := segs_length _ _
  have HQ := Lib.hid (fun (i : Nat) => gpre_nonneg (F := F) hf ka kb i)
  have HR := Lib.hid (fun (v : Int) (h0 : 0 ≤ v) (h2 : v ≤ topOf f) => show (F v).length ≤ (canonF op f (n + 1) la lb).length by rw [hF]; exact rest_le op hf n ka kb h0 h2)
  have HT := Lib.hid (fun (i : Nat) => show total (gpre F (segs (topOf f) (pts f la lb)) i) ≤ (canonF op f (n + 1) la lb).length by
   rw [canonF_succ, flatG_rev_length, hF]; exact total_pre i)
  have HA := Lib.hid (fun (i : Nat) (h : i = (segs (topOf f) (pts f la lb)).length) => show canonF op f (n + 1) la lb = flatG f (gpre F (segs (topOf f) (pts f la lb)) i).reverse by
   rw [canonF_succ, hF, gpre_all h])
  have HF := Lib.hid hF
  have tl := topOf_le f
  clear hF
  rw [hSl] at HP HA HL
  generalize canonF op f (n + 1) la lb = D at *
  generalize segs (topOf f) (pts f la lb) = SS at *
  generalize pts f la lb ++ [topOf f + 1] = P at *
  generalize (pts f la lb).length = N at *
  generalize topOf f = top at *
  have HI := Lib.hid ih
  clear ih hSl
  have HVa := Lib.hid hva
  have HVb := Lib.hid hvb
  clear hva hvb
  go_enter Tryz.func190, Tryz.ntmps190
  go_wp2_with (first | ((with_reducible refine is_build ?_); (refine' own_buildP (o := ⟨some 51, _, _, _, _, _⟩) [.slice a la.length c, .slice b lb.length d] hO (by rfl) rfl slice_BoxesL rfl rfl (by rfl) (by decide) (by decide) ?_); clear hO; intro n51 wv hO) | (go_at_call 200; (with_reducible refine (HC.out _ _ (hO.tops ht (by simp)) (hO.range (off := 0) List.mem_cons_self rfl) (HVa.out.keep0 hO) (HVb.out.keep0 hO)).mono ?_); rintro e wv ⟨gp, cp, rfl, hcp, hrp, hnp, hb9⟩; replace hO := hO.gainU hb9 hrp hnp; clear hb9 hrp hnp))
  replace hO := hO.nilRow 224 3
  rw [hPl] at hcp
  go_loopw [12, 13, 15] (fun vg qz qi wr => ∃ (i : Nat) (G : List GV), i ≤ N ∧ qi = .int .i64 i ∧ qz = .int .i64 (total (gpre F SS i) : Nat) ∧ total (gpre F SS i) ≤ most ∧ Hid (gpre F SS i = (G.map GV.grp).reverse) ∧ Hid (∀ x ∈ G, FormB x.v x.rest) ∧ Own [] w [] [⟨vg, G.length, gcells G, 224, 3⟩] (⟨gp, 0, ul P⟩ :: roG G) wr) (fun _ _ qi _ => N - (intOf qi).toNat)
  case atStart => exact ⟨0, [], by omega, rfl, by rw [gpre_zero]; rfl, by rw [gpre_zero]; exact Nat.zero_le _, Lib.hid (by rw [gpre_zero]; rfl), Lib.hid (by simp), hO.sub (.cons _ (.refl _)) (.refl _) (by simp [roG])⟩
  case round =>
   clear hO
   obtain ⟨i, G, hi, rfl, rfl, hz, HE, HM, hO⟩ := hrel
   have s2 : IntKind.i64.wrap ((i : Int) + 1) = (i : Int) + 1 := IntWalk.i64_in _ (by omega)
   have hvw := row_view (hO.row _ List.mem_cons_self)
   dsimp only at hvw
   have hGl := row_max (hO.row _ List.mem_cons_self)
   dsimp only at hGl
   obtain ⟨ag, cg, rfl, hag⟩ := hvw
   by_cases hlt : i < N
   ·obtain ⟨s, hs, hp1, hp2, b0, b1, b2⟩ := HS.out i hlt
    have c1 : (ul P)[i]? = some (.int .u64 s.lo) := by simp [ul, hp1]
    have c2 : (ul P)[i + 1]? = some (.int .u64 (s.hi + 1)) := by simp [ul, hp2]
    have w1 : IntKind.u32.wrap s.lo = s.lo := by rw [IntKind.wrap_u32]; omega
    have w3 : IntKind.u32.wrap s.hi = s.hi := by rw [IntKind.wrap_u32]; omega
    have w2 : IntKind.u64.wrap (s.hi + 1 - 1) = s.hi := by rw [IntKind.wrap_u64]; omega
    have w2' : IntKind.u64.wrap s.hi = s.hi := by rw [IntKind.wrap_u64]; omega
    have s3 : ((i : Int) + 1).toNat = i + 1 := by omega
    have z1 : (0 : Int) ≤ (i : Int) + 1 := by omega
    have z2 : (i : Int) + 1 < ((N + 1 : Nat) : Int) := by omega
    go_wp2_with fail
    apply wp_via1
    case h =>
     refine wp_region_any (by kernel_rfl) ?_
     replace hO := hO.drew
     have ix9 := Ix.mk [0, 1, 2, 5, 6, 7, 8]
     iterate 7 (refine wpAny_tkO ix9 ?_; replace ix9 := ix9.tail; (first | go_big_quiet_skip | (go_big_quiet_want; (go_big_quiet_op; (first | go_big_quiet_on | ((refine ⟨_, fun _ _ => rfl, ?_⟩); go_big_quiet_on))))); (refine wpQuiet_nil ?_); (try simp only [Act.put]); (try simp only [sI9, sZ9, sS9]))
     clear ix9
     refine wpAny_all (rs := [3, 9, 13]) (by kernel_rfl) (by simp) (ord_cons ?_ (ord_cons ?_ (ord_cons ?_ ord_nil)))
     rotate_left 3
     all_goals
      refine wpOp_of_listL rfl ?_
      (first | refine ldN ?_ | (refine al9 16 hO ?_; clear hO; intro n16 wv hO)); (try simp only [Act.put]); (try simp only [sI9, sZ9, sS9])
      refine wpList_done (qk_intro ?_)
     refine wpAny_tkO (Ix.mk [4]) ?_
     (first | go_big_quiet_skip | (go_big_quiet_want; (go_big_quiet_op; (first | go_big_quiet_on | ((refine ⟨_, fun _ _ => rfl, ?_⟩); go_big_quiet_on))))); (refine wpQuiet_nil ?_); (try simp only [Act.put]); (try simp only [sI9, sZ9, sS9])
     refine wpAny_all (rs := [9, 13]) (by kernel_rfl) (by simp) (ord_cons ?_ (ord_cons ?_ ord_nil))
     rotate_left 2
     have ix9 := Ix.mk [10, 11]
     iterate 2 (refine wpAny_tkO ix9 ?_; replace ix9 := ix9.tail; (first | go_big_quiet_skip | (go_big_quiet_want; (go_big_quiet_op; (first | go_big_quiet_on | ((refine ⟨_, fun _ _ => rfl, ?_⟩); go_big_quiet_on))))); (refine wpQuiet_nil ?_); (try simp only [Act.put]); (try simp only [sI9, sZ9, sS9]))
     clear ix9
     refine wpAny_all (rs := [3, 13]) (by kernel_rfl) (by simp) (ord_cons ?_ (ord_cons ?_ ord_nil))
     rotate_left 2
     refine wpAny_all (rs := [3, 9]) (by kernel_rfl) (by simp) (ord_cons ?_ (ord_cons ?_ ord_nil))
     rotate_left 2
     all_goals
      refine wpOp_of_listL rfl ?_
      (first | refine ldN ?_ | (refine al9 16 hO ?_; clear hO; intro n16 wv hO)); (try simp only [Act.put]); (try simp only [sI9, sZ9, sS9])
      refine wpList_done (qk_intro ?_)
     have ix9 := Ix.mk [10, 11, 12]
     iterate 3 (refine wpAny_tkO ix9 ?_; replace ix9 := ix9.tail; (first | go_big_quiet_skip | (go_big_quiet_want; (go_big_quiet_op; (first | go_big_quiet_on | ((refine ⟨_, fun _ _ => rfl, ?_⟩); go_big_quiet_on))))); (refine wpQuiet_nil ?_); (try simp only [Act.put]); (try simp only [sI9, sZ9, sS9]))
     clear ix9
     refine wpAny_1 13 ?_
     rotate_left 1
     refine wpAny_1 9 ?_
     rotate_left 1
     have ix9 := Ix.mk [4, 12]
     iterate 2 (refine wpAny_tkO ix9 ?_; replace ix9 := ix9.tail; (first | go_big_quiet_skip | (go_big_quiet_want; (go_big_quiet_op; (first | go_big_quiet_on | ((refine ⟨_, fun _ _ => rfl, ?_⟩); go_big_quiet_on))))); (refine wpQuiet_nil ?_); (try simp only [Act.put]); (try simp only [sI9, sZ9, sS9]))
     clear ix9
     refine wpAny_1 13 ?_
     rotate_left 1
     refine wpAny_1 3 ?_
     rotate_left 1
     refine wpAny_tkO (Ix.mk [4]) ?_
     (first | go_big_quiet_skip | (go_big_quiet_want; (go_big_quiet_op; (first | go_big_quiet_on | ((refine ⟨_, fun _ _ => rfl, ?_⟩); go_big_quiet_on))))); (refine wpQuiet_nil ?_); (try simp only [Act.put]); (try simp only [sI9, sZ9, sS9])
     refine wpAny_1 9 ?_
     rotate_left 1
     have ix9 := Ix.mk [10, 11]
     iterate 2 (refine wpAny_tkO ix9 ?_; replace ix9 := ix9.tail; (first | go_big_quiet_skip | (go_big_quiet_want; (go_big_quiet_op; (first | go_big_quiet_on | ((refine ⟨_, fun _ _ => rfl, ?_⟩); go_big_quiet_on))))); (refine wpQuiet_nil ?_); (try simp only [Act.put]); (try simp only [sI9, sZ9, sS9]))
     clear ix9
     refine wpAny_1 3 ?_
     rotate_left 1
     all_goals
      refine wpOp_of_listL rfl ?_
      (first | refine ldN ?_ | (refine al9 16 hO ?_; clear hO; intro n16 wv hO)); (try simp only [Act.put]); (try simp only [sI9, sZ9, sS9])
      refine wpList_done (qk_intro ?_)
     refine wpAny_1 14 ?_
     rotate_left 1
     have ix9 := Ix.mk [10, 11, 12]
     iterate 3 (refine wpAny_tkO ix9 ?_; replace ix9 := ix9.tail; (first | go_big_quiet_skip | (go_big_quiet_want; (go_big_quiet_op; (first | go_big_quiet_on | ((refine ⟨_, fun _ _ => rfl, ?_⟩); go_big_quiet_on))))); (refine wpQuiet_nil ?_); (try simp only [Act.put]); (try simp only [sI9, sZ9, sS9]))
     clear ix9
     refine wpAny_1 14 ?_
     rotate_left 1
     refine wpAny_1 14 ?_
     rotate_left 1
     have ix9 := Ix.mk [4, 12]
     iterate 2 (refine wpAny_tkO ix9 ?_; replace ix9 := ix9.tail; (first | go_big_quiet_skip | (go_big_quiet_want; (go_big_quiet_op; (first | go_big_quiet_on | ((refine ⟨_, fun _ _ => rfl, ?_⟩); go_big_quiet_on))))); (refine wpQuiet_nil ?_); (try simp only [Act.put]); (try simp only [sI9, sZ9, sS9]))
     clear ix9
     refine wpAny_1 14 ?_
     rotate_left 1
     have ix9 := Ix.mk [10, 11, 12]
     iterate 3 (refine wpAny_tkO ix9 ?_; replace ix9 := ix9.tail; (first | go_big_quiet_skip | (go_big_quiet_want; (go_big_quiet_op; (first | go_big_quiet_on | ((refine ⟨_, fun _ _ => rfl, ?_⟩); go_big_quiet_on))))); (refine wpQuiet_nil ?_); (try simp only [Act.put]); (try simp only [sI9, sZ9, sS9]))
     clear ix9
     refine wpAny_1 14 ?_
     rotate_left 1
     have ix9 := Ix.mk [4, 12]
     iterate 2 (refine wpAny_tkO ix9 ?_; replace ix9 := ix9.tail; (first | go_big_quiet_skip | (go_big_quiet_want; (go_big_quiet_op; (first | go_big_quiet_on | ((refine ⟨_, fun _ _ => rfl, ?_⟩); go_big_quiet_on))))); (refine wpQuiet_nil ?_); (try simp only [Act.put]); (try simp only [sI9, sZ9, sS9]))
     clear ix9
     refine wpAny_1 14 ?_
     rotate_left 1
     all_goals
      refine wpOp_of_listL rfl ?_
      (refine stN hO ?_; clear hO; intro wv hO); (try simp only [Act.put])
      refine wpList_done (qk_intro ?_)
     exact wpAny_done (by kernel_rfl) ⟨rfl, n16, rfl, hO⟩ _
     exact wpAny_done (by kernel_rfl) ⟨rfl, n16, rfl, hO⟩ _
     exact wpAny_done (by kernel_rfl) ⟨rfl, n16, rfl, hO⟩ _
     exact wpAny_done (by kernel_rfl) ⟨rfl, n16, rfl, hO⟩ _
     exact wpAny_done (by kernel_rfl) ⟨rfl, n16, rfl, hO⟩ _
     exact wpAny_done (by kernel_rfl) ⟨rfl, n16, rfl, hO⟩ _
    clear hO
    intro n16 wv hO
    have HST := Lib.hid (gpre_succ (F := F) hs)
    have hTD := HR.out s.lo b0 (by omega)
    have hF1 := congrFun HF.out s.lo
    obtain ⟨T, hT⟩ : ∃ T, F s.lo = T := ⟨_, rfl⟩
    rw [hT] at HST hTD hF1
    have hcvA := fun w hv => covering_any (vl := .slice a la.length c) (l := la) (f := f) (v := s.lo) w hv hf na
    have hcvB := fun w hv => covering_any (vl := .slice b lb.length d) (l := lb) (f := f) (v := s.lo) w hv hf nb
    have hih := fun v1 v2 w ht h1 h2 => HI.out (f + 1) (by omega) v1 v2 (covB la f s.lo) (covB lb f s.lo) w ht h1 h2 (ka.cov f s.lo) (kb.cov f s.lo) (Nat.le_trans (List.length_filter_le _ _) na) (Nat.le_trans (List.length_filter_le _ _) nb)
    have e1 : ((f + 1 : Nat) : Int) = (f : Int) + 1 := by omega
    rw [e1] at hih
    rw [← hF1] at hih
    have s4 : IntKind.i64.wrap ((f : Int) + 1) = (f : Int) + 1 := IntWalk.i64_in _ (by omega)
    generalize covB la f s.lo = A at *
    generalize covB lb f s.lo = B at *
    clear hF1 hT c1 c2 w1 w2 w2' w3 z1 z2 hp1 hp2
    by_cases hTm : T.length ≤ most
    ·go_upto_region 14 with (fail)
     go_cut [17, 18] from 73 to 143 (fun q17 q18 wx => ∃ v, q17 = v ∧ q18 = .bool true ∧ FormB v T ∧ Own [] w [⟨n16, [.int .u32 s.lo, .int .u32 s.hi], 96⟩] [⟨.slice ag G.length cg, G.length, gcells G, 224, 3⟩] (roS v (cellsB T) ++ (⟨gp, 0, ul P⟩ :: roG G)) wx)
     case first =>
      refine wp_region_any (by kernel_rfl) ?_
      replace hO := hO.drew
      have ix9 := Ix.mk [0, 1, 2, 3, 4, 7, 8, 9, 12, 13]
      iterate 10 (refine wpAny_tk ix9 ?_; replace ix9 := ix9.tail; (first | go_big_quiet_skip | (go_big_quiet_want; (go_big_quiet_op; (first | go_big_quiet_on | ((refine ⟨_, fun _ _ => rfl, ?_⟩); go_big_quiet_on))))); (refine wpQuiet_nil ?_); (try simp only [Act.put]); (try simp only [sI9, sZ9, sS9]))
      clear ix9
      refine wpAny_all (rs := [5, 10]) (by kernel_rfl) (by simp) (ord_cons ?_ (ord_cons ?_ ord_nil))
      rotate_left 2
      all_goals
       refine wpOp_of_listL rfl ?_
       (refine ldN ?_); (try simp only [Act.put]); (try simp only [sI9, sZ9, sS9])
       refine wpList_done (qk_intro ?_)
      refine wpAny_all (rs := [6, 10]) (by kernel_rfl) (by simp) (ord_cons ?_ (ord_cons ?_ ord_nil))
      rotate_left 2
      refine wpAny_1 5 ?_
      rotate_left 1
      all_goals
       refine wpOp_of_listL rfl ?_
       (first | refine ldN ?_ | ((refine wpList_step (fun K hK => ?_)); go_simp; ((go_at_call 201; (with_reducible refine (hcvA _ (HVa.out.keep0 hO)).mono ?_); rintro e wv ⟨v1, rfl, ⟨hv9, hn9⟩, hb9⟩; have hfv1 := hv9.form; replace hO := hO.gainB hb9 hv9 hn9; clear hb9 hv9 hn9); (try simp only []); (refine hK _ _ ?_); clear hK K))); (try simp only [Act.put]); (try simp only [sI9, sZ9, sS9])
       refine wpList_done (qk_intro ?_)
      refine wpAny_1 10 ?_
      rotate_left 1
      refine wpAny_1 6 ?_
      rotate_left 1
      refine wpAny_1 6 ?_
      rotate_left 1
      all_goals
       refine wpOp_of_listL rfl ?_
       (first | refine ldN ?_ | ((refine wpList_step (fun K hK => ?_)); go_simp; ((go_at_call 201; (with_reducible refine (hcvA _ (HVa.out.keep0 hO)).mono ?_); rintro e wv ⟨v1, rfl, ⟨hv9, hn9⟩, hb9⟩; have hfv1 := hv9.form; replace hO := hO.gainB hb9 hv9 hn9; clear hb9 hv9 hn9); (try simp only []); (refine hK _ _ ?_); clear hK K))); (try simp only [Act.put]); (try simp only [sI9, sZ9, sS9])
       refine wpList_done (qk_intro ?_)
      refine wpAny_1 11 ?_
      rotate_left 1
      refine wpAny_1 11 ?_
      rotate_left 1
      refine wpAny_1 11 ?_
      rotate_left 1
      all_goals
       refine wpOp_of_listL rfl ?_
       ((refine wpList_step (fun K hK => ?_)); go_simp; ((go_at_call 201; (with_reducible refine (hcvB _ (HVb.out.keep0 hO)).mono ?_); rintro e wv ⟨v2, rfl, ⟨hv9, hn9⟩, hb9⟩; have hfv2 := hv9.form; replace hO := hO.gainB hb9 hv9 hn9; clear hb9 hv9 hn9); (try simp only []); (refine hK _ _ ?_); clear hK K))
       refine wpList_done (qk_intro ?_)
      refine wpAny_1 14 ?_
      rotate_left 1
      refine wpAny_1 14 ?_
      rotate_left 1
      refine wpAny_1 14 ?_
      rotate_left 1
      all_goals
       refine wpOp_of_listL rfl ?_
       ((refine wpList_step (fun K hK => ?_)); go_simp; ((go_at_call 190; (with_reducible refine (hih v1 v2 _ (hO.tops ht (by simp)) (hO.isB hfv1 (by intro q hq; (exact List.mem_append_right _ (List.mem_append_left _ hq)))) (hO.isB hfv2 (by intro q hq; (exact List.mem_append_left _ hq)))).mono ?_); rintro e wv hpo; obtain ⟨v3, rfl, hv9, hn9, hb9⟩ := hpo.yes hTm; have hfv3 := hv9.form; replace hO := hO.gainB hb9 hv9 hn9; clear hb9 hv9 hn9 hpo); (try simp only []); (refine hK _ _ ?_); clear hK K))
       refine wpList_done (qk_intro ?_)
      have ix9 := Ix.mk [15, 16, 17]
      iterate 3 (refine wpAny_tk ix9 ?_; replace ix9 := ix9.tail; (first | go_big_quiet_skip | (go_big_quiet_want; (go_big_quiet_op; (first | go_big_quiet_on | ((refine ⟨_, fun _ _ => rfl, ?_⟩); go_big_quiet_on))))); (refine wpQuiet_nil ?_); (try simp only [Act.put]); (try simp only [sI9, sZ9, sS9]))
      clear ix9
      refine wpAny_1 18 ?_
      rotate_left 1
      have ix9 := Ix.mk [15, 16, 17]
      iterate 3 (refine wpAny_tk ix9 ?_; replace ix9 := ix9.tail; (first | go_big_quiet_skip | (go_big_quiet_want; (go_big_quiet_op; (first | go_big_quiet_on | ((refine ⟨_, fun _ _ => rfl, ?_⟩); go_big_quiet_on))))); (refine wpQuiet_nil ?_); (try simp only [Act.put]); (try simp only [sI9, sZ9, sS9]))
      clear ix9
      refine wpAny_1 18 ?_
      rotate_left 1
      have ix9 := Ix.mk [15, 16, 17]
      iterate 3 (refine wpAny_tk ix9 ?_; replace ix9 := ix9.tail; (first | go_big_quiet_skip | (go_big_quiet_want; (go_big_quiet_op; (first | go_big_quiet_on | ((refine ⟨_, fun _ _ => rfl, ?_⟩); go_big_quiet_on))))); (refine wpQuiet_nil ?_); (try simp only [Act.put]); (try simp only [sI9, sZ9, sS9]))
      clear ix9
      refine wpAny_1 18 ?_
      rotate_left 1
      all_goals
       refine wpOp_of_listL rfl ?_
       ((refine wpList_step (fun K hK => ?_)); go_simp; ((refine hK _ _ ?_); clear hK K))
       refine wpList_done (qk_intro ?_)
      refine wpAny_1 19 ?_
      rotate_left 1
      refine wpAny_1 19 ?_
      rotate_left 1
      refine wpAny_1 19 ?_
      rotate_left 1
      all_goals
       refine wpOp_of_listL rfl ?_
       ((refine wpList_step (fun K hK => ?_)); go_simp; ((refine hK _ _ ?_); clear hK K))
       refine wpList_done (qk_intro ?_)
      refine wpAny_done (by kernel_rfl) ?_ _
      rotate_left
      refine wpAny_done (by kernel_rfl) ?_ _
      rotate_left
      refine wpAny_done (by kernel_rfl) ?_ _
      rotate_left
      all_goals
       go_wp2_with fail
       go_meet
       exact ⟨_, rfl, rfl, hfv3, hO.sub (.refl _) (.refl _) (fun q hq => (List.mem_append.1 hq).elim (fun h => List.mem_append_left _ h) (fun h => List.mem_append_right _ (List.mem_append_right _ (List.mem_append_right _ h))))⟩
     case rest =>
      clear hO hcvA hcvB hih
      obtain ⟨vT, rfl, rfl, hfT, hO⟩ := hcut
      have HfT := Lib.hid hfT
      obtain ⟨aT, cT, rfl, haT⟩ := hfT.view
      clear hfT
      by_cases hT0 : T = []
      ·subst hT0
       rw [addG_nil] at HST
       go_wp2_with fail
       go_roundw
       case rel => exact ⟨i + 1, G, by omega, by go_num, by rw [HST.out], by rw [HST.out]; exact hz, Lib.hid (by rw [HST.out]; exact HE.out), HM, hO.sub (.cons _ (.refl _)) (.refl _) (fun q hq => List.mem_append_right _ hq)⟩
       case measure => simp [intOf]; omega
      ·have hTl : T.length ≠ 0 := fun h => hT0 (List.length_eq_zero_iff.1 h)
       have g5 : ((T.length : Int) == 0) = false := by simp; omega
       have HX := Lib.hid (fun (x : GV) (hx : x ∈ G) => show x.r.hi < s.lo ∧ 0 ≤ x.r.hi ∧ x.rest.length ≤ most by
        have hm : x.grp ∈ gpre F SS i := by rw [HE.out]; simp only [List.mem_reverse, List.mem_map]; exact ⟨x, hx, rfl⟩
        obtain ⟨hil, hsi⟩ := List.getElem?_eq_some_iff.1 hs
        refine ⟨HP.out i hi x.grp hm s ?_, HQ.out i x.grp hm, Nat.le_trans (le_total hm) hz⟩
        rw [List.drop_eq_getElem_cons hil, hsi]; exact List.mem_cons_self)
       go_upto_region 19 with (fail)
       go_cut [122] from 98 to 143 (fun q122 wx => q122 = .bool (joinsG G s T) ∧ Own [] w [⟨n16, [.int .u32 s.lo, .int .u32 s.hi], 96⟩] [⟨.slice ag G.length cg, G.length, gcells G, 224, 3⟩] (roS (.slice aT T.length cT) (cellsB T) ++ (⟨gp, 0, ul P⟩ :: roG G)) wx)
       case first =>
        rcases List.eq_nil_or_concat G with rfl | ⟨G0, x, hG⟩
        ·(refine own_quiet hO (by kernel_rfl) (by kernel_rfl) ?_; clear hO; (repeat (first | go_big_quiet_skip | (go_big_quiet_want; (go_big_quiet_op; (first | go_big_quiet_on | ((refine ⟨_, fun _ _ => rfl, ?_⟩); go_big_quiet_on)))))); (refine wpQuiet_nil ?_); intro wv hO)
         go_wp2_with fail
         go_meet
         exact ⟨rfl, hO⟩
        ·rw [List.concat_eq_append] at hG
         subst hG
         obtain ⟨gg, rfl⟩ := hag (by simp)
         have hGl0 : G0.length + 1 ≤ 9223372036854775807 := by simpa using hGl
         obtain ⟨x1, x2, x3⟩ := HX.out x (by simp)
         have hfx := HM.out x (by simp)
         have hxl : x.rest.length ≤ 1000000000000 := by omega
         have s5 : IntKind.i64.wrap ((G0.length : Int) + 1 - 1) = (G0.length : Int) := by
          have : (G0.length : Int) + 1 - 1 = G0.length := by omega
          rw [this]; exact IntWalk.i64_in _ (by omega)
         have s6 : IntKind.i64.wrap (G0.length : Int) = (G0.length : Int) := IntWalk.i64_in _ (by omega)
         have w5 : IntKind.u32.wrap (x.r.hi + 1) = x.r.hi + 1 := by rw [IntKind.wrap_u32]; omega
         obtain ⟨c1, c2⟩ := gcells_last G0 x
         have y1 : (0 : Int) ≤ (G0.length : Int) := by omega
         have y2 : (G0.length : Int) < (G0.length : Int) + 1 := by omega
         have hjx : joinsG (G0 ++ [x]) s T = (decide (x.r.hi + 1 = s.lo) && decide (x.rest = T)) := by simp [joinsG]
         by_cases hh : x.r.hi + 1 = s.lo
         ·have g6 : (x.r.hi + 1 == s.lo) = true := by simp [hh]
          (refine own_quiet hO (by kernel_rfl) (by kernel_rfl) ?_; clear hO; (repeat (go_big_quiet_want; (first | ((with_reducible refine is_loadQ ?_); (refine q_ld (h := ?_)); (try simp only [Act.put]); (try simp only [sI9, sZ9, sS9]); go_big_quiet_on) | (go_big_quiet_op; (first | go_big_quiet_on | ((refine ⟨_, fun _ _ => rfl, ?_⟩); go_big_quiet_on) | go_big_quiet_call ((intro hq; go_at_call 194; exact q_call (bsame_any (va := x.v) (vb := .slice aT T.length cT) (l := x.rest) (m := T) _ (hq.isB hfx (fun q hq => List.mem_append_right _ (List.mem_cons_of_mem _ (roG_mem (by simp) q hq)))) (hq.isB HfT.out (fun q hq => List.mem_append_left _ hq)) hxl) hq))))))); (refine wpQuiet_nil ?_); intro wv hO)
          go_wp2_with fail
          go_meet
          exact ⟨by rw [hjx, decide_eq_true hh, Bool.true_and], hO⟩
         ·have g6 : (x.r.hi + 1 == s.lo) = false := by simp [hh]
          (refine own_quiet hO (by kernel_rfl) (by kernel_rfl) ?_; clear hO; (repeat (first | go_big_quiet_skip | (go_big_quiet_want; (first | ((with_reducible refine is_loadQ ?_); (refine q_ld (h := ?_)); (try simp only [Act.put]); (try simp only [sI9, sZ9, sS9]); go_big_quiet_on) | (go_big_quiet_op; (first | go_big_quiet_on | ((refine ⟨_, fun _ _ => rfl, ?_⟩); go_big_quiet_on))))))); (refine wpQuiet_nil ?_); intro wv hO)
          go_wp2_with fail
          go_meet
          exact ⟨by rw [hjx, decide_eq_false hh, Bool.false_and], hO⟩
       case rest =>
        clear hO
        obtain ⟨rfl, hO⟩ := hcut
        cases hj : joinsG G s T
        ·obtain ⟨k1, k2⟩ := grow_new (v := .slice aT T.length cT) HE.out hT0 hj
         rw [← HST.out] at k1 k2
         have e5 : (total (gpre F SS i) : Int) + T.length = (total (gpre F SS (i + 1)) : Int) := by omega
         have s5 : IntKind.i64.wrap ((total (gpre F SS i) : Int) + T.length) = (total (gpre F SS (i + 1)) : Int) := by rw [e5]; exact IntWalk.i64_in _ (by omega)
         have hGm : G.length + 1 ≤ 1000001 := by
          have h8 := HL.out i hi
          rw [HE.out] at h8
          simp only [List.length_reverse, List.length_map] at h8
          rw [← HE.out] at h8
          omega
         have hTt := HT.out (i + 1)
         have K1 := Lib.hid k1
         have HN := Lib.hid hTt
         clear hj k1 k2 hTt
         by_cases hz2 : total (gpre F SS (i + 1)) ≤ most
         ·have g7 : decide ((most : Int) < (total (gpre F SS (i + 1)) : Int)) = false := decide_eq_false (by omega)
          go_wp2_with (first | refine ldN ?_ | (refine' own_build1 (o := ⟨some 135, _, _, _, _, _⟩) hO (by rfl) rfl rfl ?hu ?hf ?_; (case hu => (exact und_Groups)); (case hf => kernel_rfl); clear hO; intro n135 wv hO) | (refine ap9 136 hO ?_; clear hO; intro g136 c136 wv hO))
          go_roundw
          case rel =>
           refine ⟨i + 1, G ++ [⟨s, .slice aT T.length cT, T⟩], by omega, by go_num, rfl, hz2, K1, Lib.hid ?_, ?_⟩
           ·intro x hx
            rcases List.mem_append.1 hx with hx | hx
            ·exact HM.out x hx
            ·rw [List.mem_singleton.1 hx]; exact HfT.out
           ·rw [gcells_append, gcells_one, List.length_append, roG_append]
            exact hO.sub (.cons _ (.cons _ (.refl _))) (.refl _) (by
             intro q hq
             rcases List.mem_cons.1 hq with rfl | hq
             ·exact List.mem_append_right _ List.mem_cons_self
             ·rcases List.mem_append.1 hq with hq | hq
              ·exact List.mem_append_right _ (List.mem_cons_of_mem _ hq)
              ·exact List.mem_append_left _ (by simpa [roG] using hq))
          case measure => simp [intOf]; omega
         ·have g7 : decide ((most : Int) < (total (gpre F SS (i + 1)) : Int)) = true := decide_eq_true (by omega)
          go_wp2_with (first | refine ldN ?_ | (refine' own_build1 (o := ⟨some 135, _, _, _, _, _⟩) hO (by rfl) rfl rfl ?hu ?hf ?_; (case hu => (exact und_Groups)); (case hf => kernel_rfl); clear hO; intro n135 wv hO) | (refine ap9 136 hO ?_; clear hO; intro g136 c136 wv hO))
          go_ret2
          exact ⟨.slice none 0 0, .inr ⟨by have := HN.out; omega, rfl⟩, hO.keep.below⟩
        ·rcases List.eq_nil_or_concat G with rfl | ⟨G0, x, hG⟩
         ·cases hj
         ·rw [List.concat_eq_append] at hG
          subst hG
          obtain ⟨gg, rfl⟩ := hag (by simp)
          have hGl0 : G0.length + 1 ≤ 9223372036854775807 := by simpa using hGl
          obtain ⟨k1, k2⟩ := grow_join HE.out hT0 hj
          rw [← HST.out] at k1 k2
          have K1 := Lib.hid k1
          have hset := gcells_setHi G0 x s.hi
          have hsl : G0.length * 3 + 1 < (gcells (G0 ++ [x])).length := by rw [gcells_length]; simp; omega
          have s5 : IntKind.i64.wrap ((G0.length : Int) + 1 - 1) = (G0.length : Int) := by
           have : (G0.length : Int) + 1 - 1 = G0.length := by omega
           rw [this]; exact IntWalk.i64_in _ (by omega)
          have s6 : IntKind.i64.wrap (G0.length : Int) = (G0.length : Int) := IntWalk.i64_in _ (by omega)
          have y1 : (0 : Int) ≤ (G0.length : Int) := by omega
          have y2 : (G0.length : Int) < (G0.length : Int) + 1 := by omega
          clear hj k1
          go_wp2_with (first | refine ldN ?_ | ((with_reducible refine is_store ?_); (refine own_stRo hO (h := ?_); clear hO; intro wv hO)))
          go_roundw
          case rel =>
           refine ⟨i + 1, G0 ++ [⟨⟨x.r.lo, s.hi⟩, x.v, x.rest⟩], by omega, by go_num, by rw [k2], by rw [k2]; exact hz, K1, Lib.hid ?_, ?_⟩
           ·intro y hy
            rcases List.mem_append.1 hy with hy | hy
            ·exact HM.out y (List.mem_append_left _ hy)
            ·rw [List.mem_singleton.1 hy]; exact HM.out x (by simp)
           ·have el : (G0 ++ [(⟨⟨x.r.lo, s.hi⟩, x.v, x.rest⟩ : GV)]).length = G0.length + 1 := by simp
            have el2 : (G0 ++ [x]).length = G0.length + 1 := by simp
            rw [el2] at hO
            have er : roG (G0 ++ [(⟨⟨x.r.lo, s.hi⟩, x.v, x.rest⟩ : GV)]) = roG (G0 ++ [x]) := by simp [roG]
            rw [el, er]
            exact hO.sub (.cons _ (.refl _)) (.refl _) (fun q hq => List.mem_append_right _ hq)
          case measure => simp [intOf]; omega
    ·go_upto_region 14 with (fail)
     refine wp_region_any (by kernel_rfl) ?_
     replace hO := hO.drew
     have ix9 := Ix.mk [0, 1, 2, 3, 4, 7, 8, 9, 12, 13]
     iterate 10 (refine wpAny_tk ix9 ?_; replace ix9 := ix9.tail; (first | go_big_quiet_skip | (go_big_quiet_want; (go_big_quiet_op; (first | go_big_quiet_on | ((refine ⟨_, fun _ _ => rfl, ?_⟩); go_big_quiet_on))))); (refine wpQuiet_nil ?_); (try simp only [Act.put]); (try simp only [sI9, sZ9, sS9]))
     clear ix9
     refine wpAny_all (rs := [5, 10]) (by kernel_rfl) (by simp) (ord_cons ?_ (ord_cons ?_ ord_nil))
     rotate_left 2
     all_goals
      refine wpOp_of_listL rfl ?_
      (refine ldN ?_); (try simp only [Act.put]); (try simp only [sI9, sZ9, sS9])
      refine wpList_done (qk_intro ?_)
     refine wpAny_all (rs := [6, 10]) (by kernel_rfl) (by simp) (ord_cons ?_ (ord_cons ?_ ord_nil))
     rotate_left 2
     refine wpAny_1 5 ?_
     rotate_left 1
     all_goals
      refine wpOp_of_listL rfl ?_
      (first | refine ldN ?_ | ((refine wpList_step (fun K hK => ?_)); go_simp; ((go_at_call 201; (with_reducible refine (hcvA _ (HVa.out.keep0 hO)).mono ?_); rintro e wv ⟨v1, rfl, ⟨hv9, hn9⟩, hb9⟩; have hfv1 := hv9.form; replace hO := hO.gainB hb9 hv9 hn9; clear hb9 hv9 hn9); (try simp only []); (refine hK _ _ ?_); clear hK K))); (try simp only [Act.put]); (try simp only [sI9, sZ9, sS9])
      refine wpList_done (qk_intro ?_)
     refine wpAny_1 10 ?_
     rotate_left 1
     refine wpAny_1 6 ?_
     rotate_left 1
     refine wpAny_1 6 ?_
     rotate_left 1
     all_goals
      refine wpOp_of_listL rfl ?_
      (first | refine ldN ?_ | ((refine wpList_step (fun K hK => ?_)); go_simp; ((go_at_call 201; (with_reducible refine (hcvA _ (HVa.out.keep0 hO)).mono ?_); rintro e wv ⟨v1, rfl, ⟨hv9, hn9⟩, hb9⟩; have hfv1 := hv9.form; replace hO := hO.gainB hb9 hv9 hn9; clear hb9 hv9 hn9); (try simp only []); (refine hK _ _ ?_); clear hK K))); (try simp only [Act.put]); (try simp only [sI9, sZ9, sS9])
      refine wpList_done (qk_intro ?_)
     refine wpAny_1 11 ?_
     rotate_left 1
     refine wpAny_1 11 ?_
     rotate_left 1
     refine wpAny_1 11 ?_
     rotate_left 1
     all_goals
      refine wpOp_of_listL rfl ?_
      ((refine wpList_step (fun K hK => ?_)); go_simp; ((go_at_call 201; (with_reducible refine (hcvB _ (HVb.out.keep0 hO)).mono ?_); rintro e wv ⟨v2, rfl, ⟨hv9, hn9⟩, hb9⟩; have hfv2 := hv9.form; replace hO := hO.gainB hb9 hv9 hn9; clear hb9 hv9 hn9); (try simp only []); (refine hK _ _ ?_); clear hK K))
      refine wpList_done (qk_intro ?_)
     refine wpAny_1 14 ?_
     rotate_left 1
     refine wpAny_1 14 ?_
     rotate_left 1
     refine wpAny_1 14 ?_
     rotate_left 1
     all_goals
      refine wpOp_of_listL rfl ?_
      ((refine wpList_step (fun K hK => ?_)); go_simp; ((go_at_call 190; (with_reducible refine (hih v1 v2 _ (hO.tops ht (by simp)) (hO.isB hfv1 (by intro q hq; (exact List.mem_append_right _ (List.mem_append_left _ hq)))) (hO.isB hfv2 (by intro q hq; (exact List.mem_append_left _ hq)))).mono ?_); rintro e wv hpo; obtain ⟨rfl, hb9⟩ := hpo.no (by omega); replace hO := hO.call hb9; clear hb9 hpo); (try simp only []); (refine hK _ _ ?_); clear hK K))
      refine wpList_done (qk_intro ?_)
     have ix9 := Ix.mk [15, 16, 17]
     iterate 3 (refine wpAny_tk ix9 ?_; replace ix9 := ix9.tail; (first | go_big_quiet_skip | (go_big_quiet_want; (go_big_quiet_op; (first | go_big_quiet_on | ((refine ⟨_, fun _ _ => rfl, ?_⟩); go_big_quiet_on))))); (refine wpQuiet_nil ?_); (try simp only [Act.put]); (try simp only [sI9, sZ9, sS9]))
     clear ix9
     refine wpAny_1 18 ?_
     rotate_left 1
     have ix9 := Ix.mk [15, 16, 17]
     iterate 3 (refine wpAny_tk ix9 ?_; replace ix9 := ix9.tail; (first | go_big_quiet_skip | (go_big_quiet_want; (go_big_quiet_op; (first | go_big_quiet_on | ((refine ⟨_, fun _ _ => rfl, ?_⟩); go_big_quiet_on))))); (refine wpQuiet_nil ?_); (try simp only [Act.put]); (try simp only [sI9, sZ9, sS9]))
     clear ix9
     refine wpAny_1 18 ?_
     rotate_left 1
     have ix9 := Ix.mk [15, 16, 17]
     iterate 3 (refine wpAny_tk ix9 ?_; replace ix9 := ix9.tail; (first | go_big_quiet_skip | (go_big_quiet_want; (go_big_quiet_op; (first | go_big_quiet_on | ((refine ⟨_, fun _ _ => rfl, ?_⟩); go_big_quiet_on))))); (refine wpQuiet_nil ?_); (try simp only [Act.put]); (try simp only [sI9, sZ9, sS9]))
     clear ix9
     refine wpAny_1 18 ?_
     rotate_left 1
     all_goals
      refine wpOp_of_listL rfl ?_
      ((refine wpList_step (fun K hK => ?_)); go_simp; ((refine hK _ _ ?_); clear hK K))
      refine wpList_done (qk_intro ?_)
     refine wpAny_1 19 ?_
     rotate_left 1
     refine wpAny_1 19 ?_
     rotate_left 1
     refine wpAny_1 19 ?_
     rotate_left 1
     all_goals
      refine wpOp_of_listL rfl ?_
      ((refine wpList_step (fun K hK => ?_)); go_simp; ((refine hK _ _ ?_); clear hK K))
      refine wpList_done (qk_intro ?_)
     refine wpAny_done (by kernel_rfl) ?_ _
     rotate_left
     refine wpAny_done (by kernel_rfl) ?_ _
     rotate_left
     refine wpAny_done (by kernel_rfl) ?_ _
     rotate_left
     all_goals
      go_wp2_with fail
      go_ret2
      exact ⟨.slice none 0 0, .inr ⟨by omega, rfl⟩, hO.keep.below⟩
   ·have hiN : i = N := by omega
    subst hiN
    have hD := HA.out i rfl
    rw [HE.out, List.reverse_reverse] at hD
    have hZ : total (gpre F SS i) = D.length := by rw [hD, flatG_length, HE.out, total_reverse]
    rw [hZ] at hz ⊢
    have HD := Lib.hid hD
    clear hD hZ HE HA HT HR HP HQ HS HC HI HF HL
    have hD2 : D.length ≤ 1000000 := by omega
    go_wp2_with ((with_reducible refine is_makeA ?_); (refine own_make0 (o := ⟨some 145, _, _, _, _, _⟩) hO rfl rfl slice_Boxes rfl (c := D.length) rfl (by omega) (by unfold maxLen; omega) ?_); clear hO; intro n145 wv hO)
    go_loopw [20, 148] (fun r q wr => ∃ k : Nat, k ≤ G.length ∧ q = .int .i64 k ∧ Own [] w [] [⟨r, (flatG f ((G.take k).map GV.grp)).length, cellsB (flatG f ((G.take k).map GV.grp)), 98, 10⟩, ⟨.slice ag G.length cg, G.length, gcells G, 224, 3⟩] (roG G) wr) (fun _ q _ => G.length - (intOf q).toNat)
    case atStart => exact ⟨0, by omega, rfl, hO.sub (.refl _) (.refl _) (fun q hq => List.mem_cons_of_mem _ hq)⟩
    case round =>
     clear hO
     obtain ⟨k, hk, rfl, hO⟩ := hrel
     by_cases hlt2 : k < G.length
     ·obtain ⟨gg, rfl⟩ := hag (by omega)
      have t1 := gcells_at G hlt2
      have HT := Lib.hid (flat_take (f := f) hlt2)
      have hle := flat_take_le f G (k + 1)
      rw [HT.out, ← HD.out, List.length_append, List.length_map] at hle
      have hfx := HM.out G[k] (List.getElem_mem hlt2)
      have hrm := roG_mem (G := G) (x := G[k]) (List.getElem_mem hlt2)
      generalize flatG f ((G.take k).map GV.grp) = Q at *
      generalize G[k] = x at *
      obtain ⟨xr, xv, xl⟩ := x
      obtain ⟨xa, xc, hxv, hxa⟩ := hfx.view
      dsimp only at hxv hxa hle hrm HT hfx
      subst hxv
      have hOS := hO.sub (S' := roS (.slice xa xl.length xc) (cellsB xl) ++ roG G) (.refl _) (.refl _) (fun q hq => (List.mem_append.1 hq).elim (fun h => hrm q h) id)
      replace hO := hOS
      clear hOS hrm hfx
      change List.take ([.int .u32 xr.lo, .int .u32 xr.hi, .slice xa xl.length xc] : List Value).length (List.drop (k * 3) (gcells G)) = [.int .u32 xr.lo, .int .u32 xr.hi, .slice xa xl.length xc] at t1
      go_wp2_with (first | refine ldN ?_ | (refine stN hO ?_; clear hO; intro wv hO) | (refine al9 22 hO ?_; clear hO; intro n22 wv hO))
      go_loopw [20, 155] (fun r q wr => ∃ j : Nat, j ≤ xl.length ∧ q = .int .i64 j ∧ Own [] w [⟨n22, [.int .u32 xr.lo, .int .u32 xr.hi, .slice xa xl.length xc], 224⟩] [⟨r, (Q ++ (xl.take j).map fun y => y.set f xr).length, cellsB (Q ++ (xl.take j).map fun y => y.set f xr), 98, 10⟩, ⟨.slice (some ⟨gg, 0, none⟩) G.length cg, G.length, gcells G, 224, 3⟩] (roS (.slice xa xl.length xc) (cellsB xl) ++ roG G) wr) (fun _ q _ => xl.length - (intOf q).toNat)
      case atStart => exact ⟨0, by omega, rfl, by simp only [List.take_zero, List.map_nil, List.append_nil]; exact hO⟩
      case round =>
       clear hO
       obtain ⟨j, hj, rfl, hO⟩ := hrel
       by_cases hlt3 : j < xl.length
       ·obtain ⟨gx, ox, rfl⟩ := hxa (by omega)
        simp only [roS, List.cons_append, List.nil_append] at hO
        have HU := Lib.hid (show Q ++ (xl.take (j + 1)).map (fun y => y.set f xr) = (Q ++ (xl.take j).map fun y => y.set f xr) ++ [xl[j].set f xr] by
         rw [List.take_succ_eq_append_getElem hlt3, List.map_append, List.append_assoc]; rfl)
        have hVl : (Q ++ (xl.take j).map fun y => y.set f xr).length + 1 ≤ 1000000 := by
         rw [List.length_append, List.length_map, List.length_take]; omega
        have t2 : List.take ([.int .u32 xr.lo, .int .u32 xr.hi] : List Value).length (List.drop 0 ([.int .u32 xr.lo, .int .u32 xr.hi, .slice (some ⟨gx, ox, none⟩) xl.length xc] : List Value)) = [.int .u32 xr.lo, .int .u32 xr.hi] := rfl
        generalize (Q ++ (xl.take j).map fun y => y.set f xr) = V at *
        clear t1
        go_wp2_with (first | refine ldN ?_ | (refine stN hO ?_; clear hO; intro wv hO) | (refine al9 24 hO ?_; clear hO; intro n24 wv hO) | (refine bl9 165 hO ?_; clear hO; intro n165 wv hO) | (refine ap9 166 hO ?_; clear hO; intro g166 c166 wv hO))
        go_roundw
        case rel =>
         refine ⟨j + 1, by omega, by go_num, ?_⟩
         rw [HU.out, List.length_append, cellsB_append, cellsB_one]
         exact hO.sub (.cons _ (.cons _ (.refl _))) (.refl _) (fun _ h => h)
        case measure => simp [intOf]; omega
       ·have hjx : j = xl.length := by omega
        subst hjx
        rw [List.take_length] at hO
        go_wp2_with fail
        go_roundw
        case rel =>
         refine ⟨k + 1, by omega, by go_num, ?_⟩
         rw [HT.out]
         exact hO.sub (.cons _ (.refl _)) (.refl _) (fun q hq => List.mem_append_right _ hq)
        case measure => simp [intOf]; omega
     ·have hkG : k = G.length := by omega
      subst hkG
      rw [List.take_length, ← HD.out] at hO
      go_wp2_with fail
      go_ret2
      exact ⟨_, .inl ⟨hz, rfl, own_boxes hO List.mem_cons_self, own_new hO List.mem_cons_self⟩, hO.keep.below⟩
end Go.Proofs.YtbdfblgdmappeaaGreatDoor
