/- The reference of packet sets: valid, Canon, limited, Make. -/
import Derived.Test.YtbdfblgdmappeaaDoorNB
import Derived.Test.YtbdfblgdmappeaaDoorMP
import Derived.Test.YtbdfblgdmappeaaDoorMS
import Derived.Test.YtbdfblgdmappeaaDoorMB
import Derived.Test.YtbdfblgdmappeaaDoorMV
namespace Go.Proofs.YtbdfblgdmappeaaDoor
open Go.RowKit
set_option maxRecDepth 100000
theorem IsBoxes.one {w : World} {g o c k : Nat} {l : List Bx} (h : IsBoxes w (.slice (some ⟨g, o, none⟩) l.length c) l) (hk : k < l.length) (c' : Nat) (hc : 1 ≤ c') : IsBoxes w (.slice (some ⟨g, o + k * 10, none⟩) 1 c') [l[k]] := by
 have := h.part k 1 c' (by omega) hc
 rwa [List.drop_eq_getElem_cons hk, List.take_succ_cons, List.take_zero] at this
theorem IsBoxes.cap {w : World} {a : Option Addr} {c : Nat} {l : List Bx} (h : IsBoxes w (.slice a l.length c) l) : l.length ≤ c := by
 rcases h with ⟨_, rfl⟩ | ⟨g, o, c', h1, h2, _⟩
 ·exact Nat.zero_le _
 ·cases h1; exact h2
theorem canon_self {D : List Bx} (h : Cn 0 5 D) : canonF orB 0 5 D [] = D := by
 have hv := h.valid rfl
 refine Cn.extq (canonF_cn orB 5 0 rfl hv (fun b hb => by cases hb)) h fun p hp => ?_
 rw [inq_canon hp hv (fun b hb => by cases hb), inq_nil]
 simp [orB]
end Go.Proofs.YtbdfblgdmappeaaDoor
