/- Regions that draw their order, some moves of which may come late (behind stores): those are taken ahead. For any program. -/
import Derived.Test.YtnhjcbmlplfpmaaDoorLooseW
namespace Go.Proofs.YtnhjcbmlplfpmaaDoor
open Go.RowKit
section
variable {P : Program} {M : List Nat} {w0 w : World} {X : List Chunk} {R : List Row} {S : List Ro} {Q : Exit → Act → World → Prop} {a : Act}
theorem own_float {id : Nat} {l : List Oper} (n : Nat) (fl ks : List Nat) (T : Facts) (hO : Own M w0 X R S w) (hm : P.follows .mixedOrders = true) (hB : headF .any l.toArray n fl ks = true) (hf : fitsB l.toArray a.tmps.size = true) (hL : Lasts [] (Own M w0 X R S) T)
    (hQ : ∀ d v c a w, Q (.panic c) (Act.put a d v) w → Q (.panic c) a w)
    (h : wpLoose P l.toArray (Own M w0 X R S) [] T (fun F a' => ∀ w', Inv (Own M w0 X R S) T F a' w' → wpList P l.toArray Q (l.drop n) a' w') (pickK l.toArray ks) (fun _ => False) (floatAct l.toArray fl a)) : (Code.region id l.toArray true).wp P Q a w :=
  wp_region_float n _ fl ks T (Own M w0 X R S) [] hm hB hf rfl hL (.inr hQ) hO.drew h
end
end Go.Proofs.YtnhjcbmlplfpmaaDoor
