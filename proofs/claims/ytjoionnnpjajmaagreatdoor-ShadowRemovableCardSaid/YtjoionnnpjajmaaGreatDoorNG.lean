/- Differ, of the program and of the reference; the reference's lows, First, Order. -/
import Derived.Test.YtjoionnnpjajmaaGreatDoorMW
import Derived.Test.YtjoionnnpjajmaaGreatDoorMX
import Derived.Test.YtjoionnnpjajmaaGreatDoorNC
import Derived.Test.YtjoionnnpjajmaaGreatDoorMV
import Derived.Test.YtjoionnnpjajmaaGreatDoorMS
import Derived.Test.YtjoionnnpjajmaaGreatDoorMB
namespace Go.Proofs.YtjoionnnpjajmaaGreatDoor
open Go.RowKit
set_option maxRecDepth 100000
theorem canon_small10 {op : Bool → Bool → Bool} {N M : Nat} {a b : List Bx} (ha : Ends N a) (hb : Ends M b) (h : N + M ≤ 90) : (canonF op 0 5 a b).length ≤ 10000000000 :=
 Nat.le_trans (canon_len ha hb (f := 0) rfl) (Nat.le_trans (Nat.pow_le_pow_left (show N + M + 2 ≤ 92 by omega) 5) (by decide))
end Go.Proofs.YtjoionnnpjajmaaGreatDoor
