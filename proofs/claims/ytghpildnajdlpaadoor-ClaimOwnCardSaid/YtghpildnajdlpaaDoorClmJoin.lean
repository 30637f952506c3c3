/-
  What two claims join to, walked: the program's Join. Conditions: as for Clone; the table of modes lies there.
-/
import Derived.Test.YtghpildnajdlpaaDoorClmJoinA
import Derived.Test.YtghpildnajdlpaaDoorClmJoinB
namespace Go.Proofs.YtghpildnajdlpaaDoor
open Go.RowKit
variable {W : World}

theorem cjoin_any {a b : Cl} {A P A' P' : Option Addr} {ca pa ca' pa' : Nat} (W : World) (hT : Tabs W) (ha : a.At W A ca P pa) (hb : b.At W A' ca' P' pa') (fa : a.Fits) (fb : b.Fits) : Calls Tryd.prog 22 #[a.arg A ca P pa, b.arg A' ca' P' pa'] W (COwn W (a.join b)) := by
  cases h : a.same b
  · exact cjoin_no h W hT ha hb fa fb
  · exact cjoin_yes h W hT ha hb fa fb
end Go.Proofs.YtghpildnajdlpaaDoor
