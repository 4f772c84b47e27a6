/- Part of a proof. -/
import Derived.Test.YtngjelolnfgnbaaGreatDoorMHeldD
import Derived.RegionTactic
set_option linter.all false
set_option maxRecDepth 100000
set_option maxHeartbeats 64000000
namespace Go.Proofs.YtngjelolnfgnbaaGreatDoor
namespace Mem
open Go Go.RowKit
section
variable {P:Program} {l:List Oper} {Q:Exit→Act→World→Prop} {a0:Act} {w0:World} {n:Nat} {D:List Nat} {Φ:Nat→Value→World→Prop}
end
end Mem
end Go.Proofs.YtngjelolnfgnbaaGreatDoor
