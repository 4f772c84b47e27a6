/- Part of a proof. -/
import Derived.Test.YtngjelolnfgnbaaGreatDoorMAl
import Derived.RangeFuncFrom
import Derived.RangeFuncLeaves
set_option linter.all false
set_option maxRecDepth 100000
set_option maxHeartbeats 64000000
namespace Go.Proofs.YtngjelolnfgnbaaGreatDoor
namespace Mem
open Go Go.RowKit
variable {F:Fence} {n:Nat} {P:Program}
end Mem
namespace Mem
open Go Go.RowKit
variable {F:Fence} {n:Nat} {P:Program}
end Mem
end Go.Proofs.YtngjelolnfgnbaaGreatDoor
