/- Part of a proof. -/
import Derived.Test.YtngjelolnfgnbaaGreatDoorMAgg
import Derived.OwnWalkIn
set_option linter.all false
set_option maxRecDepth 100000
set_option maxHeartbeats 64000000
namespace Go.Proofs.YtngjelolnfgnbaaGreatDoor
namespace Mem
open Go Go.RowKit
variable {α:Type} {f:α→Value} {w w':World} {base:Nat} {e:TypeId} {v:Value} {l:List α}
variable {F:Fence} {n:Nat} {P:Program} {ops:Array Oper} {rest:List Oper} {o:Oper} {a:Act} {Q:Exit→Act→World→Prop}
end Mem
end Go.Proofs.YtngjelolnfgnbaaGreatDoor
