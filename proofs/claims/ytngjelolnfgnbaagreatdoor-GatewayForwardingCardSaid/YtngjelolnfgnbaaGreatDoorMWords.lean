/- Part of a proof. -/
import Derived.Laws.BitsAll
import Derived.Laws.BitsAllLaws
import Derived.Test.YtngjelolnfgnbaaGreatDoorMAl
set_option linter.all false
set_option maxRecDepth 100000
set_option maxHeartbeats 64000000
namespace Go.Proofs.YtngjelolnfgnbaaGreatDoor
namespace Words
open Go Go.Proofs.YtngjelolnfgnbaaGreatDoor
def W (x:UInt32):Int:=(x.toNat:Int)
end Words
end Go.Proofs.YtngjelolnfgnbaaGreatDoor
