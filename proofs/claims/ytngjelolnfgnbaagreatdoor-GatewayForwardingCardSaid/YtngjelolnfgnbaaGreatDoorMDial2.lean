/- Part of a proof. -/
import Derived.BigQuiet
import Derived.Deep.LoopGhost
import Derived.Test.YtngjelolnfgnbaaGreatDoorMDial
set_option linter.all false
set_option maxRecDepth 100000
set_option maxHeartbeats 64000000
namespace Go.Proofs.YtngjelolnfgnbaaGreatDoor
open Go.RowKit Mem
end Go.Proofs.YtngjelolnfgnbaaGreatDoor
