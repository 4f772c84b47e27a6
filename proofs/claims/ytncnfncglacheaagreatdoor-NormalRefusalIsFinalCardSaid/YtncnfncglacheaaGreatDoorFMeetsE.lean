/- Part of a proof. -/
import Derived.Test.YtncnfncglacheaaGreatDoorFMeets
import Derived.Test.YtncnfncglacheaaGreatDoorFSmE
set_option linter.all false
set_option maxRecDepth 100000
set_option maxHeartbeats 64000000
namespace Go.Proofs.YtncnfncglacheaaGreatDoor
open Go.RowKit Mem
end Go.Proofs.YtncnfncglacheaaGreatDoor
