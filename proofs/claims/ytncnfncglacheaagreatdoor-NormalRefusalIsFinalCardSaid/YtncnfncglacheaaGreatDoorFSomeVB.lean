/- Part of a proof. -/
import Derived.Test.YtncnfncglacheaaGreatDoorFNode
set_option linter.all false
set_option maxRecDepth 100000
set_option maxHeartbeats 64000000
namespace Go.Proofs.YtncnfncglacheaaGreatDoor
open Go Go.RowKit Mem
theorem evB:yT GH false=true:=by decide+kernel
end Go.Proofs.YtncnfncglacheaaGreatDoor
