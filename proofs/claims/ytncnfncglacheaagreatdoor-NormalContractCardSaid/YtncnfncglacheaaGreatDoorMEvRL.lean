/- Part of a proof. -/
import Derived.Test.YtncnfncglacheaaGreatDoorMEvRun
set_option linter.all false
set_option maxRecDepth 100000
set_option maxHeartbeats 64000000
namespace Go.Proofs.YtncnfncglacheaaGreatDoor
namespace Ev
theorem ck6:nG KL hT [gT] 6=true:=by kernel_rfl
theorem ra6:(iY.all fun x=>kE (gG KL hT [gT] 6 false x))=true:=by kernel_rfl
theorem rn6:gG KL hT [gT] 6 true []=gG KL hT [gT] 6 false []:=by kernel_rfl
theorem rd6:qo KL hT [gT] 6:=⟨ck6,ra6,rn6⟩
end Ev
end Go.Proofs.YtncnfncglacheaaGreatDoor
