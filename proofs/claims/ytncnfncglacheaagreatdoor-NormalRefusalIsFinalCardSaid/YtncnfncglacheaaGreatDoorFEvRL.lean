/- Part of a proof. -/
import Derived.Test.YtncnfncglacheaaGreatDoorFEvRun
set_option linter.all false
set_option maxRecDepth 100000
set_option maxHeartbeats 64000000
namespace Go.Proofs.YtncnfncglacheaaGreatDoor
namespace Ev
theorem ck6:nY KL hT [gT] 6=true:=by kernel_rfl
theorem ra6:(ji.all fun x=>kV (gW KL hT [gT] 6 false x))=true:=by kernel_rfl
theorem rn6:gW KL hT [gT] 6 true []=gW KL hT [gT] 6 false []:=by kernel_rfl
theorem rd6:qL KL hT [gT] 6:=⟨ck6,ra6,rn6⟩
end Ev
end Go.Proofs.YtncnfncglacheaaGreatDoor
