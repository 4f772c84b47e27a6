/- Part of a proof. -/
import Derived.Test.YtncnfncglacheaaGreatDoorFEvMt
set_option linter.all false
set_option maxRecDepth 100000
set_option maxHeartbeats 64000000
namespace Go.Proofs.YtncnfncglacheaaGreatDoor
namespace Ev
theorem agb:nY KM hT [gT] 11=true:=by kernel_rfl
theorem agT:(ji.all fun x=>kV (gW KM hT [gT] 11 false x))=true:=by kernel_rfl
theorem agY:gW KM hT [gT] 11 true []=gW KM hT [gT] 11 false []:=by kernel_rfl
theorem aha:qL KM hT [gT] 11:=⟨agb,agT,agY⟩
end Ev
end Go.Proofs.YtncnfncglacheaaGreatDoor
