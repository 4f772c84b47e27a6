/- Part of a proof. -/
import Derived.Test.YtncnfncglacheaaGreatDoorFEvMt
set_option linter.all false
set_option maxRecDepth 100000
set_option maxHeartbeats 64000000
namespace Go.Proofs.YtncnfncglacheaaGreatDoor
namespace Ev
theorem agw:nY KM hT [gT] 10=true:=by kernel_rfl
theorem agr:(ji.all fun x=>kV (gW KM hT [gT] 10 false x))=true:=by kernel_rfl
theorem agy:gW KM hT [gT] 10 true []=gW KM hT [gT] 10 false []:=by kernel_rfl
theorem af5:qL KM hT [gT] 10:=⟨agw,agr,agy⟩
end Ev
end Go.Proofs.YtncnfncglacheaaGreatDoor
