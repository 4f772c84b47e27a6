/- Part of a proof. -/
import Derived.Test.YtncnfncglacheaaGreatDoorMEvMt
set_option linter.all false
set_option maxRecDepth 100000
set_option maxHeartbeats 64000000
namespace Go.Proofs.YtncnfncglacheaaGreatDoor
namespace Ev
theorem af7:nG KM hT [gT] 11=true:=by kernel_rfl
theorem agt:(iY.all fun x=>kE (gG KM hT [gT] 11 false x))=true:=by kernel_rfl
theorem afg:gG KM hT [gT] 11 true []=gG KM hT [gT] 11 false []:=by kernel_rfl
theorem af2:qo KM hT [gT] 11:=⟨af7,agt,afg⟩
end Ev
end Go.Proofs.YtncnfncglacheaaGreatDoor
