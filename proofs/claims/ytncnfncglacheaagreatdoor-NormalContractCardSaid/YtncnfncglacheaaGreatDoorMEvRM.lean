/- Part of a proof. -/
import Derived.Test.YtncnfncglacheaaGreatDoorMEvMt
set_option linter.all false
set_option maxRecDepth 100000
set_option maxHeartbeats 64000000
namespace Go.Proofs.YtncnfncglacheaaGreatDoor
namespace Ev
theorem afk:nG KM hT [gT] 10=true:=by kernel_rfl
theorem afc:(iY.all fun x=>kE (gG KM hT [gT] 10 false x))=true:=by kernel_rfl
theorem agw:gG KM hT [gT] 10 true []=gG KM hT [gT] 10 false []:=by kernel_rfl
theorem afW:qo KM hT [gT] 10:=⟨afk,afc,agw⟩
end Ev
end Go.Proofs.YtncnfncglacheaaGreatDoor
