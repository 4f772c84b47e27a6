/- Part of a proof. -/
import Derived.Test.YtncnfncglacheaaGreatDoorMEvRun
set_option linter.all false
set_option maxRecDepth 100000
set_option maxHeartbeats 64000000
namespace Go.Proofs.YtncnfncglacheaaGreatDoor
namespace Ev
theorem ck9:nG bG .e [] 9=true:=by kernel_rfl
theorem ra9:(iY.all fun x=>kE (gG bG .e [] 9 false x))=true:=by kernel_rfl
theorem rn9:gG bG .e [] 9 true []=gG bG .e [] 9 false []:=by kernel_rfl
theorem rd9:qo bG .e [] 9:=⟨ck9,ra9,rn9⟩
theorem afT:nG bG .e [] 12=true:=by kernel_rfl
theorem afu:(iY.all fun x=>kE (gG bG .e [] 12 false x))=true:=by kernel_rfl
theorem agc:gG bG .e [] 12 true []=gG bG .e [] 12 false []:=by kernel_rfl
theorem afY:qo bG .e [] 12:=⟨afT,afu,agc⟩
theorem afC:nG bG .e [] 13=true:=by kernel_rfl
theorem ae1:(iY.all fun x=>kE (gG bG .e [] 13 false x))=true:=by kernel_rfl
theorem afB:gG bG .e [] 13 true []=gG bG .e [] 13 false []:=by kernel_rfl
theorem aeY:qo bG .e [] 13:=⟨afC,ae1,afB⟩
end Ev
end Go.Proofs.YtncnfncglacheaaGreatDoor
