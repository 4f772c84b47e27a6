/- Part of a proof. -/
import Derived.Test.YtncnfncglacheaaGreatDoorMEvRun
set_option linter.all false
set_option maxRecDepth 100000
set_option maxHeartbeats 64000000
namespace Go.Proofs.YtncnfncglacheaaGreatDoor
namespace Ev
theorem ck0:nG bG .e [] 0=true:=by kernel_rfl
theorem ra0:(iY.all fun x=>kE (gG bG .e [] 0 false x))=true:=by kernel_rfl
theorem rn0:gG bG .e [] 0 true []=gG bG .e [] 0 false []:=by kernel_rfl
theorem rd0:qo bG .e [] 0:=⟨ck0,ra0,rn0⟩
theorem ck1:nG bG .e [] 1=true:=by kernel_rfl
theorem ra1:(iY.all fun x=>kE (gG bG .e [] 1 false x))=true:=by kernel_rfl
theorem ig:gG bG .e [] 1 true []=gG bG .e [] 1 false []:=by kernel_rfl
theorem rd1:qo bG .e [] 1:=⟨ck1,ra1,ig⟩
theorem ck2:nG bG .e [] 2=true:=by kernel_rfl
theorem ra2:(iY.all fun x=>kE (gG bG .e [] 2 false x))=true:=by kernel_rfl
theorem gu:gG bG .e [] 2 true []=gG bG .e [] 2 false []:=by kernel_rfl
theorem rd2:qo bG .e [] 2:=⟨ck2,ra2,gu⟩
theorem ck3:nG bG .e [] 3=true:=by kernel_rfl
theorem ra3:(iY.all fun x=>kE (gG bG .e [] 3 false x))=true:=by kernel_rfl
theorem gX:gG bG .e [] 3 true []=gG bG .e [] 3 false []:=by kernel_rfl
theorem rd3:qo bG .e [] 3:=⟨ck3,ra3,gX⟩
end Ev
end Go.Proofs.YtncnfncglacheaaGreatDoor
