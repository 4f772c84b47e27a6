/- Part of a proof. -/
import Derived.Test.YtncnfncglacheaaGreatDoorMEvRun
set_option linter.all false
set_option maxRecDepth 100000
set_option maxHeartbeats 64000000
namespace Go.Proofs.YtncnfncglacheaaGreatDoor
namespace Ev
theorem ck4:nG bG .e [] 4=true:=by kernel_rfl
theorem ra4:(iY.all fun x=>kE (gG bG .e [] 4 false x))=true:=by kernel_rfl
theorem rn4:gG bG .e [] 4 true []=gG bG .e [] 4 false []:=by kernel_rfl
theorem rd4:qo bG .e [] 4:=⟨ck4,ra4,rn4⟩
theorem ck5:nG bG .e [] 5=true:=by kernel_rfl
theorem ra5:(iY.all fun x=>kE (gG bG .e [] 5 false x))=true:=by kernel_rfl
theorem rn5:gG bG .e [] 5 true []=gG bG .e [] 5 false []:=by kernel_rfl
theorem rd5:qo bG .e [] 5:=⟨ck5,ra5,rn5⟩
theorem ck7:nG bG .e [] 7=true:=by kernel_rfl
theorem ra7:(iY.all fun x=>kE (gG bG .e [] 7 false x))=true:=by kernel_rfl
theorem rn7:gG bG .e [] 7 true []=gG bG .e [] 7 false []:=by kernel_rfl
theorem rd7:qo bG .e [] 7:=⟨ck7,ra7,rn7⟩
theorem ck8:nG bG .e [] 8=true:=by kernel_rfl
theorem ra8:(iY.all fun x=>kE (gG bG .e [] 8 false x))=true:=by kernel_rfl
theorem rn8:gG bG .e [] 8 true []=gG bG .e [] 8 false []:=by kernel_rfl
theorem rd8:qo bG .e [] 8:=⟨ck8,ra8,rn8⟩
end Ev
end Go.Proofs.YtncnfncglacheaaGreatDoor
