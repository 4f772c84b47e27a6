/- Part of a proof. -/
import Derived.Test.YtncnfncglacheaaGreatDoorFEvRun
set_option linter.all false
set_option maxRecDepth 100000
set_option maxHeartbeats 64000000
namespace Go.Proofs.YtncnfncglacheaaGreatDoor
namespace Ev
theorem ck0:nY bK .e [] 0=true:=by kernel_rfl
theorem ra0:(ji.all fun x=>kV (gW bK .e [] 0 false x))=true:=by kernel_rfl
theorem rn0:gW bK .e [] 0 true []=gW bK .e [] 0 false []:=by kernel_rfl
theorem rd0:qL bK .e [] 0:=⟨ck0,ra0,rn0⟩
theorem ck1:nY bK .e [] 1=true:=by kernel_rfl
theorem ra1:(ji.all fun x=>kV (gW bK .e [] 1 false x))=true:=by kernel_rfl
theorem iD:gW bK .e [] 1 true []=gW bK .e [] 1 false []:=by kernel_rfl
theorem rd1:qL bK .e [] 1:=⟨ck1,ra1,iD⟩
theorem ck2:nY bK .e [] 2=true:=by kernel_rfl
theorem ra2:(ji.all fun x=>kV (gW bK .e [] 2 false x))=true:=by kernel_rfl
theorem gF:gW bK .e [] 2 true []=gW bK .e [] 2 false []:=by kernel_rfl
theorem rd2:qL bK .e [] 2:=⟨ck2,ra2,gF⟩
theorem ck3:nY bK .e [] 3=true:=by kernel_rfl
theorem ra3:(ji.all fun x=>kV (gW bK .e [] 3 false x))=true:=by kernel_rfl
theorem iF:gW bK .e [] 3 true []=gW bK .e [] 3 false []:=by kernel_rfl
theorem rd3:qL bK .e [] 3:=⟨ck3,ra3,iF⟩
end Ev
end Go.Proofs.YtncnfncglacheaaGreatDoor
