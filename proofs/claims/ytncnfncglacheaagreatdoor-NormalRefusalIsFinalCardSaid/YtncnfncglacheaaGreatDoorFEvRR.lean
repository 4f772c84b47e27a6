/- Part of a proof. -/
import Derived.Test.YtncnfncglacheaaGreatDoorFEvRun
set_option linter.all false
set_option maxRecDepth 100000
set_option maxHeartbeats 64000000
namespace Go.Proofs.YtncnfncglacheaaGreatDoor
namespace Ev
theorem ck9:nY bK .e [] 9=true:=by kernel_rfl
theorem ra9:(ji.all fun x=>kV (gW bK .e [] 9 false x))=true:=by kernel_rfl
theorem rn9:gW bK .e [] 9 true []=gW bK .e [] 9 false []:=by kernel_rfl
theorem rd9:qL bK .e [] 9:=⟨ck9,ra9,rn9⟩
theorem agu:nY bK .e [] 12=true:=by kernel_rfl
theorem ag4:(ji.all fun x=>kV (gW bK .e [] 12 false x))=true:=by kernel_rfl
theorem afM:gW bK .e [] 12 true []=gW bK .e [] 12 false []:=by kernel_rfl
theorem ag9:qL bK .e [] 12:=⟨agu,ag4,afM⟩
theorem agi:nY bK .e [] 13=true:=by kernel_rfl
theorem agJ:(ji.all fun x=>kV (gW bK .e [] 13 false x))=true:=by kernel_rfl
theorem agM:gW bK .e [] 13 true []=gW bK .e [] 13 false []:=by kernel_rfl
theorem agN:qL bK .e [] 13:=⟨agi,agJ,agM⟩
end Ev
end Go.Proofs.YtncnfncglacheaaGreatDoor
