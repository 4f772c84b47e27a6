/- Part of a proof. -/
import Derived.Test.YtncnfncglacheaaGreatDoorFEvRun
set_option linter.all false
set_option maxRecDepth 100000
set_option maxHeartbeats 64000000
namespace Go.Proofs.YtncnfncglacheaaGreatDoor
namespace Ev
theorem ck4:nY bK .e [] 4=true:=by kernel_rfl
theorem ra4:(ji.all fun x=>kV (gW bK .e [] 4 false x))=true:=by kernel_rfl
theorem rn4:gW bK .e [] 4 true []=gW bK .e [] 4 false []:=by kernel_rfl
theorem rd4:qL bK .e [] 4:=⟨ck4,ra4,rn4⟩
theorem ck5:nY bK .e [] 5=true:=by kernel_rfl
theorem ra5:(ji.all fun x=>kV (gW bK .e [] 5 false x))=true:=by kernel_rfl
theorem rn5:gW bK .e [] 5 true []=gW bK .e [] 5 false []:=by kernel_rfl
theorem rd5:qL bK .e [] 5:=⟨ck5,ra5,rn5⟩
theorem ck7:nY bK .e [] 7=true:=by kernel_rfl
theorem ra7:(ji.all fun x=>kV (gW bK .e [] 7 false x))=true:=by kernel_rfl
theorem rn7:gW bK .e [] 7 true []=gW bK .e [] 7 false []:=by kernel_rfl
theorem rd7:qL bK .e [] 7:=⟨ck7,ra7,rn7⟩
theorem ck8:nY bK .e [] 8=true:=by kernel_rfl
theorem ra8:(ji.all fun x=>kV (gW bK .e [] 8 false x))=true:=by kernel_rfl
theorem rn8:gW bK .e [] 8 true []=gW bK .e [] 8 false []:=by kernel_rfl
theorem rd8:qL bK .e [] 8:=⟨ck8,ra8,rn8⟩
end Ev
end Go.Proofs.YtncnfncglacheaaGreatDoor
