/- Part of a proof. -/
import Derived.Test.YtngjelolnfgnbaaGreatDoorMDfM
import Derived.Test.YtngjelolnfgnbaaGreatDoorMMembC
set_option linter.all false
set_option maxRecDepth 100000
set_option maxHeartbeats 64000000
namespace Go.Proofs.YtngjelolnfgnbaaGreatDoor
open Go Go.RowKit Mem
section
variable {P:Program} {ops:Array Oper} {rest:List Oper} {o:Oper} {a:Act} {w:World} {Q:Exit→Act→World→Prop}
end
def J8 (T:TB) (vn va:OC):List OC:=T.cell.map (fun n:Nat=>oi (n:Int))++[oi (T.cells:Int),vn,va]
def Ee (w:World) (C:Array Value) (T:TB):Prop:=∃vn va:OC,C=((J8 T vn va).map oV).toArray∧rA w vn.1 T.nx∧Rd Value.bool w va.1 T.ac∧T.cell.length=256
theorem Ee.below {w w':World} {C:Array Value} {T:TB} (h:Ee w C T) (hb:Below w.heap.size w w'):Ee w' C T:=by
 obtain ⟨vn,va,rfl,h1,h2,h3⟩:=h;exact ⟨vn,va,rfl,rA.below' h1 hb,h2.below hb,h3⟩
end Go.Proofs.YtngjelolnfgnbaaGreatDoor
