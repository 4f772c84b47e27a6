/- Part of a proof. -/
import Derived.Test.YtngjelolnfgnbaaGreatDoorMMemb
import Derived.Test.YtngjelolnfgnbaaGreatDoorMStep
import Derived.Test.YtngjelolnfgnbaaGreatDoorMClone8
import Derived.Shelf.Abstract
import Derived.Shelf.RegionOpen
set_option linter.all false
set_option maxRecDepth 100000
set_option maxHeartbeats 64000000
namespace Go.Proofs.YtngjelolnfgnbaaGreatDoor
open Go Go.RowKit Go.Shelf Mem
attribute [local go_sem] Oper.semAt_some
theorem members (w:World) (c:Cl):Calls Tryz.prog 298 #[.agg (aC c)] w fun e w'=>e= .returned (.func (.func 308) #[] #[.pointer (some ⟨w.heap.size,0,none⟩)])∧(w.alloc (.cells (aC c) 117))=w':=by
 go_enter Tryz.func298,Tryz.ntmps298;go_wp2;go_ret;exact ⟨rfl,rfl⟩
end Go.Proofs.YtngjelolnfgnbaaGreatDoor
