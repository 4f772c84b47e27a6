/- Part of a proof. -/
import Derived.RangeFuncNested
import Derived.RangeFuncBound
import Derived.RangeFuncCalls
import Derived.TacticsInMore
import Derived.LoopNIn
import Derived.LoopIn
import Derived.BigFrameIn
import Derived.Lib.TrailingZeros
import Derived.Laws.Bits64b
import Derived.Test.YtngjelolnfgnbaaGreatDoorMRangeQ
import Derived.Test.YtngjelolnfgnbaaGreatDoorMClass
import Derived.Test.YtngjelolnfgnbaaGreatDoorMRdB
set_option linter.all false
set_option maxRecDepth 100000
set_option maxHeartbeats 64000000
namespace Go.Proofs.YtngjelolnfgnbaaGreatDoor
open Go Go.RowKit Mem
attribute [local go_sem] Oper.semAt_some
def vU (w:World):Prop:=∀j,j<64→w.cell? ⟨1,j,none⟩=some (.int .u8 (Lib.deBruijn64tab.getD j 0:Nat))
theorem vU.lt {w:World} (h:vU w):1<w.heap.size:=by
 have h0:=h 0 (by omega);rcases o8 1 w.heap.size with h1 | h1
 ·exact h1
 ·unfold World.cell? at h0;rw [Array.getElem?_eq_none (by exact h1)] at h0;cases h0
theorem vU.below {w w':World} {B:Nat} (h:vU w) (hb:Below B w w') (hB:1<B):vU w':=fun j hj=>(uK (a:=⟨1,j,none⟩) (hb.block _ hB)).trans (h j hj)
theorem vU.block {w w':World} (h:vU w) (hb:w'.heap[1]?=w.heap[1]?):vU w':=fun j hj=>(uK (a:=⟨1,j,none⟩) hb).trans (h j hj)
end Go.Proofs.YtngjelolnfgnbaaGreatDoor
