/- normal.checkScope and normal.words. -/
import Derived.Test.YtncnfncglacheaaGreatDoorMKeyS
import Derived.Test.YtncnfncglacheaaGreatDoorMMemb
import Derived.Test.YtncnfncglacheaaGreatDoorMNWrite
import Derived.Deep.DeepCutAuto
import Derived.RangeFuncNested
import Derived.RangeFuncBound
import Derived.RangeFuncCalls
import Derived.RangeFuncLeaves
import Derived.TacticsInMore
import Derived.LoopNIn
import Derived.LoopIn
import Derived.WalkSmall
import Derived.RegionTactic
namespace Go.Proofs.YtncnfncglacheaaGreatDoor
open Go.RowKit Mem
set_option maxRecDepth 100000
def NZ.outp (N:NZ) (bs:List UInt8):List UInt8:=(N.run ⟨0,false,[]⟩ bs).out
end Go.Proofs.YtncnfncglacheaaGreatDoor
namespace Go.Proofs.YtncnfncglacheaaGreatDoor
open Go Go.RowKit Mem
attribute [local go_sem] Oper.semAt_some
set_option maxRecDepth 100000
theorem KeepC.step {D:Nat→Prop} {W A B:World} (h:KeepC D W A) (hb:Below W.heap.size A B):KeepC D W B:=
 ⟨Nat.le_trans h.1 hb.size,fun r o hd ho hc=>(hb.block r (Array.getElem?_eq_some_iff.1 ho).1).trans (h.2 r o hd ho hc)⟩
theorem KeepC.cell {D:Nat→Prop} {A B:World} {b i:Nat} {v:Value} (h:KeepC D A B) (hc:A.cell? ⟨b,i,none⟩=some v) (hd:¬D b):B.cell? ⟨b,i,none⟩=some v:=by
 have h1:=hc
 unfold World.cell? at h1
 cases hx:A.heap[b]? with
 | none=>simp only [hx] at h1;cases h1
 | some o=>
  have ho:o.isCells=true:=by
   cases o with
   | cells _ _ _=>rfl
   | _=>simp only [hx] at h1;cases h1
  exact (World.cell?_of_block (a:=⟨b,i,none⟩) ((h.2 b o hd hx ho).trans hx.symm)).trans hc
end Go.Proofs.YtncnfncglacheaaGreatDoor
namespace Go.Proofs.YtncnfncglacheaaGreatDoor
open Go Go.RowKit Mem
set_option maxRecDepth 100000
end Go.Proofs.YtncnfncglacheaaGreatDoor
