/- The conversion of bytes to a string. -/
import Derived.WalkKit
import Derived.Outline
import Derived.OwnWalk
import Derived.LoopTactic
import Derived.WalkSmall
import Derived.Deep.DeepCutAuto
import Derived.Test.YtncnfncglacheaaGreatDoorMCells
import Derived.Laws.IdiomStrings
import Derived.Lib.BufferRead
namespace Go.Proofs.YtncnfncglacheaaGreatDoor
open Go.RowKit Mem
set_option maxRecDepth 100000
end Go.Proofs.YtncnfncglacheaaGreatDoor
namespace Go.Proofs.YtncnfncglacheaaGreatDoor
open Go Go.RowKit Mem
set_option maxRecDepth 100000
end Go.Proofs.YtncnfncglacheaaGreatDoor
namespace Go.Proofs.YtncnfncglacheaaGreatDoor
open Go Go.RowKit Mem
set_option maxRecDepth 100000
theorem Mem.run_convert_rd {P:Program} {w:World} {src dst e:TypeId} (hs:P.underlying src=some (.slice e)) (he:P.underlying e=some (.int .u8)) (hd:P.underlying dst=some .string) {v:Value} {l:List UInt8} (h:Rd u8V w v l):
  (convert src dst v).run P w= .ok (.string ⟨l.toArray⟩) w:=by
 rcases h with ⟨q,rfl,rfl⟩ | ⟨b,o,cap,rfl,_,ha,_⟩
 ·cases q with
  | none=>exact Lib.run_convert_nil_bytes w src dst e 0 hs he hd
  | some ad=>exact run_convert_bytes_back w src dst e ad 0 [] hs he hd fun j hj=>by cases hj
 ·refine run_convert_bytes_back w src dst e ⟨b,o,none⟩ cap l hs he hd fun j hj=> ?_
  have h2:((⟨b,o,none⟩:Addr).add j)=⟨b,o+j,none⟩:=by unfold Addr.add;split<;>simp_all
  rw [h2,ha j hj,List.getElem?_eq_getElem hj]
  rfl
end Go.Proofs.YtncnfncglacheaaGreatDoor
