/- The laws of Own and Agg inside a fence. -/
import Derived.Test.YtllomcmhkocdfaaGreatDoorMAgg
import Derived.OwnWalkIn
namespace Go.Proofs.YtllomcmhkocdfaaGreatDoor.Mem
open Go Go.RowKit

variable {α : Type} {f : α → Value} {w w' : World} {base : Nat} {e : TypeId} {v : Value} {l : List α}
variable {F : Fence} {n : Nat} {P : Program} {ops : Array Oper} {rest : List Oper} {o : Oper} {a : Act} {Q : Exit → Act → World → Prop}

end Go.Proofs.YtllomcmhkocdfaaGreatDoor.Mem
