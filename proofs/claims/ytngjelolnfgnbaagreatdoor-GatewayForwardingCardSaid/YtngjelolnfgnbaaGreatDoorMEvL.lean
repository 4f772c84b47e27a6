/- Part of a proof. -/
import Derived.Test.YtngjelolnfgnbaaGreatDoorMEvK
import Derived.Lib.TrailingZeros
set_option linter.all false
set_option maxRecDepth 100000
set_option maxHeartbeats 64000000
namespace Go.Proofs.YtngjelolnfgnbaaGreatDoor
namespace Ev
open Go Go.RowKit
abbrev gT:Nat:=1
def IP:List Value:=Lib.deBruijn64tab.map fun x=> .int .u8 (Int.ofNat x)
noncomputable abbrev hT:H:=T.set .e gT (.tab IP)
end Ev
end Go.Proofs.YtngjelolnfgnbaaGreatDoor
