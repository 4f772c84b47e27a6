/- Part of a proof. -/
import Derived.Test.YtngjelolnfgnbaaGreatDoorMTree
import Derived.Test.YtngjelolnfgnbaaGreatDoorMOwnIn
import Derived.Lib.SliceRun
set_option linter.all false
set_option maxRecDepth 100000
set_option maxHeartbeats 64000000
namespace Go.Proofs.YtngjelolnfgnbaaGreatDoor
open Go.RowKit Mem
theorem qE:mX Tryz.prog 31 5 1:=mX.mk' (z:= .int .u8 0) Tryz.underlying31 (by kernel_rfl) rfl
end Go.Proofs.YtngjelolnfgnbaaGreatDoor
