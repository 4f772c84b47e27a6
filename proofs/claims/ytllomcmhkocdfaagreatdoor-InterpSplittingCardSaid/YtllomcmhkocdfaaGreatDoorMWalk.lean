/- The walk through a program of one statement that appends a field. -/
import Derived.Test.YtllomcmhkocdfaaGreatDoorMBound
import Derived.Laws.EntriesVeiled
import Derived.WideLaws
import Derived.Test.YtllomcmhkocdfaaGreatDoorMTree
namespace Go.Proofs.YtllomcmhkocdfaaGreatDoor
open Go.RowKit Mem
set_option maxRecDepth 100000

theorem aggReport : AggT Tryz.prog 86 3 := ⟨fun _ => by kernel_rfl, fun _ => by kernel_rfl⟩

end Go.Proofs.YtllomcmhkocdfaaGreatDoor

/- resolve.Check at a program of one statement that appends a field. -/
namespace Go.Proofs.YtllomcmhkocdfaaGreatDoor
open Go.RowKit Mem
set_option maxRecDepth 100000

theorem aggInfo : AggT Tryz.prog 77 3 := ⟨fun _ => by kernel_rfl, fun _ => by kernel_rfl⟩
end Go.Proofs.YtllomcmhkocdfaaGreatDoor
