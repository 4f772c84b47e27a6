/- dialect.condition at valid conditions. -/
import Derived.Deep.QuietTactic
import Derived.BigQuiet
import Derived.Test.YtllomcmhkocdfaaGreatDoorMDial
namespace Go.Proofs.YtllomcmhkocdfaaGreatDoor
open Go.RowKit Mem
set_option maxRecDepth 100000

end Go.Proofs.YtllomcmhkocdfaaGreatDoor
