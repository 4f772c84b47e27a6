/- Plain Lean: how the model's integers of the kinds u32, u8 and u64 read as Lean's own words. -/
import Derived.WalkKit
import Derived.Laws.BitsAll
import Derived.Laws.BitsAllLaws
import Derived.Test.YtncnfncglacheaaGreatDoorMSha
namespace Go.Proofs.YtncnfncglacheaaGreatDoor.Words
open Go Go.Proofs.YtncnfncglacheaaGreatDoor
def W (x:UInt32):Int:=(x.toNat:Int)
end Go.Proofs.YtncnfncglacheaaGreatDoor.Words
