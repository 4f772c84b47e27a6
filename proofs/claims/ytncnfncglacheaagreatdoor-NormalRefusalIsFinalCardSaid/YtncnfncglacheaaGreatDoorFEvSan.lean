/- Part of a proof. -/
import Derived.Test.YtncnfncglacheaaGreatDoorFEvK
set_option linter.all false
set_option maxRecDepth 100000
set_option maxHeartbeats 64000000
namespace Go.Proofs.YtncnfncglacheaaGreatDoor
namespace Ev
open Go Go.RowKit
def isTrue:Option (Bool×AV×H×Nat)→Bool
 | some (false, .lit (.bool true),_,_)=>true
 | _=>false
theorem Vm {r:Option (Bool×AV×H×Nat)} (h:isTrue r=true):∃h' nx',r=some (false, .lit (.bool true),h',nx'):=by
 unfold isTrue at h;split at h
 ·exact ⟨_,_,rfl⟩
 ·cases h
theorem afP:isTrue (run bK 1000 7 [] .e)=true:=by kernel_rfl
theorem acB (w:World) (hg:gN≤w.heap.size):Calls Tryz.prog 7 #[] w fun e w'=>e= .returned (.bool true)∧Below w.heap.size w w':=by
 obtain ⟨h',nx',he⟩:=Vm afP;refine (qd Dm vY gZ he (Made.start hg (by decide) [])).mono fun e w' ⟨u,h1,⟨f,_,hu,_⟩,h2⟩=>⟨?_,h2⟩;cases hu with
 | cons hx hs=>cases hx;exact h1
end Ev
end Go.Proofs.YtncnfncglacheaaGreatDoor
