/- sanity, evaluated. -/
import Derived.Test.YtncnfncglacheaaGreatDoorMEvK
namespace Go.Proofs.YtncnfncglacheaaGreatDoor.Ev
open Go Go.RowKit
set_option maxRecDepth 100000
def isTrue:Option (Bool×AV×H×Nat)→Bool
 | some (false, .lit (.bool true),_,_)=>true
 | _=>false
theorem isTrue_ok {r:Option (Bool×AV×H×Nat)} (h:isTrue r=true):∃h' nx',r=some (false, .lit (.bool true),h',nx'):=by
 unfold isTrue at h
 split at h
 ·exact ⟨_,_,rfl⟩
 ·cases h
theorem sanE:isTrue (run sizeK 1000 7 [] .e)=true:=by kernel_rfl
theorem sanity1 (w:World) (hg:gN≤w.heap.size):Calls Tryz.prog 7 #[] w fun e w'=>e= .returned (.bool true)∧Below w.heap.size w w':=by
 obtain ⟨h',nx',he⟩:=isTrue_ok sanE
 refine (calls_made goB_ok mixed_ok sizeK_ok he (Made.start hg (by decide) [])).mono fun e w' ⟨u,h1,⟨f,_,hu,_⟩,h2⟩=>⟨?_,h2⟩
 cases hu with
 | cons hx hs=>cases hx;exact h1
end Go.Proofs.YtncnfncglacheaaGreatDoor.Ev
