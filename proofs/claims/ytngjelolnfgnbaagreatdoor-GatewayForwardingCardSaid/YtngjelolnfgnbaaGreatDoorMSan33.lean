/- Part of a proof. -/
import Derived.Test.YtngjelolnfgnbaaGreatDoorMEvRun
set_option linter.all false
set_option maxRecDepth 100000
set_option maxHeartbeats 64000000
namespace Go.Proofs.YtngjelolnfgnbaaGreatDoor
namespace Ev
open Go Go.RowKit Mem
def pU:Option (Bool×AV×H×Nat)→Bool
 | some (false, .lit (.bool true),_,_)=>true
 | _=>false
theorem wW {r:Option (Bool×AV×H×Nat)} (h:pU r=true):∃h' nx',r=some (false, .lit (.bool true),h',nx'):=by
 unfold pU at h;split at h
 ·exact ⟨_,_,rfl⟩
 ·cases h
def Jc:AV:= .dF [.agg [.lit (.int .i64 1), .lit (.int .i64 0), .any], .lit (.int .i64 0)]
noncomputable def FZ:ax:=sD 53 [E5 (uT ja .e 0)] (Fs (uT ja .e 0)) (E8 [] (uT ja .e 0)) Jc
theorem CZ:HK Tryz.prog FZ:=vE rf lq jA ⟨_,Tryz.func53,by kernel_rfl⟩ (by kernel_rfl) (n:=4000) (by kernel_rfl)
noncomputable def Jf:ax:=CF FZ (CF (Gx ja .e [] 4) (CF (Gx ja .e [] 8) ja))
theorem EU:HK Tryz.prog Jf:=CZ.or ((Ao jA (by kernel_rfl)).or ((Ao jA (by kernel_rfl)).or jA))
theorem Fh:pU (run Jf 1000 6 [] .e)=true:=by kernel_rfl
theorem A7 (w:World) (hg:gN≤w.heap.size):Calls Tryz.prog 6 #[] w fun e w'=>e= .returned (.bool true)∧Below w.heap.size w w':=by
 obtain ⟨h',nx',he⟩:=wW Fh;refine (kI rf lq EU he (Made.start hg (by decide) [])).mono fun e w' ⟨u,h1,⟨f,_,hu,_⟩,h2⟩=>⟨?_,h2⟩;cases hu with
 | cons hx hs=>cases hx;exact h1
end Ev
end Go.Proofs.YtngjelolnfgnbaaGreatDoor
