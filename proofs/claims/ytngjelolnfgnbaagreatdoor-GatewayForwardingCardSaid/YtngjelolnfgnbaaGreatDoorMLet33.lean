/- Part of a proof. -/
import Derived.Test.YtngjelolnfgnbaaGreatDoorMScope
import Derived.Test.YtngjelolnfgnbaaGreatDoorMSan33
set_option linter.all false
set_option maxRecDepth 100000
set_option maxHeartbeats 64000000
namespace Go.Proofs.YtngjelolnfgnbaaGreatDoor
namespace Ev
open Go Go.RowKit Mem
def AA:List AV→Option (List Int)
 | []=>some []
 | .lit (.int .u64 n)::l=>match AA l with
  | some r=>some (n::r)
  | none=>none
 | _=>none
theorem yf {f:F}:∀{l:List AV} {ns:List Int} {us:List Value},AA l=some ns→au f l us→us=ns.map (.int .u64)
 | [],_,_,h, .nil=>by cases h;rfl
 | a::l,_,_,h, .cons hx hs=>by
  unfold AA at h;split at h
  ·rename_i e;cases e
  ·rename_i e;cases e;split at h
   ·rename_i r hr;cases h;cases hx;rw [yf hr hs];rfl
   ·cases h
  ·cases h
def Ip:List Int:=[0,8589934592,0,0,0,17179869184,0,0,18446744073709551615,18446744047939747839,18446744073709551615,18446744073709551615]
noncomputable def Jz:Option (Bool×AV×H×Nat)→Bool
 | some (false,x,h,_)=>match Du x,qF x,cellsOf h 4 x with
  | true,some 3,some l=>match AA l with
   | some ns=>ns==Ip
   | none=>false
  | _,_,_=>false
 | _=>false
theorem Kv:Jz (run ja 1000 34 [] .e)=true:=by kernel_rfl
def Gv:List Cl:=[⟨0,8589934592,0,0⟩,⟨0,17179869184,0,0⟩,⟨18446744073709551615,18446744047939747839,18446744073709551615,18446744073709551615⟩]
theorem xD (w:World) (hg:gN≤w.heap.size):Calls Tryz.prog 34 #[] w fun e w'=>∃p c,e= .returned (.slice p 3 c)∧fq 4 aS w' (.slice p 3 c) Gv∧Below w.heap.size w w':=by
 have h:=Kv;generalize he:run ja 1000 34 [] .e=r at h;unfold Jz at h;split at h
 ·rename_i x hh nx;split at h
  ·rename_i l hs hl hc;split at h
   ·rename_i ns hn;obtain rfl:ns=Ip:=by simpa using h
    refine (kI rf lq jA he (Made.start hg (by decide) [])).mono fun e w' ⟨u,h1,⟨f,H0,hu,_⟩,h2⟩=> ?_;cases hu with
    | cons hx hu=>
     cases hu;obtain ⟨n,hn2,⟨rfl,_,_⟩ | ⟨B,o,cap,us,rfl,g1,g2,g3,g4,g5⟩⟩:=wm H0 hx hs hc
     ·rw [hl] at hn2;cases hn2
     ·rw [hl] at hn2;cases hn2;have mD:=yf hn g3;refine ⟨_,_,h1, .inr ⟨B,o,cap,rfl,g1,fun i hi j hj=> ?_,g2⟩,h2⟩;have hi:i<3:=hi;have hj:j<4:=hj;rw [oD,g5 _ (by omega),mD]
      match i,hi,j,hj with
      | 0,_,0,_=>rfl
      | 0,_,1,_=>rfl
      | 0,_,2,_=>rfl
      | 0,_,3,_=>rfl
      | 1,_,0,_=>rfl
      | 1,_,1,_=>rfl
      | 1,_,2,_=>rfl
      | 1,_,3,_=>rfl
      | 2,_,0,_=>rfl
      | 2,_,1,_=>rfl
      | 2,_,2,_=>rfl
      | 2,_,3,_=>rfl
   ·cases h
  ·cases h
 ·cases h
end Ev
end Go.Proofs.YtngjelolnfgnbaaGreatDoor
