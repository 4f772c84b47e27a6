/- slices.Clone at bytes. -/
import Derived.RegionTactic
import Derived.Test.YtncnfncglacheaaGreatDoorMKeys
import Derived.Test.YtncnfncglacheaaGreatDoorMWords
import Derived.Test.YtncnfncglacheaaGreatDoorMHeld
import Derived.Lib.SliceRun
namespace Go.Proofs.YtncnfncglacheaaGreatDoor
open Go.RowKit Mem
set_option maxRecDepth 100000
theorem rounds_step {P:Program} {c:Code} {Q:Exit→Act→World→Prop} {n:Nat} {a:Act} {w:World} (h:c.wp P (Exit.then (Code.rounds P c Q n) Q) a w):Code.rounds P c Q (n+1) a w:=h
end Go.Proofs.YtncnfncglacheaaGreatDoor
namespace Go.Proofs.YtncnfncglacheaaGreatDoor
open Go Go.RowKit Mem
set_option maxRecDepth 100000
theorem u64_lt (x:UInt64):x.toNat<18446744073709551616:=x.toNat_lt
def X (x:UInt64):Int:=(x.toNat:Int)
theorem X_nonneg (x:UInt64):0≤X x:=by unfold X;omega
theorem X_lt (x:UInt64):X x<18446744073709551616:=by unfold X;have:=u64_lt x;omega
theorem X_inj {x y:UInt64} (h:X x=X y):x=y:=by unfold X at h;exact UInt64.toNat_inj.1 (by omega)
theorem X_and (x y:UInt64):bits .and .u64 (X x) (X y)=X (x &&& y):=by
 unfold X;rw [u64_and_nat _ _ (u64_lt x) (u64_lt y),UInt64.toNat_and]
theorem X_or (x y:UInt64):bits .or .u64 (X x) (X y)=X (x ||| y):=by
 unfold X;rw [u64_or_nat _ _ (u64_lt x) (u64_lt y),UInt64.toNat_or]
theorem X_shr (x:UInt64) (n:Nat) (h:n<64):X x / 2 ^ n=X (x>>>UInt64.ofNat n):=by
 unfold X
 rw [UInt64.toNat_shiftRight,Nat.shiftRight_eq_div_pow]
 have h1:(UInt64.ofNat n).toNat % 64=n:=by rw [UInt64.toNat_ofNat_of_lt' (by simp [UInt64.size];omega)];omega
 rw [h1]
 simp
theorem X_add (x y:UInt64):IntKind.u64.wrap (X x+X y)=X (x+y):=by
 unfold X;rw [IntKind.wrap_u64,UInt64.toNat_add];omega
theorem X_addm (x y:UInt64):(X x+X y) % 18446744073709551616=X (x+y):=by
 unfold X;rw [UInt64.toNat_add];omega
theorem X_and127 (x:UInt64):bits .and .i64 (wrap64 (X x)) 127=X (x &&& 127):=by
 have h1:BitVec.ofInt 64 (wrap64 (X x))=BitVec.ofInt 64 (X x):=by
  apply BitVec.eq_of_toNat_eq
  rw [BitVec.toNat_ofInt,BitVec.toNat_ofInt]
  have e:wrap64 (X x) % 18446744073709551616=X x % 18446744073709551616:=by unfold wrap64;omega
  exact congrArg Int.toNat e
 have h2:(BitVec.ofInt 64 (X x)).toNat=x.toNat:=ofInt_u64 x.toNat (u64_lt x)
 have h3:(BitVec.ofInt 64 (127:Int)).toNat=127:=rfl
 have h4:(x &&& 127).toNat=x.toNat &&& 127:=by rw [UInt64.toNat_and];rfl
 have h5:x.toNat &&& 127<2 ^ 7:=Nat.and_lt_two_pow _ (by decide)
 show IntKind.i64.wrap ((BitVec.ofInt 64 (wrap64 (X x)) &&& BitVec.ofInt 64 (127:Int)).toNat:Int)=_
 rw [h1,BitVec.toNat_and,h2,h3]
 unfold X
 rw [h4]
 exact wI _ (by omega) (by omega)
def oc64 (x:UInt64):UInt64:=
 let x:=(x>>>1 &&& 6148914691236517205)+(x &&& 6148914691236517205)
 let x:=(x>>>2 &&& 3689348814741910323)+(x &&& 3689348814741910323)
 let x:=(x>>>4+x) &&& 1085102592571150095
 let x:=x+x>>>8
 let x:=x+x>>>16
 let x:=x+x>>>32
 x &&& 127
theorem onesCount (w:World) (x:UInt64):Calls Tryz.prog 93 #[.int .u64 (X x)] w fun e w'=>e= .returned (.int .i64 (X (oc64 x)))∧w'=w:=by
 have e1:∀x:UInt64,X x / (2:Int)=X (x>>>1):=fun x=>X_shr x 1 (by decide)
 have e2:∀x:UInt64,X x / (4:Int)=X (x>>>2):=fun x=>X_shr x 2 (by decide)
 have e4:∀x:UInt64,X x / (16:Int)=X (x>>>4):=fun x=>X_shr x 4 (by decide)
 have e8:∀x:UInt64,X x / (256:Int)=X (x>>>8):=fun x=>X_shr x 8 (by decide)
 have e16:∀x:UInt64,X x / (65536:Int)=X (x>>>16):=fun x=>X_shr x 16 (by decide)
 have e32:∀x:UInt64,X x / (4294967296:Int)=X (x>>>32):=fun x=>X_shr x 32 (by decide)
 have m1:∀x:UInt64,bits .and .u64 (X x) 6148914691236517205=X (x &&& 6148914691236517205):=fun x=>X_and x 6148914691236517205
 have m2:∀x:UInt64,bits .and .u64 (X x) 3689348814741910323=X (x &&& 3689348814741910323):=fun x=>X_and x 3689348814741910323
 have m4:∀x:UInt64,bits .and .u64 (X x) 1085102592571150095=X (x &&& 1085102592571150095):=fun x=>X_and x 1085102592571150095
 have ha:=X_add
 have hb:=X_addm
 have hc:=X_and127
 go_enter Tryz.func93,Tryz.ntmps93
 go_wp2_with fail
 go_ret
 exact ⟨rfl,rfl⟩
end Go.Proofs.YtncnfncglacheaaGreatDoor
namespace Go.Proofs.YtncnfncglacheaaGreatDoor.Pop
set_option maxRecDepth 100000
def s1 (b:Nat):Nat:=(b / 2 &&& 85)+(b &&& 85)
def s2 (b:Nat):Nat:=(b / 4 &&& 51)+(b &&& 51)
def s3 (b:Nat):Nat:=(b / 16+b) &&& 15
def S1 (m x:Nat):Nat:=(x / 2 &&& m)+(x &&& m)
def S2 (m x:Nat):Nat:=(x / 4 &&& m)+(x &&& m)
def bc (b:Nat):Nat:=((List.range 8).countP fun i=>b.testBit i)
theorem byte:∀b:Fin 256,s3 (s2 (s1 b.1))=bc b.1∧s2 (s1 b.1)<69∧s2 (s1 b.1) % 16≤4∧s1 b.1<256∧bc b.1≤8:=by decide+kernel
def cat:List Nat→Nat
 | []=>0
 | b::l=>256 * cat l+b
def rep (c:Nat):Nat→Nat
 | 0=>0
 | n+1=>256 * rep c n+c
def bytes8 (x:Nat):List Nat:=[x % 256,x / 256 % 256,x / 65536 % 256,x / 16777216 % 256,x / 4294967296 % 256,x / 1099511627776 % 256,x / 281474976710656 % 256,x / 72057594037927936 % 256]
end Go.Proofs.YtncnfncglacheaaGreatDoor.Pop
namespace Go.Proofs.YtncnfncglacheaaGreatDoor
open Go.RowKit Mem
set_option maxRecDepth 100000
end Go.Proofs.YtncnfncglacheaaGreatDoor
namespace Go.Proofs.YtncnfncglacheaaGreatDoor
open Go.RowKit Mem
set_option maxRecDepth 100000
end Go.Proofs.YtncnfncglacheaaGreatDoor
namespace Go.Proofs.YtncnfncglacheaaGreatDoor
open Go.RowKit Mem
set_option maxRecDepth 100000
theorem elt8:Elt Tryz.prog 22 5 1:=Elt.mk' (z:= .int .u8 0) Tryz.underlying22 (by kernel_rfl) rfl
end Go.Proofs.YtncnfncglacheaaGreatDoor
