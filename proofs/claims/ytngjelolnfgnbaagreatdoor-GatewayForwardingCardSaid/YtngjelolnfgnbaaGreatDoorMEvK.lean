/- Part of a proof. -/
import Derived.Test.YtngjelolnfgnbaaGreatDoorMEvC
import Derived.Test.YtngjelolnfgnbaaGreatDoorMClass
import Derived.KernelRfl
set_option linter.all false
set_option maxRecDepth 100000
set_option maxHeartbeats 64000000
namespace Go.Proofs.YtngjelolnfgnbaaGreatDoor
namespace Ev
open Go
def wd (n:Nat):Bool:=Nat.blt n 18446744073709551616
def za (x:AV):Option Int:=match x.cells with
 | [.lit (.int .u64 (.ofNat a)), .lit (.int .u64 (.ofNat b)), .lit (.int .u64 (.ofNat c)), .lit (.int .u64 (.ofNat d))]=>
  bZ (wd a && wd b && (wd c && wd d)) (some (Cl.size ⟨UInt64.ofNat a,UInt64.ofNat b,UInt64.ofNat c,UInt64.ofNat d⟩))
 | _=>none
def ja:ax:=fun _ g args h nx=>match Nat.beq g 58 with
 | false=>none
 | true=>match args with
  | [x]=>match za x with
   | some n=>some (false, .lit (.int .i64 n),h,nx)
   | none=>none
  | _=>none
theorem ni {n:Nat} (h:wd n=true):X (UInt64.ofNat n)=(n:Int):=by
 have:=bU.1 h;unfold X;rw [UInt64.toNat_ofNat'];omega
theorem BQ {f:F} {x:AV} {u:Value} (hx:VR f x u) {n:Int} (h:za x=some n):∃c:Cl,u= .agg (aC c)∧c.size=n:=by
 unfold za at h;split at h
 ·rename_i a b c d he;obtain ⟨hw,h⟩:=ak h;simp only [aX] at hw;simp only [ah] at h;have hc:=VR.cells hx;rw [he] at hc;refine ⟨_,?_,h⟩;unfold aC;simp only [ni hw.1.1,ni hw.1.2,ni hw.2.1,ni hw.2.2]
  have key:u.cells.toList=[.int .u64 a, .int .u64 b, .int .u64 c, .int .u64 d]:=by
   generalize u.cells.toList=l at hc;cases hc with
   | cons h1 hc=>cases hc with
    | cons h2 hc=>cases hc with
     | cons h3 hc=>cases hc with
      | cons h4 hc=>
       cases hc;cases h1;cases h2;cases h3;cases h4;rfl
  cases u with
  | agg cs=>
   have:cs.toList=_:=key;have:cs=_:=Array.toList_inj.1 (this.trans (Gp).symm);rw [this]
  | _=>simp [Value.cells] at key
 ·cases h
theorem jA:HK Tryz.prog ja:=HK.of fun lim g args h nx b v h' nx' e=>by
 unfold ja at e;split at e
 ·cases e
 ·rename_i hg;have hg:=bQ hg;subst hg;split at e
  ·rename_i x;split at e
   ·rename_i n hn;simp only [ah,ay] at e;obtain ⟨rfl,rfl,rfl,rfl⟩:=e;refine ⟨rfl,rfl,rfl,⟨_,Tryz.func58,by kernel_rfl⟩,fun f w us _ hu=> ?_⟩;cases hu with
    | cons hx hs=>
     cases hs;obtain ⟨c,rfl,rfl⟩:=BQ hx hn;exact (qZ w c).mono fun e w' ⟨h1,h2⟩=>⟨_,h1, .lit _,h2⟩
   ·cases e
  ·cases e
theorem rf:kF Tryz.prog=true:=by kernel_rfl
theorem lq:Tryz.prog.follows .mixedOrders=true:=by kernel_rfl
noncomputable abbrev run (K:ax) (nx:Nat) (g:FuncId) (args:List AV) (h:H):Option (Bool×AV×H×Nat):=dm Tryz.prog K (ev Tryz.prog K 4000) (bS (ev Tryz.prog K 4000)) nx g args h nx
end Ev
namespace Ev
open Go Go.RowKit
def Gc:AV→Bool
 | .slc _ _ _ _=>true
 | .aY _ _ _ _=>true
 | .lit (.slice _ _ _)=>true
 | _=>false
def Ay:AV→Bool
 | .lit (.int .i64 _)=>true
 | _=>false
def Hl:Option (Bool×AV×H×Nat)→Bool
 | some (false, .dF [.agg [a,b,c], .lit (.int .i64 (.ofNat 0))],_,_)=>Ay a && Ay b && Gc c
 | _=>false
def DN (w:World) (u:Value):Prop:=∀W,Below w.heap.size w W→Calls Tryz.prog 53 #[u] W fun e W'=>∃x y p n c,e= .returned (.tuple #[.agg #[.int .i64 x, .int .i64 y, .slice p n c], .int .i64 0])∧Below W.heap.size W W'
theorem DN.below {w w':World} {u:Value} (h:DN w u) (hb:Below w.heap.size w w'):DN w' u:=fun W hW=>h W (hb.trans (hW.mono hb.size))
theorem Made.res {h:H} {nx:Nat} {w:World} {l:List AV} {us:List Value} (m:Made l h nx w us) {k kv:Nat} (hk0:kv<256) (hk:kv % 14=k):Made [.res 14 k] h nx w [.int .u8 (kv:Int)]:=
 let ⟨f,h1,_,h3,h4⟩:=m;⟨f,h1, .cons (.res hk0 hk) .nil,h3,h4⟩
end Ev
end Go.Proofs.YtngjelolnfgnbaaGreatDoor
