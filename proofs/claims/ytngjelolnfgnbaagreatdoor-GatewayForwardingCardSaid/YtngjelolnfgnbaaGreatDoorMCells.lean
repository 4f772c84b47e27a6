/- Part of a proof. -/
import Derived.Test.YtngjelolnfgnbaaGreatDoorMAgg
import Derived.LoopN
import Derived.Lib.ConvBytes
import Derived.Test.YtngjelolnfgnbaaGreatDoorProg
set_option linter.all false
set_option maxRecDepth 100000
set_option maxHeartbeats 64000000
namespace Go.Proofs.YtngjelolnfgnbaaGreatDoor
open Go Go.RowKit Mem
theorem bG (w:World) (o:Obj) (k:Nat) (h:k=w.heap.size):(w.alloc o).heap[k]?=some o:=by subst h;exact World.alloc_heap_new w _
def oZ (p:Prop):Prop:=p
theorem oZ.out {p:Prop} (h:p):oZ p:=h
theorem oZ.back {p:Prop} (h:oZ p):p:=h
abbrev OC:={v:Value // v.oneCell'=true}
def oV (x:OC):Value:=x.1
theorem wE (x:OC):(oV x).oneCell'=true:=x.2
def oi (n:Int):OC:=⟨.int .i64 n,rfl⟩
def ob (b:Bool):OC:=⟨.bool b,rfl⟩
def os (s:ByteArray):OC:=⟨.string s,rfl⟩
def ow (n:Int):OC:=⟨.int .u64 n,rfl⟩
def on:OC:=⟨.slice none 0 0,rfl⟩
def Jp (kind x:Int) (nm:ByteArray) (t e:Int):List OC:=
 [oi kind,oi x,oi 0,oi 0,oi 0,oi 0,oi 0,on,ob false,oi 0,on,on,ow 0,ow 0,ow 0,ow 0,oi 0,oi 0,oi 0,oi 0,ob false,on,on,oi 0,ob false,oi 0,oi 0,oi 0,oi 0,on,os nm,oi t,oi e]
theorem yF (kind x:Int) (nm:ByteArray) (t e:Int):(Jp kind x nm t e).length=33:=rfl
theorem aQ {B:Nat} {w w':World} (h:Below B w w') {b:Nat} (i:Nat) (hb:B≤b) (v:Value):Below B w (w'.setCell ⟨b,i,none⟩ v):=h.setCell hb v
namespace Mem
variable {α:Type} {f:α→Value} {w:World} {l:List α} {P:Program} {ops:Array Oper} {rest:List Oper} {o:Oper} {a:Act} {Q:Exit→Act→World→Prop}
theorem kg {ty:TypeId} (T:gB P ty l.length) (x:Operand) (hw:Region.wanted o (yielded ops a.tmps)=true) (ho:o.op= .load ty x) (b off:Nat) (hx:a.eval x= .pointer (some ⟨b,off,none⟩)) (h:At f w b off l)
  {C:Array Value} (hC:C=(l.map f).toArray) (hk:wpList P ops Q rest (a.put o.dst (.agg C)) w):wpList P ops Q (o::rest) a w:=by
 subst hC;refine wpList_step fun K hK=> ?_;rw [aF hw];unfold Oper.wp execOp;simp only [ho,hx,Instr.loadAt,Instr.sureAddr,bK,dG,bR,eG T h];exact hK _ _ hk
end Mem
def FP (w:World) (v:Value) (nm:ByteArray):Prop:=
 ∃sb so sc bb bo bc ib io ic,v= .agg #[.slice (some ⟨sb,so,none⟩) 1 sc, .slice (some ⟨bb,bo,none⟩) 1 bc]∧(1≤sc∧1≤bc∧1≤ic)∧(At oV w sb so (Jp 13 0 nm (-1) (-1))∧sb<w.heap.size)∧
  (w.cell? ⟨bb,bo,none⟩=some (.slice (some ⟨ib,io,none⟩) 1 ic)∧bb<w.heap.size)∧w.cell? ⟨ib,io,none⟩=some (.int .i64 0)∧ib<w.heap.size
theorem FP.below {w w':World} {v:Value} {nm:ByteArray} (h:FP w v nm) (hb:Below w.heap.size w w'):FP w' v nm:=by
 obtain ⟨sb,so,sc,bb,bo,bc,ib,io,ic,rfl,hcap,⟨h1,l1⟩,⟨h2,l2⟩,h3,l3⟩:=h;exact ⟨sb,so,sc,bb,bo,bc,ib,io,ic,rfl,hcap,⟨h1.below hb l1,bY l1 hb.size⟩,⟨(hb.cell (p:=⟨bb,bo,none⟩) l2).trans h2,bY l2 hb.size⟩,(hb.cell (p:=⟨ib,io,none⟩) l3).trans h3,bY l3 hb.size⟩
end Go.Proofs.YtngjelolnfgnbaaGreatDoor
