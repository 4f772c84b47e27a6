/- Part of a proof. -/
import Derived.Shelf.Small.Bits
import Derived.Shelf.Strconv.Itoa0
import Derived.Shelf.Strings.Search1
import Derived.Shelf.Slices.Turned
import Derived.Ground.Names2Prog
import Derived.Shelf.Slices.Clone
import Derived.Shelf.Slices.CompactS
import Derived.Shelf.Slices.Cells
import Derived.Shelf.Bytes.SlIndexSmall
import Derived.Shelf.Bytes.SlIndexAt
import Derived.Shelf.Bytes.SlSearch0
import Derived.Shelf.Bytes.SlSearch1
import Derived.Shelf.Bytes.Small
import Derived.Shelf.Bytes.IndexByte
import Derived.Test.YtncnfncglacheaaGreatDoorProg
import Derived.Test.YtncnfncglacheaaGreatDoorFEvA
import Derived.LoopN
import Derived.Lib.ConvBytes
set_option linter.all false
set_option maxRecDepth 100000
set_option maxHeartbeats 64000000
namespace Go.Proofs
open Go.Shelf
def Tryz.Pd:Go.Shelf.Ren:=⟨fun | 125=>115 | 128=>162 | 129=>163 | n=>n,fun | 46=>232 | 3=>3 | 51=>266 | 53=>63 | 4=>4 | 5=>5 | 9=>9 | n=>n,fun | n=>n⟩
theorem Tryz.aaR:Go.Proofs.Lays.n125 Tryz.prog Tryz.Pd:={
 mixed:=by kernel_rfl
 f125:=Tryz.func115.trans (congrArg some (by kernel_rfl))
 f128:=Tryz.func162.trans (congrArg some (by kernel_rfl))
 f129:=Tryz.func163.trans (congrArg some (by kernel_rfl))
 t3:=Tryz.underlying3
 a3:=Tryz.isAgg3
 z3:=Tryz.sizeOf3
 v3:=Tryz.zeroValue3
 t4:=Tryz.underlying4
 a4:=Tryz.isAgg4
 z4:=Tryz.sizeOf4
 v4:=Tryz.zeroValue4
 t5:=Tryz.underlying5
 a5:=Tryz.isAgg5
 z5:=Tryz.sizeOf5
 v5:=Tryz.zeroValue5
 t9:=Tryz.underlying9
 a9:=Tryz.isAgg9
 z9:=Tryz.sizeOf9
 v9:=Tryz.zeroValue9
 t46:=Tryz.underlying232
 a46:=Tryz.isAgg232
 z46:=Tryz.sizeOf232
 v46:=Tryz.zeroValue232
 t51:=Tryz.underlying266
 a51:=Tryz.isAgg266
 z51:=Tryz.sizeOf266
 v51:=Tryz.zeroValue266
 t53:=Tryz.underlying63
 a53:=Tryz.isAgg63
 z53:=Tryz.sizeOf63
 v53:=Tryz.zeroValue63}
theorem Tryz.bits_Len (x:Int) (w:World) (h0:0≤x) (h1:x≤18446744073709551615):
  Calls Tryz.prog 115 #[.int .u64 x] w fun e w'=>e= .returned (.int .i64 (Lib.bitLen x.toNat))∧w'=w:=Any.bits_Len Tryz.aaR x w h0 h1
open Go.Lib in
def Tryz.Jp:Go.Shelf.Ren:=⟨fun | 15=>179 | n=>n,fun | 22=>92 | 3=>3 | 4=>4 | n=>n,fun | n=>n⟩
theorem Tryz.Vj:Go.Proofs.Lays2.n15 Tryz.prog Tryz.Jp:={
 mixed:=by kernel_rfl
 f15:=Tryz.func179.trans (congrArg some (by kernel_rfl))
 t3:=Tryz.underlying3
 a3:=Tryz.isAgg3
 z3:=Tryz.sizeOf3
 v3:=Tryz.zeroValue3
 t4:=Tryz.underlying4
 a4:=Tryz.isAgg4
 z4:=Tryz.sizeOf4
 v4:=Tryz.zeroValue4
 t22:=Tryz.underlying92
 a22:=Tryz.isAgg92
 z22:=Tryz.sizeOf92
 v22:=Tryz.zeroValue92
 i3:=by kernel_rfl}
open Go.RowKit Go.Lib in
theorem Tryz.slices_Clone_int (b off n c:Nat) (zs:List Int) (w:World) (hz:n≤zs.length) (hbig:n * 8≤140737488355328) (hc:∀j,j<zs.length→w.cell? ⟨b,off+j,none⟩=some (.int .i64 (zs.getD j 0))):
  Calls Tryz.prog 179 #[.slice (some ⟨b,off,none⟩) n c] w fun e w'=>∃v',e= .returned v'∧w'.ownsRow w.heap.size 3 1 v' n ((zs.take n).map (Value.int .i64))∧v'≠ .slice none 0 0∧Below w.heap.size w w':=Any.slices_Clone_int Tryz.Vj b off n c zs w hz hbig hc
open Go.RowKit Go.Lib in
def Tryz.Pg:Go.Shelf.Ren:=⟨fun | 187=>209 | 255=>237 | n=>n,fun | 37=>22 | 5=>5 | 3=>3 | n=>n,fun | n=>n⟩
theorem Tryz.R4:Go.Proofs.Lays.n187 Tryz.prog Tryz.Pg:={
 mixed:=by kernel_rfl
 f187:=Tryz.func209.trans (congrArg some (by kernel_rfl))
 f255:=Tryz.func237.trans (congrArg some (by kernel_rfl))
 t3:=Tryz.underlying3
 a3:=Tryz.isAgg3
 z3:=Tryz.sizeOf3
 v3:=Tryz.zeroValue3
 t5:=Tryz.underlying5
 a5:=Tryz.isAgg5
 z5:=Tryz.sizeOf5
 v5:=Tryz.zeroValue5
 t37:=Tryz.underlying22
 a37:=Tryz.isAgg22
 z37:=Tryz.sizeOf22
 v37:=Tryz.zeroValue22}
open Go.RowKit Go.Lib in
theorem Tryz.bytes_IndexByte (b o n c:Nat) (xs:List Int) (cv:Int) (w:World) (hx:xs.length=n) (hc:∀i,i<n→w.cell? ⟨b,o+i,none⟩=some (.int .u8 (xs.getD i 0))):
  Calls Tryz.prog 209 #[.slice (some ⟨b,o,none⟩) n c, .int .u8 cv] w fun e w'=>e= .returned (.int .i64 (Lib.indexByte (Lib.bytesOf xs) cv.toNat.toUInt8))∧w'=w:=Any.bytes_IndexByte Tryz.R4 b o n c xs cv w hx hc
theorem Tryz.bytes_IndexByte_nil (cv:Int) (w:World):
  Calls Tryz.prog 209 #[.slice none 0 0, .int .u8 cv] w fun e w'=>e= .returned (.int .i64 (-1))∧w'=w:=Any.bytes_IndexByte_nil Tryz.R4 cv w
end Go.Proofs
namespace Go.Proofs.YtncnfncglacheaaGreatDoor
section
open Go Go.RowKit Mem
theorem dH (w:World) (o:Obj) (k:Nat) (h:k=w.heap.size):(w.alloc o).heap[k]?=some o:=by subst h;exact World.alloc_heap_new w _
def bN (p:Prop):Prop:=p
theorem bN.out {p:Prop} (h:p):bN p:=h
theorem bN.back {p:Prop} (h:bN p):p:=h
abbrev OC:={v:Value // v.oneCell'=true}
def oV (x:OC):Value:=x.1
theorem bF (x:OC):(oV x).oneCell'=true:=x.2
def oi (n:Int):OC:=⟨.int .i64 n,rfl⟩
def ob (b:Bool):OC:=⟨.bool b,rfl⟩
def os (s:ByteArray):OC:=⟨.string s,rfl⟩
def ow (n:Int):OC:=⟨.int .u64 n,rfl⟩
def on:OC:=⟨.slice none 0 0,rfl⟩
def stC (kind x:Int) (nm:ByteArray) (t e:Int):List OC:=
 [oi kind,oi x,oi 0,oi 0,oi 0,oi 0,oi 0,on,ob false,oi 0,on,on,ow 0,ow 0,ow 0,ow 0,oi 0,oi 0,oi 0,oi 0,ob false,on,on,oi 0,ob false,oi 0,oi 0,oi 0,oi 0,on,os nm,oi t,oi e]
theorem SS (kind x:Int) (nm:ByteArray) (t e:Int):(stC kind x nm t e).length=33:=rfl
theorem aQ {B:Nat} {w w':World} (h:Below B w w') {b:Nat} (i:Nat) (hb:B≤b) (v:Value):Below B w (w'.setCell ⟨b,i,none⟩ v):=h.setCell hb v
namespace Mem
variable {α:Type} {f:α→Value} {w:World} {l:List α} {P:Program} {ops:Array Oper} {rest:List Oper} {o:Oper} {a:Act} {Q:Exit→Act→World→Prop}
theorem GI {ty:TypeId} (T:bU P ty l.length) (x:Operand) (hw:Region.wanted o (yielded ops a.tmps)=true) (ho:o.op= .load ty x) (b off:Nat) (hx:a.eval x= .pointer (some ⟨b,off,none⟩)) (h:At f w b off l)
  {C:Array Value} (hC:C=(l.map f).toArray) (hk:wpList P ops Q rest (a.put o.dst (.agg C)) w):wpList P ops Q (o::rest) a w:=by
 subst hC;refine wpList_step fun K hK=> ?_;rw [aC hw];unfold Oper.wp execOp;simp only [ho,hx,Instr.loadAt,Instr.sureAddr,dR,iB,fT,je T h];exact hK _ _ hk
theorem Xc {u:Value} (op:Op) (hw:Region.wanted o (yielded ops a.tmps)=true) (ho:o.op=op) (hr:(execOp a.eval o).run P w= .ok (.value u) w) (hk:wpList P ops Q rest (a.put o.dst u) w):wpList P ops Q (o::rest) a w:=by
 have _:=ho;refine wpList_step fun K hK=> ?_;rw [aC hw];unfold Oper.wp;rw [hr];exact hK _ _ hk
end Mem
def FP (w:World) (v:Value) (nm:ByteArray):Prop:=
 ∃sb so sc bb bo bc ib io ic,v= .agg #[.slice (some ⟨sb,so,none⟩) 1 sc, .slice (some ⟨bb,bo,none⟩) 1 bc]∧(1≤sc∧1≤bc∧1≤ic)∧(At oV w sb so (stC 13 0 nm (-1) (-1))∧sb<w.heap.size)∧
  (w.cell? ⟨bb,bo,none⟩=some (.slice (some ⟨ib,io,none⟩) 1 ic)∧bb<w.heap.size)∧w.cell? ⟨ib,io,none⟩=some (.int .i64 0)∧ib<w.heap.size
theorem FP.below {w w':World} {v:Value} {nm:ByteArray} (h:FP w v nm) (hb:Below w.heap.size w w'):FP w' v nm:=by
 obtain ⟨sb,so,sc,bb,bo,bc,ib,io,ic,rfl,hcap,⟨h1,l1⟩,⟨h2,l2⟩,h3,l3⟩:=h;exact ⟨sb,so,sc,bb,bo,bc,ib,io,ic,rfl,hcap,⟨h1.below hb l1,bO l1 hb.size⟩,⟨(hb.cell (p:=⟨bb,bo,none⟩) l2).trans h2,bO l2 hb.size⟩,(hb.cell (p:=⟨ib,io,none⟩) l3).trans h3,bO l3 hb.size⟩
end
section
open Go Go.RowKit Mem
structure Sl where
 p:Option Addr
 n:Nat
 c:Nat
abbrev Sl.v (s:Sl):Value:= .slice s.p s.n s.c
def Sl.oc (s:Sl):OC:=⟨.slice s.p s.n s.c,rfl⟩
abbrev Sl.z:Sl:=⟨none,0,0⟩
def iV (n:Int):Value:= .int .i64 n
structure St where
 kind:Int
 X:Int:=0
 Y:Int:=0
 Z:Int:=0
 N:Int:=0
 I:Int:=0
 J:Int:=0
 B:Sl:=Sl.z
 last:Bool:=false
 ok:Int:=0
 old:Sl:=Sl.z
 new:Sl:=Sl.z
 c0:Int:=0
 c1:Int:=0
 c2:Int:=0
 c3:Int:=0
 rb:Int:=0
 rd:Int:=0
 rt:Int:=0
 ro:Int:=0
 rz:Bool:=false
 P:Sl:=Sl.z
 Ys:Sl:=Sl.z
 ck:Int:=0
 cn:Bool:=false
 cx:Int:=0
 cy:Int:=0
 cN:Int:=0
 cK:Int:=0
 cr:Sl:=Sl.z
 nm:ByteArray:=⟨#[]⟩
 t:Int:= -1
 e:Int:= -1
 lb:List UInt8:=[]
 agH:List UInt8:=[]
 ag6:List UInt8:=[]
 lys:List Int:=[]
 ext:World→Prop:=fun _=>True
def St.cs (s:St):List OC:=
 [oi s.kind,oi s.X,oi s.Y,oi s.Z,oi s.N,oi s.I,oi s.J,s.B.oc,ob s.last,oi s.ok,s.old.oc,s.new.oc,ow s.c0,ow s.c1,ow s.c2,ow s.c3,oi s.rb,oi s.rd,oi s.rt,oi s.ro,ob s.rz,s.P.oc,s.Ys.oc,
  oi s.ck,ob s.cn,oi s.cx,oi s.cy,oi s.cN,oi s.cK,s.cr.oc,os s.nm,oi s.t,oi s.e]
theorem St.jD (s:St):s.cs.length=33:=rfl
def Gl (w:World):Prop:=∃m,w.cell? ⟨0,0,none⟩=some (.int .i64 m)
theorem Gl.pos {w:World} (h:Gl w):0<w.heap.size:=by
 obtain ⟨m,hm⟩:=h;rcases Nat.eq_zero_or_pos w.heap.size with h0 | h0
 ·unfold World.cell? at hm;rw [qdm (by show w.heap.size≤0;omega)] at hm;cases hm
 ·exact h0
theorem Gl.below {w w':World} {B:Nat} (h:Gl w) (hB:0<B) (hb:Below B w w'):Gl w':=by
 obtain ⟨m,hm⟩:=h;exact ⟨m,(nU (a:=⟨0,0,none⟩) (hb.block 0 hB)).trans hm⟩
structure StD (w:World) (s:St):Prop where
 b:Rd aV w s.B.v s.lb
 old:Rd aV w s.old.v s.agH
 new:Rd aV w s.new.v s.ag6
 ys:Rd iV w s.Ys.v s.lys
 gl:1<s.lb.length→Gl w
 ex:∀W,Below w.heap.size w W→s.ext W
theorem StD.below {w w':World} {s:St} (h:StD w s) (hb:Below w.heap.size w w'):StD w' s:=⟨h.b.below hb,h.old.below hb,h.new.below hb,h.ys.below hb,fun hl=>(h.gl hl).below (h.gl hl).pos hb,fun W hW=>h.ex W (hb.trans (hW.mono hb.size))⟩
inductive Sd where
 | nil
 | cons (i:Nat) (t e rest:Sd)
def Sd.size:Sd→Nat
 | .nil=>0
 | .cons _ t e r=>1+t.size+e.size+r.size
def Aa (S:List St) (B:List (List Int)):List Int→Sd→Prop
 | l, .nil=>l=[]
 | l, .cons i t e r=>∃s l',l=(i:Int)::l'∧S[i]?=some s∧((s.t= -1∧t= .nil)∨∃k:Nat,s.t=k∧∃m,B[k]?=some m∧Aa S B m t)∧
   ((s.e= -1∧e= .nil)∨∃k:Nat,s.e=k∧∃m,B[k]?=some m∧Aa S B m e)∧Aa S B l' r
def Rep (S:List St) (B:List (List Int)) (k:Int) (b:Sd):Prop:=(k= -1∧b= .nil)∨∃n:Nat,k=n∧∃m,B[n]?=some m∧Aa S B m b
structure ZH (w:World) (ss bs:Sl) (S:List St) (B:List (List Int)):Prop where
 ns:ss.n=S.length
 nb:bs.n=B.length
 cs:ss.n≤ss.c
 cb:bs.n≤bs.c
 st:S=[]∨∃b o,ss.p=some ⟨b,o,none⟩∧b<w.heap.size∧∀j s,S[j]?=some s→At oV w b (o+j * 33) s.cs
 sd:∀s∈S,StD w s
 bl:B=[]∨∃b o,bs.p=some ⟨b,o,none⟩∧b<w.heap.size∧∀j l,B[j]?=some l→∃v,w.cell? ⟨b,o+j,none⟩=some v∧Rd iV w v l
theorem ZH.below {w w':World} {ss bs:Sl} {S:List St} {B:List (List Int)} (h:ZH w ss bs S B) (hb:Below w.heap.size w w'):ZH w' ss bs S B:=by
 refine ⟨h.ns,h.nb,h.cs,h.cb,?_,fun s hs=>(h.sd s hs).below hb,?_⟩
 ·rcases h.st with h0 | ⟨b,o,hp,hl,ha⟩
  ·exact .inl h0
  ·exact .inr ⟨b,o,hp,bO hl hb.size,fun j s hj=>(ha j s hj).below hb hl⟩
 ·rcases h.bl with h0 | ⟨b,o,hp,hl,ha⟩
  ·exact .inl h0
  ·refine .inr ⟨b,o,hp,bO hl hb.size,fun j l hj=> ?_⟩;obtain ⟨v,h1,h2⟩:=ha j l hj;exact ⟨v,(hb.cell (p:=⟨b,o+j,none⟩) hl).trans h1,h2.below hb⟩
structure Pl where
 live:Bool
 set:List Bool
def Pl.cs (p:Pl):List Bool:=p.live::p.set
structure Rp where
 reach:List Bool
 pos:Int
 err:Int
instance:Inhabited St:=⟨{kind:=0}⟩
def at' (S:List St) (i:Nat):St:=S.getD i default
structure Ex where
 s:List (List UInt8)
 n:List Int
 f:List (ByteArray×List UInt8)
 tr:List Int
inductive Out where
 | go (x:Ex)
 | brk (x:Ex)
 | halt (x:Ex) (ok:Bool) (code:Int)
def Out.then (o:Out) (f:Ex→Out):Out:=match o with
 | .go x=>f x
 | .brk x=> .brk x
 | .halt x ok c=> .halt x ok c
theorem Aa.nil {S:List St} {B:List (List Int)} {r:Sd} (h:Aa S B [] r):r= .nil:=by
 cases r with
 | nil=>rfl
 | cons i t e r=>obtain ⟨s,l',h,_⟩:=h;cases h
theorem Aa.cons {S:List St} {B:List (List Int)} {x:Int} {l:List Int} {r:Sd} (h:Aa S B (x::l) r):
  ∃i t e r' s,x=((i:Nat):Int)∧r= .cons i t e r'∧S[i]?=some s∧Rep S B s.t t∧Rep S B s.e e∧Aa S B l r':=by
 cases r with
 | nil=>cases h
 | cons i t e r=>
  obtain ⟨s,l',h,h1,h2,h3,h4⟩:=h;injection h with e1 e2
  subst e1 e2;exact ⟨i,t,e,r,s,rfl,rfl,h1,h2,h3,h4⟩
theorem Rep.open {S:List St} {B:List (List Int)} {k:Int} {b:Sd} (h:Rep S B k b) (hk:k≠ -1):∃n:Nat,k=n∧∃m,B[n]?=some m∧Aa S B m b:=by
 rcases h with ⟨h,_⟩ | h
 ·exact absurd h hk
 ·exact h
theorem ZH.block {w:World} {ss bs:Sl} {S:List St} {B:List (List Int)} (h:ZH w ss bs S B) {k:Nat} {l:List Int} (hk:B[k]?=some l):
  ∃b o v,bs.p=some ⟨b,o,none⟩∧w.cell? ⟨b,o+k,none⟩=some v∧Rd iV w v l∧b<w.heap.size∧k<bs.n:=by
 have hl:k<B.length:=(Kj.1 hk).1;rcases h.bl with h0 | ⟨b,o,h1,h2,h3⟩
 ·rw [h0] at hl;simp at hl
 ·obtain ⟨v,h4,h5⟩:=h3 k l hk;exact ⟨b,o,v,h1,h4,h5,h2,by rw [h.nb];exact hl⟩
def yu (w:World) (b:Nat) (ss bs:Sl):Prop:=w.heap[b]?=some (.cells #[ss.v,bs.v] 27 (0,0))
theorem yu.c0 {w:World} {b:Nat} {ss bs:Sl} (h:yu w b ss bs):w.cell? ⟨b,0,none⟩=some (.slice ss.p ss.n ss.c):=by unfold World.cell?;rw [h];rfl
theorem yu.c1 {w:World} {b:Nat} {ss bs:Sl} (h:yu w b ss bs):w.cell? ⟨b,1,none⟩=some (.slice bs.p bs.n bs.c):=by unfold World.cell?;rw [h];rfl
theorem yu.below {w w':World} {b K:Nat} {ss bs:Sl} (h:yu w b ss bs) (hb:Below K w w') (hK:b<K):yu w' b ss bs:=(hb.block b hK).trans h
def Qo (S:List St):Prop:=∀s∈S,s.kind=11→0≤s.I∧s.I≤8
theorem Qo.at {S:List St} (h:Qo S) {i:Nat} {s:St} (hi:S[i]?=some s) (hk:s.kind=11):0≤s.I∧s.I≤8:=h s (qdA hi) hk
end
section
open Go Go.RowKit Mem
variable {P:Program} {ops:Array Oper} {rest:List Oper} {o:Oper} {a:Act} {Q:Exit→Act→World→Prop} {w:World}
end
end Go.Proofs.YtncnfncglacheaaGreatDoor
